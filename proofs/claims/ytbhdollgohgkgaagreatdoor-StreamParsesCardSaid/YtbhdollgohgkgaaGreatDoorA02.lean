/-
  Parts of the proof. No condition.
-/
import Derived.Test.YtbhdollgohgkgaaGreatDoorA01
import Derived.Lib.AppendZeros
import Derived.Laws.StructEq
import Derived.ChangeKeysEq
namespace Go.Proofs.YtbhdollgohgkgaaGreatDoor.Pm
set_option linter.all false
set_option linter.unusedVariables false
set_option linter.unusedSimpArgs false
open Go.RowKit

variable {P : Program} {C : Ctx} {H : Heap} {w : World} {F : Nat → PV} {a : Act} {N : Nat}

/-- Cells, one by one. -/
def Rel (C : Ctx) (xs : List PV) (us : List Value) : Prop := ∀ (j : Nat) (x : PV) (u : Value), xs[j]? = some x → us[j]? = some u → VRel C x u
/-- Cells as they lie in memory from a place on. -/
def At (w : World) (b o : Nat) (us : List Value) : Prop := ∀ (j : Nat) (u : Value), us[j]? = some u → w.cell? ⟨b, o + j, none⟩ = some u

theorem Rel.drop {xs : List PV} {us : List Value} (h : Rel C xs us) (n : Nat) : Rel C (xs.drop n) (us.drop n) := fun j x u hx hu => by
  rw [List.getElem?_drop] at hx hu
  exact h _ x u hx hu
theorem Rel.take {xs : List PV} {us : List Value} (h : Rel C xs us) (n : Nat) : Rel C (xs.take n) (us.take n) := fun j x u hx hu => by
  rw [List.getElem?_take] at hx hu
  split at hx
  · rename_i hj; rw [if_pos hj] at hu; exact h _ x u hx hu
  · cases hx
theorem At.drop {b o : Nat} {us : List Value} (h : At w b o us) (n : Nat) : At w b (o + n) (us.drop n) := fun j u hu => by
  rw [List.getElem?_drop] at hu
  have := h _ u hu
  grind
theorem At.take {b o : Nat} {us : List Value} (h : At w b o us) (n : Nat) : At w b o (us.take n) := fun j u hu => by
  rw [List.getElem?_take] at hu
  split at hu
  · exact h _ u hu
  · cases hu
theorem Rel.append {xs ys : List PV} {us ws : List Value} (hl : us.length = xs.length) (h : Rel C xs us) (h' : Rel C ys ws) : Rel C (xs ++ ys) (us ++ ws) := fun j x u hx hu => by
  by_cases hj : j < xs.length
  · rw [List.getElem?_append_left hj] at hx
    rw [List.getElem?_append_left (by omega)] at hu
    exact h j x u hx hu
  · rw [List.getElem?_append_right (by omega)] at hx
    rw [List.getElem?_append_right (by omega), hl] at hu
    exact h' _ x u hx hu
theorem Rel.one {x : PV} {u : Value} (h : VRel C x u) : Rel C [x] [u] := fun j y v hy hv => by
  grind
theorem Rel.mono {C' : Ctx} (hle : CLe C C') {xs : List PV} {us : List Value} (h : Rel C xs us) : Rel C' xs us := fun j x u hx hu => (h j x u hx hu).mono hle
theorem Rel.oneCell {xs : List PV} {us : List Value} (h : Rel C xs us) (hl : us.length = xs.length) (hc : ∀ x ∈ xs, x.cell = true) : ∀ u ∈ us, u.oneCell' = true := by
  intro u hu
  obtain ⟨j, hj, rfl⟩ := List.getElem_of_mem hu
  have hjx : j < xs.length := by omega
  exact (h j xs[j] us[j] (List.getElem?_eq_getElem hjx) (List.getElem?_eq_getElem hj)).oneCell (hc _ (List.getElem_mem hjx))

theorem At.load {b o : Nat} {us : List Value} (h : At w b o us) : (loadCells ⟨b, o, none⟩ us.length).run P w = .ok us.toArray w :=
  run_loadCells_list w ⟨b, o, none⟩ us (fun j v hv => by rw [Addr.add_lit]; exact h j v hv)

theorem WRel.at_imm (hw : WRel C H w) {b o : Nat} {us : List Value} (h : ∀ (j : Nat) (u : Value), us[j]? = some u → C.M b (o + j) = some u) : At w b o us := fun j u hu => hw.imm _ _ _ (h j u hu)

theorem at_block {b : Nat} {cur : Array Value} {e : TypeId} {fr : Nat × Nat} (hb : w.heap[b]? = some (.cells cur e fr)) : At w b 0 cur.toList := fun j u hu => by
  simp only [World.cell?, hb, Nat.zero_add]
  simp_all

/-- The block behind an abstract one. -/
theorem WRel.blk (hw : WRel C H w) {id : Nat} {k : Blk} {b : Nat} (hk : H[id]? = some k) (hm : C.mu[id]? = some (some b)) : ∃ cur, C.cp[id]? = some cur.size ∧ w.heap[b]? = some (.cells cur k.e (0, 0)) ∧
    (∀ x ∈ k.cells, x.cell = true) ∧ k.cells.length ≤ cur.size ∧ At w b 0 (cur.toList.take k.cells.length) ∧ Rel C k.cells (cur.toList.take k.cells.length) ∧ (cur.toList.take k.cells.length).length = k.cells.length := by
  obtain ⟨cur, q3, _, q5, q6, q7, q8⟩ := hw.own id k b hk hm
  refine ⟨cur, q3, q5, q6, q7, (at_block q5).take _, fun j x u hx hu => ?_, by simp; omega⟩
  rw [List.getElem?_take] at hu
  split at hu
  · exact q8 j x u hx (by simpa using hu)
  · cases hu

/-! ### reading a variable -/
theorem aggT_run {t : TypeId} {b : Bool} (h : aggT P t = some b) : (isAgg t).run P w = .ok b w := by
  unfold aggT at h
  unfold isAgg
  split at h
  · rename_i hu; injection h with h; subst h; simp [run_underlying hu]
  · rename_i hu; injection h with h; subst h; simp [run_underlying hu]
  · rename_i d h1 h2 hu
    injection h with h
    subst h
    simp only [Sem.run_bind, run_underlying hu, Result.andThen_ok]
    rfl
  · cases h
theorem szT_run {t : TypeId} {n : Nat} (h : szT P t = some n) : (sizeOf t).run P w = .ok n w := by
  unfold szT at h
  cases hi : P.info? t with
  | none => simp [hi] at h
  | some i => simp [hi] at h; simp [sizeOf, typeInfo, hi, h]
theorem szT_info {t : TypeId} {n : Nat} (h : szT P t = some n) : ∃ i, P.info? t = some i ∧ i.size = n := by
  simp_all [szT, none]

theorem rd_sound {t : TypeId} {b o off : Nat} {xs : List PV} {us : List Value} {v : PV} (hl : us.length = xs.length) (hat : At w b o us) (hc : ∀ x ∈ xs, x.cell = true) (hR : Rel C xs us)
    (h : rd P t xs off = some v) : ∃ u, VRel C v u ∧ (loadVar t ⟨b, o + off, none⟩).run P w = .ok u w := by
  unfold rd at h
  split at h
  · rename_i ha
    split at h
    · rename_i n hn
      split at h
      · rename_i hle
        injection h with h
        subst h
        have hlen : ((us.drop off).take n).length = n := by simp; omega
        refine ⟨.agg ((us.drop off).take n).toArray, .agg (by simp; omega) (fun x hx => hc x (List.mem_of_mem_drop (List.mem_of_mem_take hx))) ((hR.drop off).take n), ?_⟩
        have hld := ((hat.drop off).take n).load (P := P)
        rw [hlen] at hld
        simp [loadVar, aggT_run ha, szT_run hn, hld]
      · cases h
    · cases h
  · rename_i ha
    have hlt : off < us.length := by
      grind
    refine ⟨us[off], hR off v us[off] h (List.getElem?_eq_getElem hlt), ?_⟩
    have hcell := hat off us[off] (List.getElem?_eq_getElem hlt)
    simp [loadVar, aggT_run ha, hcell]
  · cases h

theorem part_sound {t : TypeId} {off : Nat} {xs : List PV} {us : List Value} {v : PV} (hl : us.length = xs.length) (hc : ∀ x ∈ xs, x.cell = true) (hR : Rel C xs us)
    (h : rd P t xs off = some v) : ∃ u, VRel C v u ∧ (part t us.toArray off).run P w = .ok u w := by
  unfold rd at h
  split at h
  · rename_i ha
    split at h
    · rename_i n hn
      split at h
      · rename_i hle
        injection h with h
        subst h
        refine ⟨.agg ((us.drop off).take n).toArray, .agg (by simp; omega) (fun x hx => hc x (List.mem_of_mem_drop (List.mem_of_mem_take hx))) ((hR.drop off).take n), ?_⟩
        simp only [part, Sem.run_bind, aggT_run ha, szT_run hn, Result.andThen_ok, if_true, Sem.run_pure]
        congr 2
        apply Array.ext'
        simp [List.extract_eq_take_drop]
      · cases h
    · cases h
  · rename_i ha
    have hlt : off < us.length := by
      grind
    refine ⟨us[off], hR off v us[off] h (List.getElem?_eq_getElem hlt), ?_⟩
    simp [part, aggT_run ha, List.getElem?_eq_getElem hlt]
  · cases h

theorem pload_sound {t : TypeId} {x v : PV} {p : Value} (hw : WRel C H w) (hx : VRel C x p) (h : pload P H t x = some v) : ∃ u, VRel C v u ∧ (Instr.loadAt t p).run P w = .ok u w := by
  unfold pload at h
  split at h
  · unfold gload at h
    split at h
    · rename_i g
      split at h
      · rename_i l hg
        have hp : VRel C (.ip (l.map fun x => .int x.1 x.2) 0) (.pointer (some ⟨g, 0 + 0, none⟩)) := .ip (us := l.map fun x => .int x.1 x.2) (by simp) (fun j u hu => by
          rw [List.getElem?_map] at hu
          obtain ⟨y, hy, rfl⟩ := Option.map_eq_some_iff.1 hu
          rw [Nat.zero_add]
          exact hw.gl g l hg j y hy) (fun x hx => by
          obtain ⟨y, _, rfl⟩ := List.mem_map.1 hx
          rfl) (fun j x u hx hu => by
          rw [List.getElem?_map] at hx hu
          obtain ⟨y, hy, rfl⟩ := Option.map_eq_some_iff.1 hx
          rw [hy] at hu
          injection hu with hu
          rw [← hu]
          exact .int _ _)
        cases hx
        cases hp with
        | ip hl hM hc hR =>
          obtain ⟨u, hu, hr⟩ := rd_sound (P := P) (t := t) hl (hw.at_imm hM) hc hR h
          exact ⟨u, hu, by simp [Instr.loadAt, Instr.sureAddr, nlV] at hr ⊢; simpa using hr⟩
      · cases h
    · cases h
  · cases hx with
    | ip hl hM hc hR =>
      obtain ⟨u, hu, hr⟩ := rd_sound (P := P) (t := t) hl (hw.at_imm hM) hc hR h
      exact ⟨u, hu, by simp [Instr.loadAt, Instr.sureAddr, hr]⟩
  · split at h
    · rename_i k hk
      split at h
      · rename_i hver
        subst hver
        obtain ⟨b, q1, rfl⟩ := inv_ptr hw hx (hw.ver _ k hk)
        obtain ⟨cur, q3, q5, q6, q7, q8, q9, q10⟩ := hw.blk hk q1
        obtain ⟨u, hu, hr⟩ := rd_sound (P := P) (t := t) q10 q8 q6 q9 h
        rw [Nat.zero_add] at hr
        exact ⟨u, hu, by simp [Instr.loadAt, Instr.sureAddr, hr]⟩
      · cases h
    · cases h
  · cases h

/-! ### writing one -/
theorem set_eq_splice (xs : List PV) (off : Nat) (v : PV) (h : off < xs.length) : xs.set off v = splice xs off [v] := by
  simp_all [splice, List.set_eq_take_append_cons_drop]

theorem length_splice (xs ys : List PV) (off : Nat) (h : off + ys.length ≤ xs.length) : (splice xs off ys).length = xs.length := by
  simp [splice]; omega

theorem splice_rel {xs ys : List PV} {cur us : List Value} {off : Nat} (hl : us.length = ys.length) (hx : Rel C xs cur) (hy : Rel C ys us) (hoff : off + ys.length ≤ xs.length) (hxl : xs.length ≤ cur.length) :
    Rel C (splice xs off ys) (cur.take off ++ us ++ cur.drop (off + us.length)) := by
  unfold splice
  refine Rel.append (by simp; omega) (Rel.append (by simp; omega) (hx.take off) hy) ?_
  rw [hl]
  exact hx.drop _

theorem splice_cell {xs ys : List PV} {off : Nat} (hx : ∀ x ∈ xs, x.cell = true) (hy : ∀ x ∈ ys, x.cell = true) : ∀ x ∈ splice xs off ys, x.cell = true := by
  grind [splice, List.mem_of_mem_take, List.mem_of_mem_drop]

/-- Cells written into a block of the abstract heap. -/
theorem WRel.store (hw : WRel C H w) {id b off : Nat} {k : Blk} {cur : Array Value} (hk : H[id]? = some k) (hm : C.mu[id]? = some (some b)) (hb : w.heap[b]? = some (.cells cur k.e (0, 0)))
    (ys : List PV) (us : List Value) (hl : us.length = ys.length) (hc : ∀ x ∈ ys, x.cell = true) (hy : Rel C ys us) (hoff : off + ys.length ≤ k.cells.length) :
    ∃ C' w', CLe C C' ∧ WRel C' (H.set id ⟨k.e, k.ver, splice k.cells off ys⟩) w' ∧ Below C.B w w' ∧ (storeCells ⟨b, off, none⟩ us).run P w = .ok () w' := by
  obtain ⟨cur', p3, p5, p6, p7, p8, p9, p10⟩ := hw.blk hk hm
  rw [hb] at p5
  injection p5 with p5
  injection p5 with p5
  subst p5
  have hrel : Rel C k.cells cur.toList := by
    obtain ⟨cur2, _, _, r5, _, _, r8⟩ := hw.own id k b hk hm
    rw [hb] at r5
    injection r5 with r5
    injection r5 with r5
    subst r5
    exact fun j x u hx hu => r8 j x u hx (by simpa using hu)
  have hst := run_storeCells_at P b off k.e us 0 cur w hb (by omega) (hy.oneCell hl hc)
  rw [Nat.add_zero] at hst
  have hsp := splice_rel (off := off) hl hrel hy hoff (by simpa using p7)
  have hsize : (cur.toList.take off ++ us ++ cur.toList.drop (off + us.length)).toArray.size = cur.size := by simp; omega
  obtain ⟨c1, c2, c3⟩ := hw.write hk hm hb k.ver (Nat.le_refl _) (splice k.cells off ys) (cur.toList.take off ++ us ++ cur.toList.drop (off + us.length)).toArray hsize (splice_cell p6 hc)
    (by rw [hsize, length_splice _ _ _ hoff]; exact p7) (fun j x u hx hu => hsp j x u hx (by simpa using hu))
  exact ⟨_, _, c1, c2, c3, hst⟩

theorem pstore_sound {t : TypeId} {x v : PV} {p q : Value} {H' : Heap} (hw : WRel C H w) (hx : VRel C x p) (hv : VRel C v q) (h : pstore P H t x v = some H') :
    ∃ C' w', CLe C C' ∧ WRel C' H' w' ∧ Below C.B w w' ∧ (Instr.storeAt t p q).run P w = .ok () w' := by
  unfold pstore at h
  split at h
  · rename_i id0 ver0 off0
    split at h
    · rename_i k hk
      split at h
      · rename_i hver
        subst hver
        simp only [Option.map_eq_some_iff] at h
        obtain ⟨c, hc, rfl⟩ := h
        obtain ⟨b, q1, rfl⟩ := inv_ptr hw hx (hw.ver _ k hk)
        obtain ⟨cur, q3, q5, q6, q7, q8, q9, q10⟩ := hw.blk hk q1
        unfold wr at hc
        split at hc
        · rename_i cs
          split at hc
          · rename_i hh
            injection hc with hc
            subst hc
            cases hv with
            | agg hl hcc hR =>
              obtain ⟨C', w', c1, c2, c3, c4⟩ := hw.store (P := P) hk q1 q5 cs _ hl hcc hR hh.2
              refine ⟨C', w', c1, c2, c3, ?_⟩
              simp [Instr.storeAt, Instr.sureAddr, storeVar, szT_run hh.1, Value.cells, hl, c4]
          · cases hc
        · rename_i hna
          split at hc
          · rename_i hh
            injection hc with hc
            subst hc
            rw [set_eq_splice _ _ _ hh.2.2]
            obtain ⟨C', w', c1, c2, c3, c4⟩ := hw.store (P := P) (off := off0) hk q1 q5 [v] [q] rfl (by simpa using hh.2.1) (.one hv) (by have := hh.2.2; simp; omega)
            refine ⟨C', w', c1, c2, c3, ?_⟩
            have hcells : q.cells = #[q] := by
              have := hv.oneCell hh.2.1
              cases q <;> first | rfl | (simp [Value.oneCell'] at this)
            simp [Instr.storeAt, Instr.sureAddr, storeVar, szT_run hh.1, hcells, c4]
          · cases hc
      · cases h
    · cases h
  · cases h

end Go.Proofs.YtbhdollgohgkgaaGreatDoor.Pm

namespace Go.Proofs.YtbhdollgohgkgaaGreatDoor.Pm
set_option linter.all false
set_option linter.unusedVariables false
set_option linter.unusedSimpArgs false
open Go.RowKit

variable {P : Program} {C : Ctx} {H : Heap} {w : World} {F : Nat → PV} {a : Act} {N : Nat}

theorem pfieldAddr_sound {s : TypeId} {x v : PV} {p : Value} {f : Nat} (hw : WRel C H w) (hx : VRel C x p) (h : pfieldAddr P H s x f = some v) : ∃ u, VRel C v u ∧ (Instr.fieldAt s p f).run P w = .ok u w := by
  unfold pfieldAddr at h
  split at h
  · rename_i fs hu
    split at h
    · rename_i fd hfd
      split at h
      · rename_i n hn
        split at h
        case isFalse => cases h
        rename_i hpos
        obtain ⟨n, rfl⟩ := Nat.exists_eq_succ_of_ne_zero (Nat.pos_iff_ne_zero.1 hpos)
        split at h
        · rename_i xs off
          injection h with h
          subst h
          cases hx with
          | @ip _ _ b o us hl hM hc hR =>
            refine ⟨.pointer (some ⟨b, o + (off + fd.offset), none⟩), .ip hl hM hc hR, ?_⟩
            simp [Instr.fieldAt, run_underlying hu, hfd, Instr.sureAddr, fieldPlace, szT_run hn, Addr.add_lit, Nat.add_assoc]
        · rename_i id ver off
          split at h
          · rename_i hlv
            injection h with h
            subst h
            have hv := (live_vs hw hlv).1
            obtain ⟨b, hb, rfl⟩ := inv_ptr hw hx hv
            refine ⟨.pointer (some ⟨b, off + fd.offset, none⟩), .ptr hb hv, ?_⟩
            simp [Instr.fieldAt, run_underlying hu, hfd, Instr.sureAddr, fieldPlace, szT_run hn, Addr.add_lit]
          · cases h
        · cases h
      · cases h
    · cases h
  · cases h

theorem pfield_sound {s : TypeId} {x v : PV} {p : Value} {f : Nat} (hx : VRel C x p) (h : pfield P s x f = some v) : ∃ u, VRel C v u ∧ (Instr.field s p f).run P w = .ok u w := by
  unfold pfield at h
  split at h
  · rename_i fs hu
    split at h
    · rename_i fd hfd
      split at h
      · rename_i cs
        cases hx with
        | agg hl hc hR =>
          obtain ⟨u, hv, hr⟩ := part_sound (P := P) (w := w) hl hc hR h
          exact ⟨u, hv, by simp [Instr.field, run_underlying hu, hfd, asAgg, hr]⟩
      · cases h
    · cases h
  · cases h

theorem pindexAddr_sound {t : TypeId} {x i v : PV} {p q : Value} (hw : WRel C H w) (hx : VRel C x p) (hi : VRel C i q) (h : pindexAddr P H t x i = some v) :
    ∃ u, VRel C v u ∧ (Instr.indexAt t p q).run P w = .ok u w := by
  unfold pindexAddr at h
  split at h
  · rename_i e xs len full k i hu
    obtain rfl := inv_int hi
    split at h
    · rename_i n hn
      split at h
      · rename_i hh
        injection h with h
        subst h
        cases hx with
        | @slice _ _ cap b o _ us hl hM hc hR hcap hmax hf =>
          refine ⟨.pointer (some ⟨b, o + i.toNat * n, none⟩), .ip hl hM hc hR, ?_⟩
          simp [Instr.indexAt, asIntOf, run_underlying hu, szT_run hn, hh.1, hh.2.1, Addr.add_lit]
        | sliceN => omega
      · cases h
    · cases h
  · rename_i e id ver off len sz g k i hu
    obtain rfl := inv_int hi
    split at h
    · rename_i n hn hlv
      split at h
      · rename_i hh
        injection h with h
        subst h
        have hv := (live_vs hw hlv).1
        obtain ⟨b, cap, off', hb, rfl, hc1, hc2, ho, _⟩ | ⟨ad, _, h0, _⟩ := inv_msl hw hx hv
        rotate_left
        · omega
        obtain rfl := ho (by omega)
        refine ⟨.pointer (some ⟨b, off' + i.toNat * n, none⟩), .ptr hb hv, ?_⟩
        simp [Instr.indexAt, asIntOf, run_underlying hu, szT_run hn, hh.1, hh.2, Addr.add_lit]
      · cases h
    · cases h
  · rename_i len e id ver off k i hu
    obtain rfl := inv_int hi
    split at h
    · rename_i n hn hlv
      split at h
      · rename_i hh
        injection h with h
        subst h
        have hv := (live_vs hw hlv).1
        obtain ⟨b, hb, rfl⟩ := inv_ptr hw hx hv
        refine ⟨.pointer (some ⟨b, off + i.toNat * n, none⟩), .ptr hb hv, ?_⟩
        simp [Instr.indexAt, asIntOf, run_underlying hu, szT_run hn, hh.1, hh.2, Addr.add_lit, Instr.sureAddr]
      · cases h
    · cases h
  · rename_i len e xs off k i hu
    obtain rfl := inv_int hi
    split at h
    · rename_i n hn
      split at h
      · rename_i hh
        injection h with h
        subst h
        cases hx with
        | @ip _ _ b o us hl hM hc hR =>
          refine ⟨.pointer (some ⟨b, o + (off + i.toNat * n), none⟩), .ip hl hM hc hR, ?_⟩
          simp [Instr.indexAt, asIntOf, run_underlying hu, szT_run hn, hh.1, hh.2, Addr.add_lit, Instr.sureAddr, Nat.add_assoc]
      · cases h
    · cases h
  · cases h

theorem pindex_sound {t : TypeId} {x i v : PV} {p q : Value} (hx : VRel C x p) (hi : VRel C i q) (h : pindex P t x i = some v) : ∃ u, VRel C v u ∧ (Instr.index t p q).run P w = .ok u w := by
  unfold pindex at h
  split at h
  · rename_i len e cs k i hu
    obtain rfl := inv_int hi
    split at h
    · rename_i n hn
      split at h
      · rename_i hh
        cases hx with
        | agg hl hc hR =>
          obtain ⟨u, hv, hr⟩ := part_sound (P := P) (w := w) hl hc hR h
          exact ⟨u, hv, by simp [Instr.index, asIntOf, run_underlying hu, szT_run hn, hh.1, hh.2, hr]⟩
      · cases h
    · cases h
  · rename_i s k i hu
    obtain rfl := inv_int hi
    split at h
    · rename_i hh
      injection h with h
      subst h
      obtain ⟨s', rfl, rfl⟩ := inv_str hx
      have hsz : s'.size = s'.data.toList.length := by rfl
      have hlt : i.toNat < s'.size := by omega
      refine ⟨_, .int _ _, ?_⟩
      have hg : s'[i.toNat]? = some s'[i.toNat] := ByteArray.getElem?_lt' s' _ hlt
      have hb : s'.data.toList.getD i.toNat 0 = s'[i.toNat] := by
        rw [List.getD_eq_getElem?_getD, List.getElem?_eq_getElem (by omega), Option.getD_some, Array.getElem_toList]
        rfl
      simp only [Instr.index, asIntOf, Sem.run_bind, Sem.run_pure, Result.andThen_ok, run_underlying hu, hh.1, if_true, hg, hb]
    · cases h
  · cases h

/-- Options of values. -/
def ORel (C : Ctx) (x : Option PV) (v : Option Value) : Prop := match x, v with | none, none => True | some x, some v => VRel C x v | _, _ => False

theorem bound_run {x : PV} {v : Value} {d n y : Nat} {code : BoundsCode} (hx : VRel C x v) (h : pbound d (some x) = some n) (hy : n ≤ y) : (Instr.sliceBound v y code).run P w = .ok n w := by
  unfold pbound at h
  split at h
  · simp_all
  · rename_i k i hx'
    injection hx' with hx'
    subst hx'
    obtain rfl := inv_int hx
    split at h
    · injection h with h
      subst h
      have : i ≤ (y : Int) := by omega
      simp [Instr.sliceBound, asIntOf, *]
    · cases h
  · cases h

theorem bounds_run {isSlice : Bool} {len cap l h m : Nat} {lo hi mx : Option PV} {lo' hi' mx' : Option Value} (rlo : ORel C lo lo') (rhi : ORel C hi hi') (rmx : ORel C mx mx')
    (h1 : pbound 0 lo = some l) (h2 : pbound len hi = some h) (h3 : (mx = none ∧ m = cap ∧ h ≤ cap) ∨ (pbound len mx = some m ∧ mx ≠ none ∧ hi ≠ none ∧ h ≤ m ∧ m ≤ cap)) (hlh : l ≤ h) :
    (Instr.sliceBounds isSlice len cap lo' hi' mx').run P w = .ok (l, h, m) w := by
  rcases h3 with ⟨rfl, rfl, h4⟩ | ⟨h3, hm, hh, h4, h5⟩
  · cases mx' with
    | some _ => exact rmx.elim
    | none =>
      cases hi with
      | none =>
        cases hi' with
        | some _ => exact rhi.elim
        | none =>
          simp only [pbound, Option.some.injEq] at h2
          subst h2
          cases lo with
          | none =>
            cases lo' with
            | some _ => exact rlo.elim
            | none => simp only [pbound, Option.some.injEq] at h1; subst h1; simp [Instr.sliceBounds]
          | some x =>
            cases lo' with
            | none => exact rlo.elim
            | some v => simp [Instr.sliceBounds, bound_run (P := P) (w := w) rlo h1 hlh]
      | some y =>
        cases hi' with
        | none => exact rhi.elim
        | some v' =>
          cases lo with
          | none =>
            cases lo' with
            | some _ => exact rlo.elim
            | none => simp only [pbound, Option.some.injEq] at h1; subst h1; simp [Instr.sliceBounds, bound_run (P := P) (w := w) rhi h2 h4]
          | some x =>
            cases lo' with
            | none => exact rlo.elim
            | some v => simp [Instr.sliceBounds, bound_run (P := P) (w := w) rhi h2 h4, bound_run (P := P) (w := w) rlo h1 hlh]
  · cases mx with
    | none => exact absurd rfl hm
    | some z =>
      cases mx' with
      | none => exact rmx.elim
      | some vz =>
        cases hi with
        | none => exact absurd rfl hh
        | some y =>
          cases hi' with
          | none => exact rhi.elim
          | some v' =>
            cases lo with
            | none =>
              cases lo' with
              | some _ => exact rlo.elim
              | none => simp only [pbound, Option.some.injEq] at h1; subst h1; simp [Instr.sliceBounds, bound_run (P := P) (w := w) rmx h3 h5, bound_run (P := P) (w := w) rhi h2 h4]
            | some x =>
              cases lo' with
              | none => exact rlo.elim
              | some v => simp [Instr.sliceBounds, bound_run (P := P) (w := w) rmx h3 h5, bound_run (P := P) (w := w) rhi h2 h4, bound_run (P := P) (w := w) rlo h1 hlh]

/-- A window of cells that are never written. -/
theorem window_rel {xs : List PV} {len cap b o l h m n : Nat} {full : Bool} {us : List Value} (hl : us.length = xs.length) (hM : ∀ (j : Nat) (u : Value), us[j]? = some u → C.M b (o + j) = some u)
    (hc : ∀ x ∈ xs, x.cell = true) (hR : Rel C xs us) (hxs : xs.length = len * n) (h1 : l ≤ h) (h2 : h ≤ m) (h3 : m ≤ cap) (h4 : h ≤ len) (hmax : cap ≤ maxLen) (hf : full = true → m = h) :
    VRel C (.slice ((xs.drop (l * n)).take ((h - l) * n)) (h - l) full) (.slice (if m = l then some ⟨b, o, none⟩ else some ⟨b, o + l * n, none⟩) (h - l) (m - l)) := by
  have hln : (h - l) * n + l * n = h * n := by rw [← Nat.add_mul]; congr 1; omega
  have hhn : h * n ≤ len * n := Nat.mul_le_mul_right n h4
  have hlen : ((us.drop (l * n)).take ((h - l) * n)).length = ((xs.drop (l * n)).take ((h - l) * n)).length := by simp [hl]
  split
  · have : h = l := by omega
    subst this
    refine .slice (us := []) (by simp) (fun j u hu => by simp at hu) (fun x hx => by simp at hx) (fun j x u hx => by simp at hx) (by omega) (by omega) (fun hft => by have := hf hft; omega)
  · refine .slice hlen (fun j u hu => ?_) (fun x hx => hc x (List.mem_of_mem_drop (List.mem_of_mem_take hx))) ((hR.drop _).take _) (by omega) (by omega) (fun hft => by have := hf hft; omega)
    rw [List.getElem?_take] at hu
    split at hu
    · rw [List.getElem?_drop] at hu
      have := hM _ u hu
      rwa [← Nat.add_assoc] at this
    · cases hu

theorem pslice_sound {t : TypeId} {x v : PV} {p : Value} {lo hi mx : Option PV} {lo' hi' mx' : Option Value} (hw : WRel C H w) (hx : VRel C x p) (rlo : ORel C lo lo') (rhi : ORel C hi hi') (rmx : ORel C mx mx')
    (h : pslice P H t x lo hi mx = some v) : ∃ u, VRel C v u ∧ (Instr.sliceAt t p lo' hi' mx').run P w = .ok u w := by
  unfold pslice at h
  split at h
  · rename_i e xs len full hu
    split at h
    · rename_i n l hh hn hl hhi
      split at h
      · split at h
        · rename_i hq
          injection h with h
          subst h
          cases hx with
          | @slice _ _ cap b o _ us hll hM hc hR hcap hmax hf =>
            have hb := bounds_run (P := P) (w := w) (isSlice := true) (cap := cap) (m := cap) rlo rhi rmx hl hhi (.inl ⟨rfl, rfl, by omega⟩) hq.1
            refine ⟨_, window_rel hll hM hc hR hq.2.2 hq.1 (by omega : hh ≤ cap) (Nat.le_refl _) hq.2.1 hmax (fun hft => by simp at hft; have := hf hft.1; omega), ?_⟩
            simp [Instr.sliceAt, Instr.slice, run_underlying hu, hb, szT_run hn, Addr.add_lit]
          | sliceN ad =>
            have hb := bounds_run (P := P) (w := w) (isSlice := true) (cap := 0) (m := 0) rlo rhi rmx hl hhi (.inl ⟨rfl, rfl, by omega⟩) hq.1
            have e1 : hh = 0 := by omega
            have e2 : l = 0 := by omega
            subst e1 e2
            refine ⟨.slice ad 0 0, by simpa using VRel.sliceN (C := C) ad _, ?_⟩
            cases ad <;> simp [Instr.sliceAt, Instr.slice, run_underlying hu, hb, szT_run hn, Addr.add]
        · cases h
      · rename_i z
        split at h
        · rename_i m y hm
          split at h
          · rename_i hq
            injection h with h
            subst h
            cases hx with
            | @slice _ _ cap b o _ us hll hM hc hR hcap hmax hf =>
              have hb := bounds_run (P := P) (w := w) (isSlice := true) (cap := cap) (m := m) rlo rhi rmx hl hhi (.inr ⟨hm, by simp, by simp, hq.2.1, by omega⟩) hq.1
              refine ⟨_, window_rel hll hM hc hR hq.2.2.2 hq.1 hq.2.1 (by omega : m ≤ cap) (by omega) hmax (fun hft => by simpa using hft), ?_⟩
              simp [Instr.sliceAt, Instr.slice, run_underlying hu, hb, szT_run hn, Addr.add_lit]
            | sliceN ad =>
              have hb := bounds_run (P := P) (w := w) (isSlice := true) (cap := 0) (m := m) rlo rhi rmx hl hhi (.inr ⟨hm, by simp, by simp, hq.2.1, by omega⟩) hq.1
              have e3 : m = 0 := by omega
              have e1 : hh = 0 := by omega
              have e2 : l = 0 := by omega
              subst e1 e2 e3
              refine ⟨.slice ad 0 0, by simpa using VRel.sliceN (C := C) ad _, ?_⟩
              cases ad <;> simp [Instr.sliceAt, Instr.slice, run_underlying hu, hb, szT_run hn, Addr.add]
          · cases h
        · cases h
    · cases h
  · rename_i e id ver off len sz g hu
    split at h
    · rename_i n l hh hn hl hhi hlv
      split at h
      · rename_i hq
        injection h with h
        subst h
        have hv := (live_vs hw hlv).1
        obtain ⟨b, cap, off', hb', rfl, hc1, hc2, ho, hg⟩ | ⟨ad, hgh, h0, rfl⟩ := inv_msl hw hx hv
        rotate_left
        · have e1 : hh = 0 := by omega
          have e2 : l = 0 := by omega
          subst e1 e2 h0
          have hb := bounds_run (P := P) (w := w) (isSlice := true) (cap := 0) (m := 0) rlo rhi rmx hl hhi (.inl ⟨rfl, rfl, by omega⟩) hq.1
          refine ⟨.slice ad 0 0, .mslG ad hgh hv, ?_⟩
          cases ad <;> simp [Instr.sliceAt, Instr.slice, run_underlying hu, hb, szT_run hn, Addr.add]
        have hb := bounds_run (P := P) (w := w) (isSlice := true) (cap := cap) (m := cap) rlo rhi rmx hl hhi (.inl ⟨rfl, rfl, by omega⟩) hq.1
        have hrun : (Instr.sliceAt t (.slice (some ⟨b, off', none⟩) len cap) lo' hi' mx').run P w = .ok (.slice (if cap = l then some ⟨b, off', none⟩ else some ⟨b, off' + l * n, none⟩) (hh - l) (cap - l)) w := by
          simp [Instr.sliceAt, Instr.slice, run_underlying hu, hb, szT_run hn, Addr.add_lit]
        refine ⟨_, ?_, hrun⟩
        cases lo with
        | none =>
          simp only [pbound, Option.some.injEq] at hl
          subst hl
          simp only [Nat.zero_mul, Nat.add_zero, Nat.sub_zero, ite_self]
          cases g with
          | true =>
            obtain ⟨g1, g2, g3⟩ := hg rfl
            subst g1 g2
            exact .msl hb' hv (by omega) hc2 (fun _ => ⟨rfl, g3⟩)
          | false =>
            rcases Nat.eq_zero_or_pos hh with h0 | h0
            · subst h0; exact .mslE hb' hv hc2
            · obtain rfl := ho (by omega)
              exact .msl hb' hv (by omega) hc2 (fun hf => by cases hf)
        | some y =>
          show VRel C (.msl id ver (off + l * n) (hh - l) sz false) _
          rcases Nat.eq_zero_or_pos (hh - l) with h0 | h0
          · rw [h0]
            by_cases hcl : cap = l
            · rw [if_pos hcl]; exact .mslE hb' hv (by omega)
            · rw [if_neg hcl]; exact .mslE hb' hv (by omega)
          · obtain rfl := ho (by omega)
            rw [if_neg (by omega)]
            exact .msl hb' hv (by omega) (by omega) (fun hf => by cases hf)
      · cases h
    · cases h
  · rename_i len e id ver off hu
    split at h
    · rename_i n l hh hn hl hhi hlv
      split at h
      · rename_i hq
        injection h with h
        subst h
        have hv := (live_vs hw hlv).1
        obtain ⟨b, hb', rfl⟩ := inv_ptr hw hx hv
        have hb := bounds_run (P := P) (w := w) (isSlice := false) (cap := len) (m := len) rlo rhi rmx hl hhi (.inl ⟨rfl, rfl, by omega⟩) hq.1
        have hrun : (Instr.sliceAt t (.pointer (some ⟨b, off, none⟩)) lo' hi' mx').run P w = .ok (.slice (some (if len = l then ⟨b, off, none⟩ else ⟨b, off + l * n, none⟩)) (hh - l) (len - l)) w := by
          simp [Instr.sliceAt, run_underlying hu, hb, szT_run hn, Addr.add_lit, Instr.sureAddr]
        refine ⟨_, ?_, hrun⟩
        have hmx : len ≤ maxLen := by simp only [maxLen]; omega
        rcases Nat.eq_zero_or_pos (hh - l) with h0 | h0
        · rw [h0]
          split
          · exact .mslE hb' hv (by omega)
          · exact .mslE hb' hv (by omega)
        · rw [if_neg (by omega)]
          exact .msl hb' hv (by omega) (by omega) (fun hf => by cases hf)
      · cases h
    · cases h
  · rename_i s hu
    split at h
    · rename_i l hh hl hhi
      split at h
      · rename_i hq
        injection h with h
        subst h
        obtain ⟨s', rfl, rfl⟩ := inv_str hx
        have hsz : s'.size = s'.data.toList.length := by rfl
        cases mx' with
        | some _ => exact rmx.elim
        | none =>
          rw [← hsz] at hhi
          have hb := bounds_run (P := P) (w := w) (isSlice := false) (cap := s'.size) (m := s'.size) rlo rhi rmx hl hhi (.inl ⟨rfl, rfl, by omega⟩) hq.1
          refine ⟨.string (s'.extract l hh), ?_, ?_⟩
          · have := VRel.str (C := C) (s'.extract l hh)
            rw [ByteArray.data_extract, Array.toList_extract, List.extract_eq_take_drop] at this
            exact this
          · simp [Instr.sliceAt, Instr.slice, run_underlying hu, hb]
      · cases h
    · cases h
  · cases h

end Go.Proofs.YtbhdollgohgkgaaGreatDoor.Pm

namespace Go.Proofs.YtbhdollgohgkgaaGreatDoor.Pm
set_option linter.all false
set_option linter.unusedVariables false
set_option linter.unusedSimpArgs false
open Go.RowKit

variable {P : Program} {C : Ctx} {H : Heap} {w : World} {F : Nat → PV} {a : Act} {N : Nat}

theorem cells_rel {v : PV} {u : Value} (h : v.cells.all PV.cell = true) (hv : VRel C v u) : Rel C v.cells u.cells.toList ∧ u.cells.toList.length = v.cells.length := by
  have single : v.cell = true → v.cells = [v] → Rel C v.cells u.cells.toList ∧ u.cells.toList.length = v.cells.length := fun hc he => by
    have h1 := hv.oneCell hc
    have hcells : u.cells = #[u] := by cases u <;> first | rfl | (simp [Value.oneCell'] at h1)
    rw [he, hcells]
    exact ⟨.one hv, rfl⟩
  cases v with
  | agg cs =>
    cases hv with
    | agg hl hc hR => exact ⟨by simpa [PV.cells, Value.cells, Rel] using hR, by simp [PV.cells, Value.cells, hl]⟩
  | _ => first | exact single rfl rfl | (simp [PV.cells, PV.cell] at h)

/-! ### 'fill' -/
theorem fold_set : ∀ (vs : List Value) (k : Nat) (cs : Array Value) (off : Nat), off + k + vs.length ≤ cs.size →
    (((vs.zipIdx k).foldl (fun (cs : Array Value) (x : Value × Nat) => cs.setIfInBounds (off + x.2) x.1) cs)).toList = cs.toList.take (off + k) ++ vs ++ cs.toList.drop (off + k + vs.length)
  | [], k, cs, off, _ => by simp
  | v :: rest, k, cs, off, h => by
    simp only [List.zipIdx_cons, List.foldl_cons]
    rw [fold_set rest (k + 1) _ off (by simp at h ⊢; omega)]
    have e := list_seg_step cs.toList (off + k) v rest (by simp at h ⊢; omega)
    simpa [Array.toList_setIfInBounds, Nat.add_assoc] using e

theorem pfill_sound (place : Nat → Option (Nat × Nat)) : ∀ (parts : List (Nat × PV)) (parts' : List (Nat × Value)) (zs ys : List PV) (cs : Array Value), parts'.length = parts.length →
    (∀ (j : Nat) (p : Nat × PV) (q : Nat × Value), parts[j]? = some p → parts'[j]? = some q → q.1 = p.1 ∧ VRel C p.2 q.2) → Rel C zs cs.toList → zs.length = cs.size → (∀ x ∈ zs, x.cell = true) →
    pfill place zs parts = some ys → ∃ cs', Instr.fill place cs parts' = some cs' ∧ Rel C ys cs'.toList ∧ ys.length = cs'.size ∧ ∀ x ∈ ys, x.cell = true
  | [], parts', zs, ys, cs, hl, _, hz, hzl, hzc, h => by
    have : parts' = [] := List.eq_nil_of_length_eq_zero (by simpa using hl)
    subst this
    simp only [pfill, Option.some.injEq] at h
    subst h
    exact ⟨cs, rfl, hz, hzl, hzc⟩
  | (i, v) :: rest, [], zs, ys, cs, hl, _, _, _, _, _ => by simp at hl
  | (i, v) :: rest, (i', u) :: rest', zs, ys, cs, hl, hp, hz, hzl, hzc, h => by
    obtain ⟨e0, hvu⟩ := hp 0 (i, v) (i', u) rfl rfl
    simp only at e0 hvu
    subst e0
    simp only [pfill] at h
    split at h
    · cases h
    · rename_i off size hpl
      split at h
      · rename_i hq
        obtain ⟨hcr, hcl⟩ := cells_rel hq.2.2 hvu
        have hcl' : u.cells.size = v.cells.length := by omega
        have hfold := fold_set u.cells.toList 0 cs off (by simp; omega)
        simp only [Nat.add_zero] at hfold
        have hsp := splice_rel (off := off) hcl hz hcr (by omega) (by simp; omega)
        have hlen : (splice zs off v.cells).length = zs.length := length_splice _ _ _ (by omega)
        let cs2 : Array Value := (u.cells.toList.zipIdx 0).foldl (fun (cs : Array Value) (x : Value × Nat) => cs.setIfInBounds (off + x.2) x.1) cs
        have h2 : cs2.toList = cs.toList.take off ++ u.cells.toList ++ cs.toList.drop (off + u.cells.toList.length) := hfold
        have h2s : cs2.size = cs.size := by grind [Array.length_toList]
        obtain ⟨cs', e1, e2, e3, e4⟩ := pfill_sound place rest rest' (splice zs off v.cells) ys cs2 (by simpa using hl) (fun j p q hj hj' => hp (j + 1) p q (by simpa using hj) (by simpa using hj'))
          (by rw [h2]; exact hsp) (by rw [hlen, h2s]; exact hzl) (splice_cell hzc (fun x hx => List.all_eq_true.1 hq.2.2 x hx)) h
        refine ⟨cs', ?_, e2, e3, e4⟩
        have hc1 : ¬ (u.cells.size ≠ size || off + u.cells.size > cs.size) = true := by simp; omega
        simp only [Instr.fill, hpl, if_neg hc1]
        grind [Array.toList_zipIdx]
      · cases h

theorem zcells_of {t : TypeId} {z : List PV} (h : zcells P t = some z) : ∃ i zv, P.info? t = some i ∧ i.zero = some zv ∧ (∀ C : Ctx, Rel C z zv.cells.toList) ∧ zv.cells.toList.length = z.length ∧ ∀ x ∈ z, x.cell = true := by
  unfold zcells zrT at h
  cases hi : P.info? t with
  | none => simp [hi] at h
  | some i =>
    cases hz : i.zero with
    | none => simp [hi, hz] at h
    | some zv =>
      simp only [hi, hz, Option.bind_some, Option.map_some] at h
      split at h
      · rename_i hall
        injection h with h
        subst h
        exact ⟨i, zv, rfl, hz, fun C => (cells_rel hall (pvc_rel zv)).1, (cells_rel (C := ⟨0, fun _ _ => none, [], [], [], 0⟩) hall (pvc_rel zv)).2, fun x hx => List.all_eq_true.1 hall x hx⟩
      · cases h

theorem places_of : ∀ (fs : List Field), fs.all (fun f => (szT P f.type).isSome) = true → ∃ places, fs.mapM (fun f => (P.info? f.type).map fun i => (f.offset, i.size)) = some places ∧ ∀ i, places[i]? = fieldPlaces P fs i
  | [], _ => ⟨[], by simp, fun i => by simp [fieldPlaces]⟩
  | f :: fs, h => by
    simp only [List.all_cons, Bool.and_eq_true] at h
    obtain ⟨ps, e1, e2⟩ := places_of fs h.2
    obtain ⟨n, hn⟩ := Option.isSome_iff_exists.1 h.1
    obtain ⟨i, hi, hs⟩ := szT_info hn
    refine ⟨(f.offset, i.size) :: ps, ?_, ?_⟩
    · simp_all
    grind [fieldPlaces]

theorem parts_rel (r : FRel C N F a) (parts : Array (Nat × Operand)) : ((parts.map fun (i, x) => (i, a.eval x)).toList).length = (parts.toList.map fun p => (p.1, ev F p.2)).length ∧
    ∀ (j : Nat) (p : Nat × PV) (q : Nat × Value), (parts.toList.map fun p => (p.1, ev F p.2))[j]? = some p → ((parts.map fun (i, x) => (i, a.eval x)).toList)[j]? = some q → q.1 = p.1 ∧ VRel C p.2 q.2 := by
  refine ⟨by simp, fun j p q hp hq => ?_⟩
  simp only [Array.toList_map, List.getElem?_map, Option.map_eq_some_iff] at hp hq
  obtain ⟨x, hx, rfl⟩ := hp
  obtain ⟨y, hy, rfl⟩ := hq
  rw [hx] at hy
  injection hy with hy
  subst hy
  exact ⟨rfl, ev_rel r _⟩

theorem pbuild_sound {t : TypeId} {parts : List (Nat × PV)} {parts' : Array (Nat × Value)} {v : PV} (hl : parts'.toList.length = parts.length)
    (hp : ∀ (j : Nat) (p : Nat × PV) (q : Nat × Value), parts[j]? = some p → parts'.toList[j]? = some q → q.1 = p.1 ∧ VRel C p.2 q.2) (h : pbuild P t parts = some v) :
    ∃ u, VRel C v u ∧ (Instr.build t parts').run P w = .ok u w := by
  unfold pbuild at h
  split at h
  · rename_i fs z hu hz
    obtain ⟨i, zv, hi, hzv, hzr, hzl, hzc⟩ := zcells_of hz
    split at h
    · rename_i hall
      obtain ⟨ps, e1, e2⟩ := places_of fs.toList hall
      simp only [Option.map_eq_some_iff] at h
      obtain ⟨ys, hys, rfl⟩ := h
      have hpl : (fun x => ps.toArray[x]?) = fieldPlaces P fs.toList := funext fun i => by simp_all
      obtain ⟨cs', q1, q2, q3, q4⟩ := pfill_sound (C := C) (fieldPlaces P fs.toList) parts parts'.toList z ys zv.cells hl hp (hzr C) (by simpa using hzl.symm) hzc hys
      have hb : P.built t parts'.toList = some cs' := by
        unfold Program.built
        simp_all
      exact ⟨.agg cs', by simpa using VRel.agg (C := C) (us := cs'.toList) (by simpa using q3.symm) q4 q2, run_build w t parts' cs' hb⟩
    · cases h
  · rename_i len e z hu hz
    obtain ⟨i, zv, hi, hzv, hzr, hzl, hzc⟩ := zcells_of hz
    split at h
    · rename_i n hn
      obtain ⟨ie, hie, hs⟩ := szT_info hn
      simp only [Option.map_eq_some_iff] at h
      obtain ⟨ys, hys, rfl⟩ := h
      obtain ⟨cs', q1, q2, q3, q4⟩ := pfill_sound (C := C) _ parts parts'.toList z ys zv.cells hl hp (hzr C) (by simpa using hzl.symm) hzc hys
      have hb : P.built t parts'.toList = some cs' := by
        unfold Program.built
        simp_all
      exact ⟨.agg cs', by simpa using VRel.agg (C := C) (us := cs'.toList) (by simpa using q3.symm) q4 q2, run_build w t parts' cs' hb⟩
    · cases h
  · cases h

/-! ### rows of zeros -/
theorem reps_getElem? (z : List PV) (hz : 0 < z.length) : ∀ (n j : Nat), (reps n z)[j]? = if j < n * z.length then z[j % z.length]? else none
  | 0, j => by simp [reps]
  | n + 1, j => by
    have e : reps (n + 1) z = z ++ reps n z := by rfl
    rw [e]
    by_cases hj : j < z.length
    · grind [List.getElem?_append_left, Nat.add_mul, Nat.mod_eq_of_lt]
    · rw [List.getElem?_append_right (by omega), reps_getElem? z hz n]
      have e2 : (n + 1) * z.length = n * z.length + z.length := by grind
      have e3 : j % z.length = (j - z.length) % z.length := by
        conv => lhs; rw [show j = (j - z.length) + z.length by omega, Nat.add_mod_right]
      grind
theorem length_reps (z : List PV) (n : Nat) : (reps n z).length = n * z.length := by simp [reps]
theorem reps_cell {z : List PV} {n : Nat} (h : ∀ x ∈ z, x.cell = true) : ∀ x ∈ reps n z, x.cell = true := fun x hx => by
  grind [reps, List.mem_flatten]

/-- The model's row of zeros. -/
theorem made_rel {z : List PV} {zv : Array Value} {n m : Nat} (hzl : zv.toList.length = z.length) (hz : Rel C z zv.toList) (hpos : 0 < z.length) (hm : n * z.length ≤ m) : Rel C (reps n z) ((Array.range m).map (zv[· % zv.size]!)).toList := fun j x u hx hu => by
  rw [reps_getElem? z hpos] at hx
  split at hx
  · rename_i hj
    have hzs : zv.size = z.length := by omega
    have hjm : j < m := by omega
    simp only [Array.toList_map, Array.toList_range, List.getElem?_map, List.getElem?_range hjm, Option.map_some, Option.some.injEq] at hu
    subst hu
    have hlt : j % zv.size < zv.size := Nat.mod_lt _ (by omega)
    rw [getElem!_pos zv _ hlt]
    exact hz (j % zv.size) x _ (by rw [hzs]; exact hx) (by simp [hlt])
  · cases hx

theorem pbuildSlice_sound {t : TypeId} {len : Nat} {parts : List (Nat × PV)} {parts' : Array (Nat × Value)} {v : PV} (hw : WRel C H w) (hl : parts'.toList.length = parts.length)
    (hp : ∀ (j : Nat) (p : Nat × PV) (q : Nat × Value), parts[j]? = some p → parts'.toList[j]? = some q → q.1 = p.1 ∧ VRel C p.2 q.2) (h : pbuildSlice P t len parts = some v) :
    ∃ C' u w', CLe C C' ∧ WRel C' H w' ∧ Below C.B w w' ∧ VRel C' v u ∧ (Instr.buildSlice t len parts').run P w = .ok u w' := by
  unfold pbuildSlice at h
  split at h
  · rename_i e hu
    split at h
    · rename_i n z hn hz
      obtain ⟨i, zv, hi, hzv, hzr, hzl, hzc⟩ := zcells_of hz
      obtain ⟨ie, hie, hs⟩ := szT_info hn
      rw [hi] at hie
      injection hie with hie
      subst hie
      split at h
      · rename_i h0
        injection h with h
        subst h
        obtain ⟨rfl, h0⟩ := h0
        have hp0 : parts'.toList = [] := List.eq_nil_of_length_eq_zero (by omega)
        obtain ⟨c1, c2, c3⟩ := hw.allocImm #[] e
        refine ⟨_, _, _, c1, c2, c3, .sliceN (some ⟨w.heap.size, 0, none⟩) true, ?_⟩
        simp [Instr.buildSlice, run_underlying hu, sizeOf, typeInfo, zeroValue, hi, hzv, hp0, Instr.fill, newRow]
        rw [show Array.map (fun _ => (default : Value)) (Array.range 0) = #[] from by apply Array.ext'; simp]
      split at h
      · rename_i hq
        simp only [Option.map_eq_some_iff] at h
        obtain ⟨ys, hys, rfl⟩ := h
        have hpos : 0 < z.length := by
          grind
        have hmade := made_rel (C := C) (n := len) (m := len * i.size) hzl (hzr C) hpos (by rw [hs, hq.1]; exact Nat.le_refl _)
        obtain ⟨cs', q1, q2, q3, q4⟩ := pfill_sound (C := C) (fun i => some (i * n, n)) parts parts'.toList (reps len z) ys ((Array.range (len * i.size)).map (zv.cells[· % zv.cells.size]!)) hl hp hmade
          (by rw [length_reps, hq.1, hs]; simp) (reps_cell hzc) hys
        have hr := run_buildSlice (P := P) w t e len parts' cs' i zv hu hi hzv (by rw [hs]; have := hq.2.2; omega) (by rw [hs]; have := hq.2.1; omega) (by rw [hs] at q1 ⊢; exact q1)
        obtain ⟨c1, c2, c3⟩ := hw.allocImm cs' e
        refine ⟨_, _, _, c1, c2, c3, ?_, hr⟩
        refine VRel.slice (us := cs'.toList) (o := 0) (by simpa using q3.symm) (fun j u hj => ?_) q4 (q2.mono c1) (Nat.le_refl _) ?_ (fun _ => rfl)
        · simp only [Ctx.imm, if_true, Nat.zero_add]; simpa using hj
        · have : len ≤ len * n := Nat.le_mul_of_pos_right len (by omega)
          simp only [maxLen]; omega
      · cases h
    · cases h
  · cases h

theorem byT_info {t : TypeId} {n : Nat} (h : byT P t = some n) : ∃ i, P.info? t = some i ∧ i.bytes = n := by
  simp_all [byT, none]

theorem pmake_sound {t : TypeId} {l c v : PV} {p q : Value} {H' : Heap} (hw : WRel C H w) (hl : VRel C l p) (hc : VRel C c q) (h : pmake P H t l c = some (v, H')) :
    ∃ C' u w', CLe C C' ∧ WRel C' H' w' ∧ Below C.B w w' ∧ VRel C' v u ∧ (Instr.makeSlice t p q).run P w = .ok u w' := by
  unfold pmake at h
  split at h
  · rename_i e kl l kc c hu
    obtain rfl := inv_int hl
    obtain rfl := inv_int hc
    split at h
    · rename_i n b z hn hb hz
      obtain ⟨i, zv, hi, hzv, hzr, hzl, hzc⟩ := zcells_of hz
      obtain ⟨ie, hie, hs⟩ := szT_info hn
      obtain ⟨ib, hib, hby⟩ := byT_info hb
      rw [hi] at hie hib
      injection hie with hie
      injection hib with hib
      subst hie hib
      split at h
      · rename_i hq
        simp only [Option.some.injEq, Prod.mk.injEq] at h
        obtain ⟨rfl, rfl⟩ := h
        have hr := run_make (P := P) w t e i zv hu hi hzv kl kc l c hq.1 hq.2.1 (by rw [hby]; have := hq.2.2.1; omega) (by have := hq.2.2.2.1; omega)
        have hcn : l.toNat * z.length ≤ c.toNat * i.size := by rw [hs, hq.2.2.2.2.1]; exact Nat.mul_le_mul_right n (by omega)
        have hmade := made_rel (C := C) (n := l.toNat) (m := c.toNat * i.size) hzl (hzr C) (by rw [hq.2.2.2.2.1]; exact hq.2.2.2.2.2) hcn
        obtain ⟨c1, c2, c3⟩ := hw.allocOwn (madeCells zv.cells (c.toNat * i.size)) e (reps l.toNat z) 0 (reps_cell hzc) (by rw [length_reps, size_madeCells]; exact hcn) (fun j x u hx hu => hmade j x u hx (by rw [Array.getElem?_toList]; exact hu))
        refine ⟨_, _, _, c1, c2, c3, ?_, hr⟩
        refine .msl ?_ ?_ (by omega) (by have := hq.2.2.2.1; simp only [maxLen]; omega) (fun _ => ⟨rfl, ?_⟩)
        · simp [Ctx.more, ← hw.len]
        · simp [Ctx.more, ← hw.lenv]
        · simp [Ctx.more, ← hw.lenc, size_madeCells, hs]
      · cases h
    · cases h
  · cases h

/-! ### the cells of a slice -/
theorem scells_sound {sz n : Nat} {x : PV} {v : Value} {ys : List PV} (hw : WRel C H w) (hx : VRel C x v) (h : scells H sz x = some (ys, n)) :
    ∃ ad cap us, v = .slice ad n cap ∧ n ≤ cap ∧ us.length = ys.length ∧ ys.length = n * sz ∧ Rel C ys us ∧ (∀ x ∈ ys, x.cell = true) ∧ ((n = 0 ∧ us = []) ∨ ∃ b o, ad = some ⟨b, o, none⟩ ∧ At w b o us) := by
  unfold scells at h
  split at h
  · rename_i xs len full
    split at h
    · rename_i hq
      simp only [Option.some.injEq, Prod.mk.injEq] at h
      obtain ⟨rfl, rfl⟩ := h
      cases hx with
      | @slice _ _ cap b o _ us hl hM hc hR hcap hmax hf => exact ⟨_, cap, us, rfl, hcap, hl, hq, hR, hc, .inr ⟨b, o, rfl, hw.at_imm hM⟩⟩
      | sliceN => exact ⟨_, 0, [], rfl, Nat.le_refl _, rfl, by simp, fun j x u hx => by simp at hx, fun x hx => by simp at hx, .inl ⟨rfl, rfl⟩⟩
    · cases h
  · rename_i id ver off len sz' g
    split at h
    · rename_i k hk
      split at h
      · rename_i hq
        simp only [Option.some.injEq, Prod.mk.injEq] at h
        obtain ⟨rfl, rfl⟩ := h
        have q2 := hw.ver _ k hk
        rw [hq.1] at q2
        obtain ⟨b, cap, off', q1, rfl, hc1, hc2, ho, _⟩ | ⟨ad, hgh, h0, rfl⟩ := inv_msl hw hx q2
        rotate_left
        · subst h0
          exact ⟨ad, 0, [], rfl, Nat.le_refl _, by simp, by simp, fun j x u hx => by simp at hx, fun x hx => by simp at hx, .inl ⟨rfl, rfl⟩⟩
        obtain ⟨cur, q3, q5, q6, q7, q8, q9, q10⟩ := hw.blk hk q1
        have hl1 : ((k.cells.drop off).take (len * sz)).length = len * sz := by simp; omega
        refine ⟨_, cap, ((cur.toList.take k.cells.length).drop off).take (len * sz), rfl, hc1, ?_, hl1, (q9.drop off).take _, fun x hx => q6 x (List.mem_of_mem_drop (List.mem_of_mem_take hx)), .inr ⟨b, off', rfl, ?_⟩⟩
        · rw [hl1]; simp; omega
        · rcases Nat.eq_zero_or_pos len with h0 | h0
          · subst h0; intro j u hu; simp at hu
          · obtain rfl := ho h0
            have := (q8.drop off').take (len * sz)
            rwa [Nat.zero_add] at this
      · cases h
    · cases h
  · cases h

theorem first_of {sz n cap : Nat} {ad : Option Addr} {us : List Value} (hl : us.length = n * sz) (h : (n = 0 ∧ us = []) ∨ ∃ b o, ad = some ⟨b, o, none⟩ ∧ At w b o us) :
    (Builtin.firstCells sz n (.slice ad n cap)).run P w = .ok us.toArray w := by
  rcases h with ⟨rfl, rfl⟩ | ⟨b, o, rfl, hat⟩
  · cases ad with
    | none => exact run_firstCells_none w sz 0 0 cap
    | some a => exact run_firstCells_some w sz 0 a 0 cap [] hl (fun j v hv => by simp at hv)
  · exact run_firstCells_some w sz n ⟨b, o, none⟩ n cap us hl (fun j v hv => by rw [Addr.add_lit]; exact hat j v hv)

end Go.Proofs.YtbhdollgohgkgaaGreatDoor.Pm

namespace Go.Proofs.YtbhdollgohgkgaaGreatDoor.Pm
set_option linter.all false
set_option linter.unusedVariables false
set_option linter.unusedSimpArgs false
open Go.RowKit

variable {P : Program} {C : Ctx} {H : Heap} {w : World} {F : Nat → PV} {a : Act} {N : Nat}

/-- What the second argument of an append yields, zeros of 'append(s, make([]T, n)...)' too. -/
def App (P : Program) (i : TypeInfo) (z : Value) (tx : TypeId) (x : Value) (n : Nat) (news : List Value) (w : World) : Prop :=
  Src P i.size tx x n news w ∨ ∃ kn kq, P.underlying tx = some (.int kn) ∧ x = .int kq (n : Int) ∧ news = (Builtin.zeroCells z.cells n).toList ∧ n ≤ 1048576 ∧ z.cells.size = i.size

theorem app_room {t tx ty e : TypeId} {i : TypeInfo} {z : Value} (ht : P.underlying t = some (.slice e)) (hi : P.info? e = some i) (hz : i.zero = some z) {b off sLen sCap n : Nat} {x : Value} {news : List Value} {w' : World}
    (ha : App P i z tx x n news w) (hroom : sLen + n ≤ sCap) (hby : n * i.bytes ≤ 140737488355328) (hst : (storeCells ⟨b, off + sLen * i.size, none⟩ news).run P w = .ok () w') :
    (Builtin.append_ #[t, tx] ty #[.slice (some ⟨b, off, none⟩) sLen sCap, x]).run P w = .ok (.slice (some ⟨b, off, none⟩) (sLen + n) sCap) w' := by
  rcases ha with hs | ⟨kn, kq, htn, rfl, rfl, hn, hsz⟩
  · rcases hs.kind with ⟨e', hk⟩ | hk <;> simp [Builtin.append_, run_underlying ht, run_underlying hk, sizeOf, typeInfo, hi, hs.len, hroom, hs.cells, Addr.add_lit, hst]
  · have hw : IntKind.i64.wrap (n : Int) = n := by rw [IntKind.wrap_i64]; omega
    have h48i : ¬ (281474976710656 < (n : Int) * (i.bytes : Int)) := by omega
    have hneg : ¬ ((n : Int) < 0) := by omega
    by_cases hns : n * i.size = 0
    · have hz0 : (Builtin.zeroCells z.cells n).toList = [] := by
        apply List.eq_nil_of_length_eq_zero
        rw [Array.length_toList, size_zeroCells, hsz]
        exact hns
      rw [hz0] at hst
      have hns' : n = 0 ∨ i.size = 0 := Nat.mul_eq_zero.1 hns
      simp [Builtin.append_, run_underlying ht, run_underlying htn, sizeOf, typeInfo, hi, asInt, asIntOf, hw, hneg, hns, h48i, hroom, Addr.add_lit, hst]
    · have hns' : ¬ (n = 0 ∨ i.size = 0) := fun hh => hns (Nat.mul_eq_zero.2 hh)
      simp [Builtin.append_, run_underlying ht, run_underlying htn, sizeOf, typeInfo, zeroValue, hi, hz, asInt, asIntOf, hw, hneg, hns, h48i, hroom, Addr.add_lit, hst]

theorem app_nothing {t tx ty e : TypeId} {i : TypeInfo} {z : Value} (ht : P.underlying t = some (.slice e)) (hi : P.info? e = some i) {base : Option Addr} {sLen sCap : Nat} {x : Value} {news : List Value}
    (ha : App P i z tx x 0 news w) (hle : sLen ≤ sCap) : (Builtin.append_ #[t, tx] ty #[.slice base sLen sCap, x]).run P w = .ok (.slice base sLen sCap) w := by
  rcases ha with hs | ⟨kn, kq, htn, rfl, rfl, hn, hsz⟩
  · have hnil : news = [] := List.eq_nil_of_length_eq_zero (by simpa using hs.newsLen)
    subst hnil
    have hcells := hs.cells
    rcases hs.kind with ⟨e', hk⟩ | hk <;> cases base <;> simp [Builtin.append_, run_underlying ht, run_underlying hk, sizeOf, typeInfo, hi, hs.len, hle, hcells, storeCells]
  · have hw : IntKind.i64.wrap 0 = 0 := by rw [IntKind.wrap_i64]; omega
    cases base <;> simp [Builtin.append_, run_underlying ht, run_underlying htn, sizeOf, typeInfo, hi, asInt, asIntOf, hw, hle, storeCells]

theorem app_grow {t tx ty e : TypeId} {i : TypeInfo} {z : Value} (ht : P.underlying t = some (.slice e)) (hi : P.info? e = some i) (hz : i.zero = some z) {base : Option Addr} {sLen sCap n : Nat} {x : Value} {olds news : List Value}
    (hold : (Builtin.firstCells i.size sLen (.slice base sLen sCap)).run P w.drew = .ok olds.toArray w.drew) (ha : App P i z tx x n news w)
    (hg : sCap < sLen + n) (h47 : (sLen + n) * i.bytes ≤ 140737488355328) (hm : sLen + n ≤ 140737488355328) (hs0 : 0 < i.size) :
    (Builtin.append_ #[t, tx] ty #[.slice base sLen sCap, x]).run P w = .ok (.slice (some ⟨w.heap.size, 0, none⟩) (sLen + n) (grownCap w (sLen + n) sCap e))
        (w.drew.alloc (.cells ((olds ++ news).toArray ++ Builtin.zeroCells z.cells (grownCap w (sLen + n) sCap e - (sLen + n))) e)) := by
  have hfit := growslice_fits hg h47
  rcases ha with hs | ⟨kn, kq, htn, rfl, rfl, hn, hsz⟩
  · exact run_append_grow_src w t tx ty e i z ht hi hz base sLen sCap olds hold x n news hs hg (by omega) hfit
  · have hw : IntKind.i64.wrap (n : Int) = n := by rw [IntKind.wrap_i64]; omega
    have hnb : n * i.bytes ≤ (sLen + n) * i.bytes := Nat.mul_le_mul_right _ (by omega)
    have hnr : ¬ (sLen + n ≤ sCap) := by omega
    have h63' : ¬ (9223372036854775807 < ((sLen : Int) + (n : Int))) := by omega
    have h48' : ¬ (281474976710656 < Builtin.nextslicecap (sLen + n) sCap * i.bytes) := by omega
    have h48i : ¬ (281474976710656 < (n : Int) * (i.bytes : Int)) := by omega
    have hneg : ¬ ((n : Int) < 0) := by omega
    rcases Nat.eq_zero_or_pos n with h0 | h0
    · subst h0
      have hz0 : (Builtin.zeroCells z.cells 0).toList = [] := by
        apply List.eq_nil_of_length_eq_zero
        rw [Array.length_toList, size_zeroCells]
        simp
      rw [hz0]
      simp only [Nat.add_zero] at hnr h48' ⊢
      have h63'' : ¬ (9223372036854775807 < (sLen : Int)) := by omega
      have hw0 : IntKind.i64.wrap 0 = 0 := by rfl
      simp [Builtin.append_, run_underlying ht, run_underlying htn, sizeOf, typeInfo, zeroValue, hi, hz, asInt, asIntOf, hw0, hnr, h63'', h48', Question.forced, hold, newRow, grownCap]
    · have hns : ¬ (n * i.size = 0) := Nat.mul_ne_zero (by omega) (by omega)
      have hns' : ¬ (n = 0 ∨ i.size = 0) := fun hh => hns (Nat.mul_eq_zero.2 hh)
      simp [Builtin.append_, run_underlying ht, run_underlying htn, sizeOf, typeInfo, zeroValue, hi, hz, asInt, asIntOf, hw, hnr, hneg, hns, h63', h48', h48i, Question.forced, hold, newRow, grownCap]
      congr 2
      apply Array.ext'
      simp [List.append_assoc]

theorem zero_rel {z : List PV} {zv : Value} {n : Nat} (hzl : zv.cells.toList.length = z.length) (hz : Rel C z zv.cells.toList) (hpos : 0 < z.length) : Rel C (reps n z) (Builtin.zeroCells zv.cells n).toList := by
  have hs : zv.cells.size = z.length := by omega
  have := made_rel (C := C) (n := n) (m := n * zv.cells.size) hzl hz hpos (by rw [hs]; exact Nat.le_refl _)
  exact this

theorem appSrc_sound {e sz n : Nat} {tx : TypeId} {x : PV} {v : Value} {news : List PV} {i : TypeInfo} {zv : Value} {z : List PV} (hw : WRel C H w) (hx : VRel C x v) (hi : P.info? e = some i) (hs : i.size = sz) (hz : i.zero = some zv)
    (hzc : zcells P e = some z) (hzl' : z.length = sz) (hpos : 0 < sz) (h : appSrc P H e sz tx x = some (news, n)) :
    ∃ us, App P i zv tx v n us w ∧ Rel C news us ∧ us.length = news.length ∧ news.length = n * sz ∧ ∀ x ∈ news, x.cell = true := by
  unfold appSrc at h
  split at h
  · rename_i e' hu
    obtain ⟨ad, cap, us, rfl, hcap, hl, hn, hR, hc, hat⟩ := scells_sound hw hx h
    refine ⟨us, .inl ⟨.inl ⟨e', hu⟩, fun _ => rfl, ?_, ?_, by rw [hl, hn, hs], hR.oneCell hl hc⟩, hR, hl, hn, hc⟩
    · rw [hs]; exact first_of (by omega) hat
    · rw [hs]; exact first_of (w := w.drew) (by omega) (by rcases hat with h1 | ⟨b, o, h1, h2⟩; exact .inl h1; exact .inr ⟨b, o, h1, h2⟩)
  · rename_i kn k nn hu
    rw [hzc] at h
    simp only at h
    split at h
    · rename_i hq
      simp only [Option.some.injEq, Prod.mk.injEq] at h
      obtain ⟨rfl, rfl⟩ := h
      obtain rfl := inv_int hx
      obtain ⟨i', zv', hi', hzv', hzr, hzl, hzcc⟩ := zcells_of hzc
      rw [hi] at hi'
      injection hi' with hi'
      subst hi'
      rw [hz] at hzv'
      injection hzv' with hzv'
      subst hzv'
      have hsz : zv.cells.size = sz := by simp_all
      refine ⟨(Builtin.zeroCells zv.cells nn.toNat).toList, .inr ⟨kn, k, hu, by congr 1; omega, rfl, by omega, by rw [hsz, hs]⟩, zero_rel hzl (hzr C) (by omega), ?_, ?_, reps_cell hzcc⟩
      · rw [Array.length_toList, size_zeroCells, length_reps, hsz, hzl']
      · rw [length_reps, hzl']
    · cases h
  · rename_i s hu
    split at h
    · rename_i h1
      simp only [Option.some.injEq, Prod.mk.injEq] at h
      obtain ⟨rfl, rfl⟩ := h
      obtain ⟨s', rfl, rfl⟩ := inv_str hx
      have hsz : s'.size = s'.data.toList.length := by rfl
      refine ⟨byteCells s', .inl ?_, ?_, ?_, ?_, ?_⟩
      · rw [hs, h1, ← hsz]; exact Src.ofString w hu s'
      · intro j x u hx hu
        simp only [byteCells, List.getElem?_map, Option.map_eq_some_iff] at hx hu
        obtain ⟨b, hb, rfl⟩ := hx
        obtain ⟨b', hb', rfl⟩ := hu
        rw [hb] at hb'
        injection hb' with hb'
        subst hb'
        exact .int _ _
      · simp [byteCells]
      · simp [h1]
      · intro x hx
        obtain ⟨b, _, rfl⟩ := List.mem_map.1 hx
        rfl
    · cases h
  · cases h

theorem pappend_sound {t tx ty : TypeId} {s x v : PV} {p q : Value} {H' : Heap} (hw : WRel C H w) (hsv : VRel C s p) (hx : VRel C x q) (h : pappend P H t tx s x = some (v, H')) :
    ∃ C' u w', CLe C C' ∧ WRel C' H' w' ∧ Below C.B w w' ∧ VRel C' v u ∧ (Builtin.append_ #[t, tx] ty #[p, q]).run P w = .ok u w' := by
  unfold pappend at h
  split at h
  · rename_i e hu
    split at h
    · rename_i sz b z hn hb hz
      split at h
      · rename_i hpz
        obtain ⟨i, zv, hi, hzv, hzr, hzl, hzc⟩ := zcells_of hz
        obtain ⟨ie, hie, hs⟩ := szT_info hn
        obtain ⟨ib, hib, hby⟩ := byT_info hb
        rw [hi] at hie hib
        injection hie with hie
        injection hib with hib
        subst hie hib
        split at h
        · rename_i news n hsrc
          obtain ⟨us, happ, hRn, hln, hnn, hcn⟩ := appSrc_sound hw hx hi hs hzv hz hpz.2 hpz.1 hsrc
          have hzsize : ∀ m, (Builtin.zeroCells zv.cells m).size = m * sz := fun m => by
            rw [size_zeroCells, ← Array.length_toList, hzl, hpz.2]
          -- a new row
          have grown : ∀ (xs : List PV) (len cap : Nat) (ad : Option Addr) (os : List Value), os.length = xs.length → xs.length = len * sz → Rel C xs os → cap < len + n → (len + n) * b ≤ 140737488355328 → len + n ≤ 140737488355328 →
              ((len = 0 ∧ os = []) ∨ ∃ b o, ad = some ⟨b, o, none⟩ ∧ At w b o os) →
              ∃ cur nc, (Builtin.append_ #[t, tx] ty #[.slice ad len cap, q]).run P w = .ok (.slice (some ⟨w.heap.size, 0, none⟩) (len + n) nc) (w.drew.alloc (.cells cur e)) ∧ Rel C (xs ++ news) cur.toList ∧
                (xs ++ news).length ≤ cur.size ∧ cur.size = nc * sz ∧ len + n ≤ nc ∧ nc ≤ maxLen := by
            intro xs len cap ad os hos hxs hR hg h47 hm hat
            have hold : (Builtin.firstCells i.size len (.slice ad len cap)).run P w.drew = .ok os.toArray w.drew := by
              rw [hs]; exact first_of (w := w.drew) (by omega) (by rcases hat with h1 | ⟨b, o, h1, h2⟩; exact .inl h1; exact .inr ⟨b, o, h1, h2⟩)
            have hr := app_grow (P := P) (ty := ty) hu hi hzv hold happ hg (by rw [hby]; exact h47) hm (by rw [hs]; exact hpz.1)
            have hge := grownCap_ge w (len + n) cap e
            refine ⟨_, _, hr, ?_, ?_, ?_, hge, grownCap_le_maxLen w _ _ _ (by simp only [maxLen]; omega)⟩
            · intro j x u hx hu'
              have hlt : j < (xs ++ news).length := (List.getElem?_eq_some_iff.1 hx).1
              refine Rel.append hos hR hRn j x u hx ?_
              rw [Array.toList_append, List.getElem?_append_left (by simp at hlt ⊢; omega)] at hu'
              exact hu'
            · simp; omega
            · rw [Array.size_append, hzsize]
              simp only [List.size_toArray, List.length_append, hos, hxs, hln, hnn, ← Nat.add_mul]
              congr 1
              omega
          split at h
          · rename_i xs len full
            split at h
            · rename_i h0
              subst h0
              simp only [Option.some.injEq, Prod.mk.injEq] at h
              obtain ⟨rfl, rfl⟩ := h
              have hle : ∃ ad cap, p = .slice ad len cap ∧ len ≤ cap := by
                cases hsv with
                | slice _ _ _ _ hcap _ _ => exact ⟨_, _, rfl, hcap⟩
                | sliceN => exact ⟨_, _, rfl, Nat.le_refl _⟩
              obtain ⟨ad, cap, rfl, hle⟩ := hle
              exact ⟨C, _, w, .refl _, hw, .refl _ _, hsv, app_nothing hu hi happ hle⟩
            · rename_i h0
              split at h
              · rename_i hq
                simp only [Option.some.injEq, Prod.mk.injEq] at h
                obtain ⟨rfl, rfl⟩ := h
                have hshape : ∃ ad os, p = .slice ad len len ∧ os.length = xs.length ∧ Rel C xs os ∧ (∀ x ∈ xs, x.cell = true) ∧ ((len = 0 ∧ os = []) ∨ ∃ b o, ad = some ⟨b, o, none⟩ ∧ At w b o os) := by
                  cases hsv with
                  | @slice _ _ cap b' o' _ us' hl' hM' hc' hR' hcap' hmax' hf' => rw [hf' hq.1]; exact ⟨_, us', rfl, hl', hR', hc', .inr ⟨b', o', rfl, hw.at_imm hM'⟩⟩
                  | sliceN => exact ⟨_, [], rfl, rfl, fun j x u hx => by simp at hx, fun x hx => by simp at hx, .inl ⟨rfl, rfl⟩⟩
                obtain ⟨ad, os, rfl, hos, hRx, hcx, hat⟩ := hshape
                obtain ⟨cur, nc, hr, r1, r2, r3, r4, r5⟩ := grown xs len len ad os hos hq.2.1 hRx (by omega) hq.2.2.1 hq.2.2.2 hat
                obtain ⟨c1, c2, c30⟩ := hw.drew.allocOwn cur e (xs ++ news) (xs ++ news).length (fun x hx => by rcases List.mem_append.1 hx with hx | hx; exact hcx x hx; exact hcn x hx) r2 (fun j x u hx hu => r1 j x u hx (by simpa using hu))
                have c3 := ((Below.refl C.B w).drew).trans c30
                refine ⟨_, _, _, c1, c2, c3, ?_, hr⟩
                refine .msl ?_ ?_ r4 r5 (fun _ => ⟨rfl, ?_⟩)
                · simp [Ctx.more, ← hw.len]
                · simp [Ctx.more, ← hw.lenv]
                · simp [Ctx.more, ← hw.lenc, r3]
              · cases h
          · rename_i id ver off len sz' g
            split at h
            · rename_i k hk
              split at h
              · rename_i hq
                obtain ⟨hver, hgt, hoff, hsz, hke, hkl, hvl, h47, hmx⟩ := hq
                subst hver hgt hoff hsz
                have hid : id < H.length := (List.getElem?_eq_some_iff.1 hk).1
                obtain ⟨bb, cap, off', q1, rfl, hc1, hc2, ho, hg⟩ | ⟨ad, hgh, hl0, rfl⟩ := inv_msl hw hsv (hw.ver id k hk)
                rotate_left
                · subst hl0
                  split at h
                  · rename_i h0
                    subst h0
                    simp only [Option.some.injEq, Prod.mk.injEq] at h
                    obtain ⟨rfl, rfl⟩ := h
                    exact ⟨C, _, w, .refl _, hw, .refl _ _, hsv, app_nothing hu hi happ (Nat.le_refl _)⟩
                  · rename_i h0
                    simp only [Option.some.injEq, Prod.mk.injEq] at h
                    obtain ⟨rfl, rfl⟩ := h
                    subst hke
                    have hnil : k.cells = [] := List.eq_nil_of_length_eq_zero (by omega)
                    have hnp : 0 < news.length := by simp_all [Nat.mul_pos]; omega
                    obtain ⟨cur', nc, hr, r1, r2, r3, r4, r5⟩ := grown k.cells 0 0 ad [] (by simp [hnil]) (by simp [hnil]) (by rw [hnil]; exact fun j x u hx => by simp at hx) (by omega) h47 hmx (.inl ⟨rfl, rfl⟩)
                    obtain ⟨c1, c2, c30⟩ := hw.drew.move hk (k.cells ++ news).length (by rw [List.length_append]; omega) (k.cells ++ news) cur' (fun x hx => by rcases List.mem_append.1 hx with hx | hx; (rw [hnil] at hx; cases hx); exact hcn x hx) r2 (fun j x u hx hu => r1 j x u hx (by simpa using hu))
                    have c3 := ((Below.refl C.B w).drew).trans c30
                    refine ⟨_, _, _, c1, c2, c3, ?_, hr⟩
                    refine .msl (b := w.heap.size) ?_ ?_ r4 r5 (fun _ => ⟨rfl, ?_⟩)
                    · show (C.mu.set id (some w.heap.size))[id]? = _
                      simp [hw.len, hid]
                    · simp [hw.lenv, hid]
                    · simp [hw.lenc, hid, r3]
                obtain ⟨cur, q3, q5, q6, q7, q8, q9, q10⟩ := hw.blk hk q1
                have q2 := hw.ver id k hk
                obtain ⟨_, rfl, hcp⟩ := hg rfl
                rw [q3] at hcp
                injection hcp with hcp
                split at h
                · rename_i h0
                  subst h0
                  simp only [Option.some.injEq, Prod.mk.injEq] at h
                  obtain ⟨rfl, rfl⟩ := h
                  exact ⟨C, _, w, .refl _, hw, .refl _ _, hsv, app_nothing hu hi happ hc1⟩
                · rename_i h0
                  simp only [Option.some.injEq, Prod.mk.injEq] at h
                  obtain ⟨rfl, rfl⟩ := h
                  subst hke
                  have hRk : Rel C k.cells cur.toList := by
                    obtain ⟨cur2, _, _, r5, _, _, r8⟩ := hw.own id k bb hk q1
                    rw [q5] at r5
                    injection r5 with r5
                    injection r5 with r5
                    subst r5
                    exact fun j x u hx hu => r8 j x u hx (by simpa using hu)
                  by_cases hroom : len + n ≤ cap
                  · have hfit : len * sz' + us.length ≤ cur.size := by
                      rw [hcp, hln, hnn, ← Nat.add_mul]
                      exact Nat.mul_le_mul_right _ hroom
                    have hst := run_storeCells_at P bb (len * sz') k.e us 0 cur w q5 (by omega) (hRn.oneCell hln hcn)
                    rw [Nat.add_zero] at hst
                    have hr := app_room (P := P) (t := t) (tx := tx) (ty := ty) (b := bb) (off := 0) (sLen := len) (sCap := cap) hu hi hzv happ hroom
                      (by rw [hby]; exact Nat.le_trans (Nat.mul_le_mul_right _ (by omega)) h47) (by rw [Nat.zero_add, hs]; exact hst)
                    have hsize : (cur.toList.take (len * sz') ++ us ++ cur.toList.drop (len * sz' + us.length)).toArray.size = cur.size := by simp; omega
                    obtain ⟨c1, c2, c3⟩ := hw.write hk q1 q5 (k.cells ++ news).length (by rw [List.length_append]; omega) (k.cells ++ news) (cur.toList.take (len * sz') ++ us ++ cur.toList.drop (len * sz' + us.length)).toArray hsize
                      (fun x hx => by rcases List.mem_append.1 hx with hx | hx; exact q6 x hx; exact hcn x hx) (by rw [hsize]; simp; omega) (fun j x u hx hu => by
                        have hlt : j < (k.cells ++ news).length := (List.getElem?_eq_some_iff.1 hx).1
                        have hu2 : (cur.toList.take (len * sz') ++ us ++ cur.toList.drop (len * sz' + us.length))[j]? = some u := by simpa using hu
                        rw [List.getElem?_append_left (by simp at hlt ⊢; omega)] at hu2
                        refine Rel.append (C := C) (by simp; omega) (us := cur.toList.take (len * sz')) ?_ hRn j x u hx hu2
                        rw [← hkl]; exact q9)
                    refine ⟨_, _, _, c1, c2, c3, ?_, hr⟩
                    refine .msl q1 ?_ hroom hc2 (fun _ => ⟨rfl, ?_⟩)
                    · simp [hw.lenv, hid]
                    · show C.cp[id]? = _; rw [q3, hcp]
                  · obtain ⟨cur', nc, hr, r1, r2, r3, r4, r5⟩ := grown k.cells len cap (some ⟨bb, 0, none⟩) (cur.toList.take k.cells.length) q10 hkl q9 (by omega) h47 hmx (.inr ⟨bb, 0, rfl, q8⟩)
                    obtain ⟨c1, c2, c30⟩ := hw.drew.move hk (k.cells ++ news).length (by rw [List.length_append]; exact Nat.lt_of_le_of_lt hvl (Nat.lt_add_of_pos_right (by rw [hnn]; exact Nat.mul_pos (by omega) hpz.1))) (k.cells ++ news) cur' (fun x hx => by rcases List.mem_append.1 hx with hx | hx; exact q6 x hx; exact hcn x hx) r2 (fun j x u hx hu => r1 j x u hx (by simpa using hu))
                    have c3 := ((Below.refl C.B w).drew).trans c30
                    refine ⟨_, _, _, c1, c2, c3, ?_, hr⟩
                    refine .msl ?_ ?_ r4 r5 (fun _ => ⟨rfl, ?_⟩)
                    · simp [hw.len, hid]
                    · simp [hw.lenv, hid]
                    · simp [hw.lenc, hid, r3]
              · cases h
            · cases h
          · cases h
        · cases h
      · cases h
    · cases h
  · cases h

end Go.Proofs.YtbhdollgohgkgaaGreatDoor.Pm

namespace Go.Proofs.YtbhdollgohgkgaaGreatDoor.Pm
set_option linter.all false
set_option linter.unusedVariables false
set_option linter.unusedSimpArgs false
open Go.RowKit

variable {P : Program} {C : Ctx} {H : Heap} {w : World} {F : Nat → PV} {a : Act} {N : Nat}

theorem str_eq {a b : List UInt8} {p q : ByteArray} (hp : p.data.toList = a) (hq : q.data.toList = b) : (p.toList == q.toList) = (a == b) := by
  rw [ByteArray.toList_eq, ByteArray.toList_eq, hp, hq]

theorem peqS_sound {d : Nat} {t : TypeId} {u : TypeDesc} {x y : PV} {p q : Value} {b : Bool} (hu : P.underlying t = some u) (hx : VRel C x p) (hy : VRel C y q) (h : peqS u x y = some b) : (Op.equalIn (d + 1) t p q).run P w = .ok b w := by
  unfold peqS at h
  split at h
  · obtain rfl := inv_int hx
    obtain rfl := inv_int hy
    split at h
    · rename_i hk; subst hk; injection h with h; subst h; exact run_equalIn_int w d t _ _ _ _ hu
    · cases h
  · obtain rfl := inv_bool hx
    obtain rfl := inv_bool hy
    injection h with h; subst h; exact run_equalIn_bool' w d t _ _ hu
  · obtain ⟨s, rfl, e1⟩ := inv_str hx
    obtain ⟨s', rfl, e2⟩ := inv_str hy
    injection h with h; subst h
    rw [run_equalIn_string w d t _ _ hu, str_eq e1 e2]
  · cases h

theorem scalT_of {e : TypeId} {u : TypeDesc} (h : scalT P e = some u) : P.underlying e = some u ∧ aggT P e = some false := by
  unfold scalT at h
  unfold aggT
  split at h <;> first | (rename_i hu; injection h with h; subst h; rw [hu]; exact ⟨rfl, rfl⟩) | cases h

theorem peqI_sound {d e : Nat} {u : TypeDesc} (hs : scalT P e = some u) {us vs : List Value} : ∀ (xs ys : List PV) (j : Nat) (b : Bool), (∀ (i : Nat) (x : PV), xs[i]? = some x → ∃ u, us[j + i]? = some u ∧ VRel C x u) →
    (∀ (i : Nat) (x : PV), ys[i]? = some x → ∃ u, vs[j + i]? = some u ∧ VRel C x u) → peqI u xs ys = some b → (Op.eqItems (d + 1) e 1 us.toArray vs.toArray (List.range' j xs.length)).run P w = .ok b w
  | [], [], j, b, hx, hy, h => by simp only [peqI, Option.some.injEq] at h; subst h; simp [Op.eqItems]
  | [], _ :: _, j, b, hx, hy, h => by simp [peqI] at h
  | _ :: _, [], j, b, hx, hy, h => by simp [peqI] at h
  | x :: xs, y :: ys, j, b, hx, hy, h => by
    obtain ⟨hu, hna⟩ := scalT_of hs
    simp only [peqI] at h
    split at h
    · rename_i c hc
      simp only [Option.map_eq_some_iff] at h
      obtain ⟨r, hr, rfl⟩ := h
      obtain ⟨u1, hu1, hux⟩ := hx 0 x rfl
      obtain ⟨v1, hv1, hvy⟩ := hy 0 y rfl
      have ih := peqI_sound hs (d := d) (us := us) (vs := vs) xs ys (j + 1) r (fun i x hx' => by
        have := hx (i + 1) x (by simpa using hx'); rw [show j + 1 + i = j + (i + 1) by omega]; exact this) (fun i x hx' => by
        have := hy (i + 1) x (by simpa using hx'); rw [show j + 1 + i = j + (i + 1) by omega]; exact this) hr
      rw [Nat.add_zero] at hu1 hv1
      have p1 : (part e us.toArray (j * 1)).run P w = .ok u1 w := by simp [part, aggT_run hna, hu1]
      have p2 : (part e vs.toArray (j * 1)).run P w = .ok v1 w := by simp [part, aggT_run hna, hv1]
      rw [List.length_cons, List.range'_succ]
      simp only [Op.eqItems, Sem.run_bind, p1, p2, Result.andThen_ok, peqS_sound (d := d) hu hux hvy hc]
      cases c with
      | false => simp
      | true => simpa using ih
    · cases h

theorem peqF_sound {d : Nat} {eq : TypeId → PV → PV → Option Bool} {xs ys : List PV} {us vs : List Value} (hlx : us.length = xs.length) (hcx : ∀ x ∈ xs, x.cell = true) (hRx : Rel C xs us) (hly : vs.length = ys.length) (hcy : ∀ x ∈ ys, x.cell = true) (hRy : Rel C ys vs)
    (heq : ∀ t x y p q b, VRel C x p → VRel C y q → eq t x y = some b → (Op.equalIn d t p q).run P w = .ok b w) : ∀ (fs : List Field) (b : Bool), peqF eq P xs ys fs = some b → (Op.eqFields d us.toArray vs.toArray fs).run P w = .ok b w
  | [], b, h => by simp only [peqF, Option.some.injEq] at h; subst h; simp [Op.eqFields]
  | f :: fs, b, h => by
    simp only [peqF] at h
    split at h
    · cases h
    · rename_i hn
      have hn' : f.name ≠ "_" := of_decide_eq_false hn
      split at h
      · rename_i a c ha hc
        split at h
        · rename_i r hr
          simp only [Option.map_eq_some_iff] at h
          obtain ⟨q, hq, rfl⟩ := h
          obtain ⟨p1, hp1, e1⟩ := part_sound (P := P) (w := w) hlx hcx hRx ha
          obtain ⟨p2, hp2, e2⟩ := part_sound (P := P) (w := w) hly hcy hRy hc
          have ih := peqF_sound hlx hcx hRx hly hcy hRy heq fs q hq
          simp only [Op.eqFields, hn', ne_eq, not_false_eq_true, if_true, Sem.run_bind, e1, e2, Result.andThen_ok, heq _ _ _ _ _ _ hp1 hp2 hr]
          cases r with
          | false => simp
          | true => simpa using ih
        · cases h
      · cases h
theorem peqA_sound {d e n : Nat} {eq : TypeId → PV → PV → Option Bool} {xs ys : List PV} {us vs : List Value} (hlx : us.length = xs.length) (hcx : ∀ x ∈ xs, x.cell = true) (hRx : Rel C xs us) (hly : vs.length = ys.length) (hcy : ∀ x ∈ ys, x.cell = true) (hRy : Rel C ys vs)
    (heq : ∀ t x y p q b, VRel C x p → VRel C y q → eq t x y = some b → (Op.equalIn d t p q).run P w = .ok b w) : ∀ (is : List Nat) (b : Bool), peqA eq P e n xs ys is = some b → (Op.eqItems d e n us.toArray vs.toArray is).run P w = .ok b w
  | [], b, h => by simp only [peqA, Option.some.injEq] at h; subst h; simp [Op.eqItems]
  | i :: is, b, h => by
    simp only [peqA] at h
    split at h
    · rename_i a c ha hc
      split at h
      · rename_i r hr
        simp only [Option.map_eq_some_iff] at h
        obtain ⟨q, hq, rfl⟩ := h
        obtain ⟨p1, hp1, e1⟩ := part_sound (P := P) (w := w) hlx hcx hRx ha
        obtain ⟨p2, hp2, e2⟩ := part_sound (P := P) (w := w) hly hcy hRy hc
        have ih := peqA_sound hlx hcx hRx hly hcy hRy heq is q hq
        simp only [Op.eqItems, Sem.run_bind, e1, e2, Result.andThen_ok, heq _ _ _ _ _ _ hp1 hp2 hr]
        cases r with
        | false => simp
        | true => simpa using ih
      · cases h
    · cases h

theorem peqT_sound : ∀ (d m : Nat) (t : TypeId) (x y : PV) (p q : Value) (b : Bool), VRel C x p → VRel C y q → peqT P d t x y = some b → (Op.equalIn (d + (m + 1)) t p q).run P w = .ok b w
  | 0, m, t, x, y, p, q, b, _, _, h => by simp [peqT] at h
  | d + 1, m, t, x, y, p, q, b, hx, hy, h => by
    rw [show d + 1 + (m + 1) = (d + (m + 1)) + 1 by omega]
    have ih := fun t x y p q b => peqT_sound d m t x y p q b
    simp only [peqT] at h
    split at h
    · rename_i fs hu
      split at h
      · rename_i xs ys
        split at h
        · rename_i hst
          cases hx with
          | agg hlx hcx hRx =>
            cases hy with
            | agg hly hcy hRy =>
              have hf : P.fieldsOf t = fs := by simp [Program.fieldsOf, hu]
              rw [run_equalIn_struct w (d + (m + 1)) t _ _ (by rw [hf]; exact hu) hst, hf]
              exact peqF_sound hlx hcx hRx hly hcy hRy ih fs.toList b h
        · cases h
      · cases h
    · rename_i len e hu
      split at h
      · rename_i xs ys
        cases hx with
        | @agg _ us hlx hcx hRx =>
          cases hy with
          | @agg _ vs hly hcy hRy =>
            split at h
            · rename_i u hs
              split at h
              · rename_i hq
                obtain ⟨h1, h2, h3⟩ := hq
                obtain ⟨i, hi, hsz⟩ := szT_info h1
                have hce : P.cellsOf e = 1 := by simp [Program.cellsOf, hi, hsz]
                rw [run_equalIn_array w (d + (m + 1)) _ _ hu hi, hce, List.range_eq_range', ← h2]
                have get : ∀ {zs : List PV} {ws : List Value}, ws.length = zs.length → Rel C zs ws → ∀ (i : Nat) (x : PV), zs[i]? = some x → ∃ u, ws[0 + i]? = some u ∧ VRel C x u := fun {zs ws} hl hR i x hx => by
                  have hlt : i < ws.length := by have := (List.getElem?_eq_some_iff.1 hx).1; omega
                  exact ⟨ws[i], by rw [Nat.zero_add]; exact List.getElem?_eq_getElem hlt, hR i x _ hx (List.getElem?_eq_getElem hlt)⟩
                exact peqI_sound (d := d + m) hs xs ys 0 b (get hlx hRx) (get hly hRy) h
              · cases h
            · rename_i hs
              split at h
              · rename_i n hn
                obtain ⟨i, hi, hsz⟩ := szT_info hn
                have hce : P.cellsOf e = n := by simp [Program.cellsOf, hi, hsz]
                rw [run_equalIn_array w (d + (m + 1)) _ _ hu hi, hce]
                exact peqA_sound hlx hcx hRx hly hcy hRy ih (List.range len) b h
              · cases h
      · cases h
    · rename_i u h1 h2 hu
      exact peqS_sound hu hx hy h
    · cases h

theorem peqG_sound {op : BinOp} {t : TypeId} {xs ys : List PV} {p q : Value} {v : PV} (X Y : Operand) (hx : VRel C (.agg xs) p) (hy : VRel C (.agg ys) q) (h : peqG P op t (.agg xs) (.agg ys) = some v) :
    ∃ u, VRel C v u ∧ (do eqGuard op t X Y p q; binOp op t p q : Sem Value).run P w = .ok u w := by
  unfold peqG at h
  split at h
  · rename_i hg
    split at h
    · rename_i b hb
      have he := peqT_sound (w := w) 12 9987 t _ _ _ _ b hx hy hb
      cases hx with
      | agg hlx hcx hRx =>
        cases hy with
        | agg hly hcy hRy =>
          cases op <;> simp only [peq] at h <;> first | (cases h; done) | skip
          · injection h with h; subst h
            refine ⟨_, .bool b, ?_⟩
            rw [Sem.run_bind, run_eqGuard_agg w _ _ _ _ _ _ hg, Result.andThen_ok, run_eql_struct]
            simp [he]
          · injection h with h; subst h
            refine ⟨_, .bool (!b), ?_⟩
            rw [Sem.run_bind, run_eqGuard_agg w _ _ _ _ _ _ hg, Result.andThen_ok, run_neq_struct]
            simp [he]
    · cases h
  · cases h

end Go.Proofs.YtbhdollgohgkgaaGreatDoor.Pm
