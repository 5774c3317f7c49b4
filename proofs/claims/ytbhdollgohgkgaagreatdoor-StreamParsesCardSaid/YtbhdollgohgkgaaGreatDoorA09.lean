/-
  Parts of the proof. No condition.
-/
import Derived.Test.YtbhdollgohgkgaaGreatDoorA06
namespace Go.Proofs.YtbhdollgohgkgaaGreatDoor.Pm
set_option linter.all false
set_option linter.unusedVariables false
set_option linter.unusedSimpArgs false
open Go.RowKit

variable {P : Program} {C : Ctx} {H K : Heap} {w : World} {F : Fr} {a : Act} {N : Nat}

/-! ### footprints -/
def posOf : List (Nat × List Nat) → Nat → List Nat
  | [], _ => []
  | (s, ps) :: l, t => match Nat.beq s t with | true => ps | false => posOf l t
def posO (pm : List (Nat × List Nat)) : Operand → List Nat
  | .tmp t => posOf pm t
  | .const _ => []
  | .func _ => []
  | .global _ => []
def opPos (pm : List (Nat × List Nat)) (op : Op) : List Nat := (op.operands.toList.map (posO pm)).flatten
/-- The blocks at places of a list. -/
def atP (ids ps : List Nat) : List Nat := ps.filterMap fun p => ids[p]?
structure Fp where
  r : List Nat
  l : List Nat
  w : List Nat
  v : List Nat
/-- 0: pure; 1: it looks at versions alone; 2: it reads; 3: a store; 4: append; 5: copy; 6: a map's update; 7: a call; 8: none of these. -/
def kindI (op : Op) : Nat := match pureOp op with
  | true => 0
  | false => match isCall op with
    | true => 7
    | false => match eff op with
      | false => (match liveOnly op with | true => 1 | false => 2)
      | true => match op with
        | .store .. => 3
        | .call { callee := .builtin .append, .. } => 4
        | .call { callee := .builtin .copy, .. } => 5
        | .mapUpdate .. => 6
        | .insert .. => 6
        | _ => 8
def fstO (op : Op) : Option Operand := match op with
  | .store _ a _ => some a
  | .call { args, .. } => args.toList[0]?
  | .mapUpdate _ m _ _ => some m
  | .insert _ m _ _ => some m
  | _ => none
def fstP (pm : List (Nat × List Nat)) (op : Op) : List Nat := match fstO op with | some x => posO pm x | none => []
/-- A new block: its cells, and the value that leads to it. -/
def pnew (P : Program) (op : Op) (f : Nat → PV) : Option (Blk × (Nat → PV)) := match op with
  | .alloc elem => (zcells P elem).map fun z => (⟨elem, 1, z⟩, fun r => .ptr r 1 0)
  | .box elem x => match (ev f x).cells.all PV.cell with | true => some (⟨elem, 1, (ev f x).cells⟩, fun r => .ptr r 1 0) | false => none
  | .makeSlice t l c => match P.underlying t, ev f l, ev f c with
    | some (.slice e), .int _ l, .int _ c => match szT P e, byT P e, zcells P e with
      | some n, some b, some z => if 0 ≤ l ∧ l ≤ c ∧ (b : Int) * c ≤ 140737488355328 ∧ c ≤ 140737488355328 ∧ z.length = n ∧ 0 < n then some (⟨e, 1, reps l.toNat z⟩, fun r => .msl r 1 0 l.toNat n true) else none
      | _, _, _ => none
    | _, _, _ => none
  | .buildSlice t len parts => match P.underlying t with
    | some (.slice e) => match szT P e, zcells P e with
      | some n, some z => if z.length = n ∧ 0 < len * n ∧ len * n ≤ 65536 then (pfill (fun i => some (i * n, n)) (reps len z) (parts.toList.map fun p => (p.1, ev f p.2))).map fun c => (⟨e, 1, c⟩, fun r => .msl r 1 0 len n true) else none
      | _, _ => none
    | _ => none
  | .call { callee := .builtin .append, args, argTypes } => match argTypes.toList, args.toList.map (ev f) with
    | [t, tx], [.slice xs len full, .slice ys m _] => match P.underlying t, P.underlying tx with
      | some (.slice e), some (.slice _) => match szT P e, byT P e, zcells P e with
        | some sz, some b, some z => if 0 < sz ∧ z.length = sz ∧ full = true ∧ xs.length = len * sz ∧ 0 < m ∧ ys.length = m * sz ∧ (len + m) * b ≤ 140737488355328 ∧ len + m ≤ 140737488355328 then some (⟨e, 1, xs ++ ys⟩, fun r => .msl r 1 0 (len + m) sz true) else none
        | _, _, _ => none
      | _, _ => none
    | _, _ => none
  | _ => none
def grows : Op → Bool
  | .alloc .. | .box .. | .makeSlice .. | .buildSlice .. => true
  | .call { callee := .builtin .append, .. } => true
  | _ => false
def resI (rs : List (Nat × Nat)) (o : Oper) : Option Nat := match grows o.op with | true => rsv rs o.dst | false => none
def fpOf (pm : List (Nat × List Nat)) (rs : List (Nat × Nat)) (ro : List Nat) (o : Oper) : Fp := match resI rs o with
  | some p => ⟨[], [], [p], [p]⟩
  | none => match kindI o.op with
    | 0 => ⟨[], [], [], []⟩
    | 1 => ⟨[], opPos pm o.op, [], []⟩
    | 2 => ⟨opPos pm o.op, [], [], []⟩
    | 3 => ⟨[], [], fstP pm o.op, []⟩
    | 4 => ⟨opPos pm o.op, [], fstP pm o.op, fstP pm o.op⟩
    | 5 => ⟨opPos pm o.op, [], fstP pm o.op, []⟩
    | 6 => ⟨opPos pm o.op, [], fstP pm o.op, []⟩
    | 7 => match o.dst with
      | some d => (match ro.elem d with | true => ⟨opPos pm o.op, opPos pm o.op, [], []⟩ | false => ⟨opPos pm o.op, opPos pm o.op, opPos pm o.op, opPos pm o.op⟩)
      | none => ⟨opPos pm o.op, opPos pm o.op, opPos pm o.op, opPos pm o.op⟩
    | _ => ⟨[], [], [], []⟩
def dis (a b : List Nat) : Bool := a.all fun i => !(b.elem i)
theorem dis_of {a b : List Nat} (h : dis a b = true) : ∀ i ∈ a, i ∉ b := fun i hi hb => by
  have := List.all_eq_true.1 h i hi
  simp_all
def compatI (ds : List (Option Nat)) (pm : List (Nat × List Nat)) (rs : List (Nat × Nat)) (ro : List Nat) (x y : Oper) : Bool :=
  clear ds x y && clear ds y x && dis (fpOf pm rs ro x).w (fpOf pm rs ro y).r && dis (fpOf pm rs ro x).w (fpOf pm rs ro y).w && dis (fpOf pm rs ro y).w (fpOf pm rs ro x).r && dis (fpOf pm rs ro x).v (fpOf pm rs ro y).l && dis (fpOf pm rs ro y).v (fpOf pm rs ro x).l

theorem atP_mem {ids ps : List Nat} {i : Nat} (h : i ∈ atP ids ps) : ∃ p ∈ ps, ids[p]? = some i := List.mem_filterMap.1 h
theorem atP_in {ids ps : List Nat} {i : Nat} (h : i ∈ atP ids ps) : i ∈ ids := by
  grind [atP_mem, List.mem_of_getElem?]
theorem atP_dis {ids a b : List Nat} (hn : ids.Nodup) (h : dis a b = true) {i : Nat} (ha : i ∈ atP ids a) : i ∉ atP ids b := fun hb => by
  grind [atP_mem, List.getElem?_inj, List.getElem?_eq_some_iff.1, dis_of]

/-- Two heaps that agree on what is looked at. -/
structure Agr (ids : List Nat) (fp : Fp) (H K : Heap) : Prop where
  len : K.length = H.length
  out : ∀ i, i ∉ ids → K[i]? = H[i]?
  inn : ∀ i, i ∈ atP ids fp.r ∨ i ∈ atP ids fp.w → K[i]? = H[i]?
  liv : ∀ i, i ∈ atP ids fp.l → VEq H K i
theorem Agr.refl (ids : List Nat) (fp : Fp) (H : Heap) : Agr ids fp H H := ⟨rfl, fun _ _ => rfl, fun _ _ => rfl, fun _ _ => rfl⟩
theorem Agr.trans {ids : List Nat} {fp : Fp} {H K L : Heap} (h : Agr ids fp H K) (k : Agr ids fp K L) : Agr ids fp H L := ⟨k.len.trans h.len, fun i hi => (k.out i hi).trans (h.out i hi), fun i hi => (k.inn i hi).trans (h.inn i hi), fun i hi => Eq.trans (k.liv i hi) (h.liv i hi)⟩
/-- What may have changed. -/
structure Upd (ids : List Nat) (fp : Fp) (H H' : Heap) : Prop where
  len : H'.length = H.length
  out : ∀ i, i ∉ atP ids fp.w → H'[i]? = H[i]?
  ver : ∀ i, i ∉ atP ids fp.v → VEq H H' i
theorem Upd.refl (ids : List Nat) (fp : Fp) (H : Heap) : Upd ids fp H H := ⟨rfl, fun _ _ => rfl, fun _ _ => rfl⟩
theorem Upd.set {ids : List Nat} {fp : Fp} {id : Nat} {k b : Blk} (hk : H[id]? = some k) (hw : id ∈ atP ids fp.w) (hv : b.ver = k.ver ∨ id ∈ atP ids fp.v) : Upd ids fp H (H.set id b) := by
  have hid : id < H.length := (List.getElem?_eq_some_iff.1 hk).1
  refine ⟨by simp, fun i hi => ?_, fun i hi => ?_⟩
  all_goals grind [List.getElem?_set_ne, VEq, List.getElem?_set_self]

/-- A slice of no elements, made without a place. -/
def pnew0 (P : Program) (op : Op) (f : Nat → PV) : Option PV := match op with
  | .makeSlice t l c => match P.underlying t, ev f l, ev f c with
    | some (.slice e), .int _ l, .int _ c => match byT P e, zcells P e with
      | some _, some _ => if l = 0 ∧ c = 0 then some (.slice [] 0 true) else none
      | _, _ => none
    | _, _, _ => none
  | _ => none
def popI (P : Program) (ids : List Nat) (rs : List (Nat × Nat)) (o : Oper) (f : Nat → PV) (H : Heap) : Option (PV × Heap) := match resI rs o with
  | some p => match ids[p]? with
    | some r => match pnew P o.op f with
      | some (b, mk) => match H[r]? with
        | some k => if k.e = b.e ∧ k.ver = 0 then some (mk r, H.set r b) else none
        | none => none
      | none => none
    | none => (pnew0 P o.op f).map fun v => (v, H)
  | none => pop P o.op f H
def StI (P : Program) (ids : List Nat) (rs : List (Nat × Nat)) (o : Oper) (f : Nat → PV) (H : Heap) (v : PV) (H' : Heap) : Prop := match pcallee o.op f with
  | some (g, args) => CallOk P g args H v H'
  | none => popI P ids rs o f H = some (v, H')
/-- It does the same in every heap that agrees. -/
def Loc (P : Program) (ids : List Nat) (rs : List (Nat × Nat)) (fp : Fp) (o : Oper) (f : Nat → PV) (H : Heap) (v : PV) (H' : Heap) : Prop :=
  Upd ids fp H H' ∧ ∀ K, Agr ids fp H K → ∃ K', StI P ids rs o f K v K' ∧ Upd ids fp K K' ∧ ∀ i, i ∈ atP ids fp.w → K'[i]? = H'[i]?
def ExI (P : Program) (all : List Oper) (ids : List Nat) (pm : List (Nat × List Nat)) (rs : List (Nat × Nat)) (ro : List Nat) (o : Oper) (f : Nat → PV) (H : Heap) (v : PV) (H' : Heap) : Prop :=
  (want all f o = some false ∧ v = .tup [] ∧ H' = H) ∨ (want all f o = some true ∧ Loc P ids rs (fpOf pm rs ro o) o f H v H')

theorem Loc.now {ids : List Nat} {rs : List (Nat × Nat)} {fp : Fp} {o : Oper} {f : Nat → PV} {v : PV} {H' : Heap} (h : Loc P ids rs fp o f H v H') : StI P ids rs o f H v H' := by
  obtain ⟨u, h⟩ := h
  obtain ⟨K', h1, h2, h3⟩ := h H (.refl _ _ _)
  have : K' = H' := List.ext_getElem? fun i => by
    by_cases hi : i ∈ atP ids fp.w
    · simp_all
    · rw [h2.out i hi, u.out i hi]
  simp_all
theorem Loc.read {ids : List Nat} {rs : List (Nat × Nat)} {fp : Fp} {o : Oper} {f : Nat → PV} {v : PV} (h : ∀ K, Agr ids fp H K → StI P ids rs o f K v K) : Loc P ids rs fp o f H v H :=
  ⟨.refl _ _ _, fun K hK => ⟨K, h K hK, .refl _ _ _, fun i hi => hK.inn i (.inr hi)⟩⟩
theorem Loc.set {ids : List Nat} {rs : List (Nat × Nat)} {fp : Fp} {o : Oper} {f : Nat → PV} {v : PV} {id : Nat} {k b : Blk} (hk : H[id]? = some k) (hw : id ∈ atP ids fp.w) (hv : b.ver = k.ver ∨ id ∈ atP ids fp.v)
    (h : ∀ K, Agr ids fp H K → StI P ids rs o f K v (K.set id b)) : Loc P ids rs fp o f H v (H.set id b) := by
  refine ⟨.set hk hw hv, fun K hK => ⟨K.set id b, h K hK, .set ((hK.inn id (.inr hw)).trans hk) hw hv, fun i hi => ?_⟩⟩
  by_cases e : id = i
  · subst e
    have hid : id < H.length := (List.getElem?_eq_some_iff.1 hk).1
    rw [List.getElem?_set_self hid, List.getElem?_set_self (by rw [hK.len]; exact hid)]
  · rw [List.getElem?_set_ne e, List.getElem?_set_ne e, hK.inn i (.inr hi)]

theorem popI_congr {ids : List Nat} {rs : List (Nat × Nat)} {o : Oper} {f g : Nat → PV} (h : ∀ x ∈ o.op.operands.toList, ev f x = ev g x) : popI P ids rs o f H = popI P ids rs o g H := by
  have e : pnew P o.op f = pnew P o.op g := by
    unfold pnew
    split
    · rfl
    · rename_i el x ho; rw [ho] at h; rw [h x (by simp [Op.operands])]
    · rename_i t l c ho; rw [ho] at h; rw [h l (by simp [Op.operands]), h c (by simp [Op.operands])]
    · rename_i t len parts ho
      rw [ho] at h
      have : parts.toList.map (fun p => (p.1, ev f p.2)) = parts.toList.map (fun p => (p.1, ev g p.2)) := List.map_congr_left fun p hp => by rw [h p.2 (by simp [Op.operands]; exact ⟨_, Array.mem_toList_iff.1 hp⟩)]
      rw [this]
    · rename_i args ts ho
      rw [ho] at h
      have : args.toList.map (ev f) = args.toList.map (ev g) := List.map_congr_left fun x hx => h x (by simp [Op.operands, Call.operands]; exact Array.mem_toList_iff.1 hx)
      rw [this]
    · rfl
  have e0 : pnew0 P o.op f = pnew0 P o.op g := by
    unfold pnew0
    split
    · rename_i t l c ho; rw [ho] at h; rw [h l (by simp [Op.operands]), h c (by simp [Op.operands])]
    · rfl
  grind [popI, pop_congr]
theorem ExI.congr {all : List Oper} {ids : List Nat} {pm : List (Nat × List Nat)} {rs : List (Nat × Nat)} {ro : List Nat} {o : Oper} {f g : Nat → PV} {v : PV} {H' : Heap} (h : ∀ t ∈ reads (all.map (·.dst)) o, f t = g t) (he : ExI P all ids pm rs ro o f H v H') : ExI P all ids pm rs ro o g H v H' := by
  have e1 : want all f o = want all g o := want_congr fun t ht => h t (List.mem_append.2 (.inr ht))
  have e2 : ∀ x ∈ o.op.operands.toList, ev f x = ev g x := fun x hx => ev_congr fun t ht => h t (List.mem_append.2 (.inl (mem_tmps (ht ▸ hx))))
  grind [ExI, Loc, StI, pcallee_congr, popI_congr]

theorem swapI {all : List Oper} {ids : List Nat} {pm : List (Nat × List Nat)} {rs : List (Nat × Nat)} {ro : List Nat} (hn : ids.Nodup) : SwapG (ExI P all ids pm rs ro) (compatI (all.map (·.dst)) pm rs ro) := by
  intro x o f H vx Hx v H1 hc hx ho
  unfold compatI at hc
  simp only [Bool.and_eq_true] at hc
  obtain ⟨⟨⟨⟨⟨⟨c1, c2⟩, c3⟩, c4⟩, c5⟩, c6⟩, c7⟩ := hc
  have ho' : ExI P all ids pm rs ro o f Hx v H1 := ho.congr fun t ht => upd_other (clear_reads c1 t ht)
  have hx' : ∀ K K', ExI P all ids pm rs ro x f K vx K' → ExI P all ids pm rs ro x (upd f o.dst v) K vx K' := fun K K' h => h.congr fun t ht => (upd_other (clear_reads c2 t ht)).symm
  have hcm := upd_comm (f := f) (u := vx) (v := v) (clear_dst c1)
  rcases hx with ⟨x1, x2, rfl⟩ | ⟨x1, ux, lx⟩
  · exact ⟨H1, ho', hx' _ _ (.inl ⟨x1, x2, rfl⟩), hcm⟩
  rcases ho' with ⟨o1, o2, rfl⟩ | ⟨o1, uo, lo⟩
  · exact ⟨H, .inl ⟨o1, o2, rfl⟩, hx' _ _ (.inr ⟨x1, ux, lx⟩), hcm⟩
  have dxr : ∀ {i}, i ∈ atP ids (fpOf pm rs ro x).w → i ∉ atP ids (fpOf pm rs ro o).r := fun h => atP_dis hn c3 h
  have dxw : ∀ {i}, i ∈ atP ids (fpOf pm rs ro x).w → i ∉ atP ids (fpOf pm rs ro o).w := fun h => atP_dis hn c4 h
  have dor : ∀ {i}, i ∈ atP ids (fpOf pm rs ro o).w → i ∉ atP ids (fpOf pm rs ro x).r := fun h => atP_dis hn c5 h
  have dxv : ∀ {i}, i ∈ atP ids (fpOf pm rs ro x).v → i ∉ atP ids (fpOf pm rs ro o).l := fun h => atP_dis hn c6 h
  have dov : ∀ {i}, i ∈ atP ids (fpOf pm rs ro o).v → i ∉ atP ids (fpOf pm rs ro x).l := fun h => atP_dis hn c7 h
  have a1 : Agr ids (fpOf pm rs ro o) Hx H := ⟨ux.len.symm, fun i hi => (ux.out i fun h => hi (atP_in h)).symm, fun i hi => (ux.out i fun h => by rcases hi with hi | hi; exact dxr h hi; exact dxw h hi).symm, fun i hi => (ux.ver i fun h => dxv h hi).symm⟩
  obtain ⟨H3, s3, u3, w3⟩ := lo H a1
  have a2 : Agr ids (fpOf pm rs ro x) H H3 := ⟨u3.len, fun i hi => u3.out i fun h => hi (atP_in h), fun i hi => u3.out i fun h => by rcases hi with hi | hi; exact dor h hi; exact dxw hi h, fun i hi => u3.ver i fun h => dov h hi⟩
  refine ⟨H3, .inr ⟨o1, u3, fun K hK => ?_⟩, hx' _ _ (.inr ⟨x1, ⟨?_, fun i hi => ?_, fun i hi => ?_⟩, fun K hK => ?_⟩), hcm⟩
  · obtain ⟨K', k1, k2, k3⟩ := lo K (a1.trans hK)
    grind
  · rw [uo.len, ux.len, u3.len]
  · by_cases hw : i ∈ atP ids (fpOf pm rs ro o).w
    · simp_all
    · rw [uo.out i hw, ux.out i hi, u3.out i hw]
  · by_cases hw : i ∈ atP ids (fpOf pm rs ro o).w
    · unfold VEq; rw [w3 i hw]
    · have := ux.ver i hi
      unfold VEq at this ⊢
      rw [uo.out i hw, u3.out i hw, this]
  · obtain ⟨K', k1, k2, k3⟩ := lx K (a2.trans hK)
    exact ⟨K', k1, k2, fun i hi => by rw [k3 i hi, uo.out i (dxw hi)]⟩

/-! ### a reserved place is taken -/
theorem pfill_length {place : Nat → Option (Nat × Nat)} : ∀ (parts : List (Nat × PV)) (cs ys : List PV), pfill place cs parts = some ys → ys.length = cs.length
  | [], cs, ys, h => by simp_all [pfill, Option.some.injEq]
  | (i, v) :: rest, cs, ys, h => by
    simp only [pfill] at h
    split at h
    · cases h
    · rename_i off size hp
      split at h
      · rename_i hq
        rw [pfill_length rest _ _ h]
        grind [splice, List.length_append, List.length_take, List.length_drop]
      · cases h
theorem pnewA_sound {t tx ty e sz bb len m r : Nat} {full g : Bool} {xs ys z : List PV} {p q : Value} {k : Blk} (hw : WRel C H w) (hsv : VRel C (.slice xs len full) p) (hx : VRel C (.slice ys m g) q)
    (hu : P.underlying t = some (.slice e)) {e' : TypeId} (hu' : P.underlying tx = some (.slice e')) (hn : szT P e = some sz) (hb : byT P e = some bb) (hz : zcells P e = some z)
    (hq : 0 < sz ∧ z.length = sz ∧ full = true ∧ xs.length = len * sz ∧ 0 < m ∧ ys.length = m * sz ∧ (len + m) * bb ≤ 140737488355328 ∧ len + m ≤ 140737488355328) (hk : H[r]? = some k) (he : k.e = e) (hv : k.ver = 0) :
    ∃ C' u w', CLe C C' ∧ WRel C' (H.set r ⟨e, 1, xs ++ ys⟩) w' ∧ Below C.B w w' ∧ VRel C' (.msl r 1 0 (len + m) sz true) u ∧ (Builtin.append_ #[t, tx] ty #[p, q]).run P w = .ok u w' := by
  have hid : r < H.length := (List.getElem?_eq_some_iff.1 hk).1
  have g1 : r < C.mu.length := by rw [hw.len]; exact hid
  have g2 : r < C.vs.length := by rw [hw.lenv]; exact hid
  have g3 : r < C.cp.length := by rw [hw.lenc]; exact hid
  obtain ⟨q1, q2, rfl, q4, q5, q6, q7, q8⟩ := hq
  obtain ⟨i, zv, hi, hzv, hzr, hzl, hzc⟩ := zcells_of hz
  obtain ⟨ie, hie, hs⟩ := szT_info hn
  obtain ⟨ib, hib, hby⟩ := byT_info hb
  rw [hi] at hie hib
  injection hie with hie
  injection hib with hib
  subst hie hib
  have hsrc : appSrc P H e sz tx (.slice ys m g) = some (ys, m) := by
    simp_all [appSrc, scells]
  obtain ⟨us, happ, hRn, hln, hnn, hcn⟩ := appSrc_sound hw hx hi hs hzv hz q2 q1 hsrc
  have hzsize : ∀ m, (Builtin.zeroCells zv.cells m).size = m * sz := fun m => by
    rw [size_zeroCells, ← Array.length_toList, hzl, q2]
  have hshape : ∃ ad os, p = .slice ad len len ∧ os.length = xs.length ∧ Rel C xs os ∧ (∀ x ∈ xs, x.cell = true) ∧ ((len = 0 ∧ os = []) ∨ ∃ b o, ad = some ⟨b, o, none⟩ ∧ At w b o os) := by
    cases hsv with
    | @slice _ _ cap b' o' _ us' hl' hM' hc' hR' hcap' hmax' hf' => rw [hf' rfl]; exact ⟨_, us', rfl, hl', hR', hc', .inr ⟨b', o', rfl, hw.at_imm hM'⟩⟩
    | sliceN => exact ⟨_, [], rfl, rfl, fun j x u hx => by simp at hx, fun x hx => by simp at hx, .inl ⟨rfl, rfl⟩⟩
  obtain ⟨ad, os, rfl, hos, hRx, hcx, hat⟩ := hshape
  have hold : (Builtin.firstCells i.size len (.slice ad len len)).run P w.drew = .ok os.toArray w.drew := by
    rw [hs]; exact first_of (w := w.drew) (by omega) (by rcases hat with h1 | ⟨b, o, h1, h2⟩; exact .inl h1; exact .inr ⟨b, o, h1, h2⟩)
  have hr := app_grow (P := P) (ty := ty) hu hi hzv hold happ (by omega) (by rw [hby]; exact q7) q8 (by rw [hs]; exact q1)
  have hge := grownCap_ge w (len + m) len e
  have hle := grownCap_le_maxLen w (len + m) len e (by simp only [maxLen]; omega)
  generalize grownCap w (len + m) len e = nc at hr hge hle
  generalize hcur : (os ++ us).toArray ++ Builtin.zeroCells zv.cells (nc - (len + m)) = cur at hr
  have hsize : cur.size = nc * sz := by
    rw [← hcur, Array.size_append, hzsize]
    simp only [List.size_toArray, List.length_append, hos, q4, hln, q6, ← Nat.add_mul]
    simp_all
  have hfit : (xs ++ ys).length ≤ cur.size := by
    grind
  obtain ⟨c1, c2, c30⟩ := hw.drew.move hk 1 (by omega) (xs ++ ys) cur (fun x hx => by rcases List.mem_append.1 hx with hx | hx; exact hcx x hx; exact hcn x hx) hfit (fun j x u hx hu' => by
    have hlt : j < (xs ++ ys).length := (List.getElem?_eq_some_iff.1 hx).1
    refine Rel.append hos hRx hRn j x u hx ?_
    rw [← hcur, ← Array.getElem?_toList, Array.toList_append, List.getElem?_append_left (by simp at hlt ⊢; omega)] at hu'
    exact hu')
  rw [he] at c2 c30
  have c3 := ((Below.refl C.B w).drew).trans c30
  refine ⟨_, _, _, c1, c2, c3, ?_, hr⟩
  refine .msl (by simp [g1]) (by simp [g2]) hge hle (fun _ => ⟨rfl, ?_⟩)
  simp [g3, hsize]
theorem pnew_sound {op : Op} {f : Nat → PV} {b : Blk} {mk : Nat → PV} {r : Nat} {k : Blk} {o : Oper} (ho : o.op = op) (hw : WRel C H w) (hf : FRel C N f a) (h : pnew P op f = some (b, mk)) (hk : H[r]? = some k) (he : k.e = b.e) (hv : k.ver = 0) :
    ∃ C' u w', CLe C C' ∧ WRel C' (H.set r b) w' ∧ Below C.B w w' ∧ VRel C' (mk r) u ∧ (execOp a.eval o).run P w = .ok (.value u) w' := by
  have hid : r < H.length := (List.getElem?_eq_some_iff.1 hk).1
  have g1 : r < C.mu.length := by rw [hw.len]; exact hid
  have g2 : r < C.vs.length := by rw [hw.lenv]; exact hid
  have g3 : r < C.cp.length := by rw [hw.lenc]; exact hid
  unfold pnew at h
  split at h
  · rename_i elem
    simp only [Option.map_eq_some_iff, Prod.mk.injEq] at h
    obtain ⟨z, hz, rfl, rfl⟩ := h
    obtain ⟨i, zv, hi, hzv, hzr, hzl, hzc⟩ := zcells_of hz
    obtain ⟨c1, c2, c3⟩ := hw.move hk 1 (by omega) z zv.cells hzc (by rw [← hzl]; simp) (fun j x u hx hu => hzr C j x u hx (by simpa using hu))
    rw [he] at c2 c3
    refine ⟨_, .pointer (some ⟨w.heap.size, 0, none⟩), _, c1, c2, c3, .ptr (by simp [g1]) (by simp [g2]), ?_⟩
    simp [execOp, ho, Instr.alloc, newVar, newRow, zeroValue, typeInfo, hi, hzv]
  · rename_i elem x
    split at h
    · rename_i hall
      simp only [Option.some.injEq, Prod.mk.injEq] at h
      obtain ⟨rfl, rfl⟩ := h
      obtain ⟨hr, hl⟩ := cells_rel hall (ev_rel hf x)
      obtain ⟨c1, c2, c3⟩ := hw.move hk 1 (by omega) (ev f x).cells (a.eval x).cells (fun x hx => List.all_eq_true.1 hall x hx) (by rw [← hl]; simp) (fun j x u hx hu => hr j x u hx (by simpa using hu))
      rw [he] at c2 c3
      refine ⟨_, .pointer (some ⟨w.heap.size, 0, none⟩), _, c1, c2, c3, .ptr (by simp [g1]) (by simp [g2]), ?_⟩
      simp [execOp, ho, Instr.box, newVar, newRow]
    · cases h
  · rename_i t lo co
    split at h
    · rename_i e kl l kc c hu hlv hcv
      split at h
      · rename_i n bb z hn hb hz
        obtain ⟨i, zv, hi, hzv, hzr, hzl, hzc⟩ := zcells_of hz
        obtain ⟨ie, hie, hs⟩ := szT_info hn
        obtain ⟨ib, hib, hby⟩ := byT_info hb
        rw [hi] at hie hib
        injection hie with hie
        injection hib with hib
        subst hie hib
        split at h
        · rename_i hq
          simp only [Option.some.injEq, Prod.mk.injEq] at h
          obtain ⟨rfl, rfl⟩ := h
          have hl := ev_rel hf lo
          have hc := ev_rel hf co
          rw [hlv] at hl
          rw [hcv] at hc
          have el := inv_int hl
          have ec := inv_int hc
          have hr := run_make (P := P) w t e i zv hu hi hzv kl kc l c hq.1 hq.2.1 (by rw [hby]; have := hq.2.2.1; omega) (by have := hq.2.2.2.1; omega)
          have hcn : l.toNat * z.length ≤ c.toNat * i.size := by rw [hs, hq.2.2.2.2.1]; exact Nat.mul_le_mul_right n (by omega)
          have hmade := made_rel (C := C) (n := l.toNat) (m := c.toNat * i.size) hzl (hzr C) (by rw [hq.2.2.2.2.1]; exact hq.2.2.2.2.2) hcn
          obtain ⟨c1, c2, c3⟩ := hw.move hk 1 (by omega) (reps l.toNat z) (madeCells zv.cells (c.toNat * i.size)) (reps_cell hzc) (by rw [length_reps, size_madeCells]; exact hcn) (fun j x u hx hu => hmade j x u hx (by rw [Array.getElem?_toList]; exact hu))
          rw [he] at c2 c3
          refine ⟨_, .slice (some ⟨w.heap.size, 0, none⟩) l.toNat c.toNat, _, c1, c2, c3, ?_, by simp only [execOp, ho, el, ec, Sem.run_bind, hr, Result.andThen_ok, Sem.run_pure]⟩
          refine .msl (by simp [g1]) (by simp [g2]) (by omega) (by have := hq.2.2.2.1; simp only [maxLen]; omega) (fun _ => ⟨rfl, ?_⟩)
          simp [g3, size_madeCells, hs]
        · cases h
      · cases h
    · cases h
  · rename_i t len parts
    split at h
    · rename_i e hu
      split at h
      · rename_i n z hn hz
        obtain ⟨i, zv, hi, hzv, hzr, hzl, hzc⟩ := zcells_of hz
        obtain ⟨ie, hie, hs⟩ := szT_info hn
        rw [hi] at hie
        injection hie with hie
        subst hie
        split at h
        · rename_i hq
          simp only [Option.map_eq_some_iff, Prod.mk.injEq] at h
          obtain ⟨ys, hys, rfl, rfl⟩ := h
          obtain ⟨hl, hp⟩ := parts_rel hf parts
          have hpos : 0 < z.length := by
            grind
          have hmade := made_rel (C := C) (n := len) (m := len * i.size) hzl (hzr C) hpos (by rw [hs, hq.1]; exact Nat.le_refl _)
          obtain ⟨cs', q1, q2, q3, q4⟩ := pfill_sound (C := C) (fun i => some (i * n, n)) _ _ (reps len z) ys ((Array.range (len * i.size)).map (zv.cells[· % zv.cells.size]!)) hl hp hmade
            (by rw [length_reps, hq.1, hs]; simp) (reps_cell hzc) hys
          have hr := run_buildSlice (P := P) w t e len _ cs' i zv hu hi hzv (by rw [hs]; have := hq.2.2; omega) (by rw [hs]; have := hq.2.1; omega) (by rw [hs] at q1 ⊢; exact q1)
          obtain ⟨c1, c2, c3⟩ := hw.move hk 1 (by omega) ys cs' q4 (by rw [← q3]; exact Nat.le_refl _) (fun j x u hx hu => q2 j x u hx (by simpa using hu))
          rw [he] at c2 c3
          refine ⟨_, .slice (some ⟨w.heap.size, 0, none⟩) len len, _, c1, c2, c3, ?_, by simp only [execOp, ho, Sem.run_bind, hr, Result.andThen_ok, Sem.run_pure]⟩
          have hln : len ≤ len * n := Nat.le_mul_of_pos_right len (by omega)
          refine .msl (by simp [g1]) (by simp [g2]) (Nat.le_refl _) (by simp only [maxLen]; omega) (fun _ => ⟨rfl, ?_⟩)
          have : ys.length = len * n := by
            grind [pfill_length, length_reps]
          simp [g3, ← q3, this]
        · cases h
      · cases h
    · cases h
  · rename_i args ts
    split at h
    · rename_i t tx xs len full ys m g hts hal
      split at h
      · rename_i e e' hu hu'
        split at h
        · rename_i sz bb z hn hb hz
          split at h
          · rename_i hq
            simp only [Option.some.injEq, Prod.mk.injEq] at h
            obtain ⟨rfl, rfl⟩ := h
            obtain ⟨x, y, hxy, hx1, hy1⟩ : ∃ x y, args.toList = [x, y] ∧ ev f x = .slice xs len full ∧ ev f y = .slice ys m g := by
              match hat : args.toList, hal with
              | [x, y], hal => simp only [List.map_cons, List.map_nil, List.cons.injEq, and_true] at hal; exact ⟨x, y, rfl, hal.1, hal.2⟩
              | [], hal => simp at hal
              | [_], hal => simp at hal
              | _ :: _ :: _ :: _, hal => simp at hal
            have r1 := ev_rel hf x
            have r2 := ev_rel hf y
            rw [hx1] at r1
            rw [hy1] at r2
            obtain ⟨C', u, w', s1, s2, s3, s4, s5⟩ := pnewA_sound (ty := o.type) hw r1 r2 hu hu' hn hb hz hq hk he hv
            refine ⟨C', u, w', s1, s2, s3, s4, ?_⟩
            have ea : args = #[x, y] := Array.toList_inj.1 (by rw [hxy])
            have et : ts = #[t, tx] := Array.toList_inj.1 (by rw [hts])
            subst ea et
            have hb : ∀ cs, builtin .append #[t, tx] o.type cs #[a.eval x, a.eval y] = (do pure (.value (← Builtin.append_ #[t, tx] o.type #[a.eval x, a.eval y]))) := fun _ => rfl
            simp only [execOp, ho, resolve, invoke, Sem.run_bind, Sem.run_pure, Result.andThen_ok, List.map_toArray, List.map_cons, List.map_nil, hb, s5]
          · cases h
        · cases h
      · cases h
    · cases h
  · cases h

theorem pnew0_sound {op : Op} {f : Nat → PV} {v : PV} {o : Oper} (ho : o.op = op) (hw : WRel C H w) (hf : FRel C N f a) (h : pnew0 P op f = some v) :
    ∃ u w', WRel C H w' ∧ Below C.B w w' ∧ VRel C v u ∧ (execOp a.eval o).run P w = .ok (.value u) w' := by
  unfold pnew0 at h
  split at h
  · rename_i t lo co
    split at h
    · rename_i e kl l kc c hu hlv hcv
      split at h
      · rename_i bb z hb hz
        obtain ⟨i, zv, hi, hzv, hzr, hzl, hzc⟩ := zcells_of hz
        split at h
        · rename_i hq
          obtain ⟨rfl, rfl⟩ := hq
          simp only [Option.some.injEq] at h
          subst h
          have hl := ev_rel hf lo
          have hc := ev_rel hf co
          rw [hlv] at hl
          rw [hcv] at hc
          have el := inv_int hl
          have ec := inv_int hc
          have hr := run_make (P := P) w t e i zv hu hi hzv kl kc 0 0 (by omega) (by omega) (by omega) (by omega)
          refine ⟨.slice (some ⟨w.heap.size, 0, none⟩) 0 0, _, hw.grown ((Below.refl _ _).alloc (Nat.le_refl _) _), (Below.refl _ _).alloc hw.base _, .sliceN _ _, by simp only [execOp, ho, el, ec, Sem.run_bind, hr, Result.andThen_ok, Sem.run_pure]; rfl⟩
        · cases h
      · cases h
    · cases h
  · cases h
theorem stI_sound {o : Oper} {ids : List Nat} {rs : List (Nat × Nat)} {f : Nat → PV} {v : PV} {H' : Heap} (hd : dstOk N o = true) (hw : WRel C H w) (hf : FRel C N f a) (h : StI P ids rs o f H v H') (next : Act → World → Prop) (Q : Exit → Act → World → Prop)
    (hn : ∀ C' u w', CLe C C' → WRel C' H' w' → Below C.B w w' → FRel C' N (upd f o.dst v) (a.put o.dst u) → next (a.put o.dst u) w') : o.wp P a w next Q := by
  unfold StI at h
  split at h
  · rename_i g args hc
    exact exec_sound hd hw hf (by unfold Exec; rw [hc]; exact h) _ _ hn
  · rename_i hc
    unfold popI at h
    split at h
    · rename_i p hp
      split at h
      · rename_i r hr
        split at h
        · rename_i b mk hb
          split at h
          · rename_i k hk
            split at h
            · rename_i hq
              simp only [Option.some.injEq, Prod.mk.injEq] at h
              obtain ⟨rfl, rfl⟩ := h
              obtain ⟨C', u, w', q1, q2, q3, q4, q5⟩ := pnew_sound (o := o) rfl hw hf hb hk hq.1 hq.2
              unfold Oper.wp
              rw [q5, Oper.upon_value]
              exact hn C' u w' q1 q2 q3 ((hf.mono q1).put _ (dstOk_of hd) q4)
            · cases h
          · cases h
        · cases h
      · simp only [Option.map_eq_some_iff, Prod.mk.injEq] at h
        obtain ⟨v', hv', rfl, rfl⟩ := h
        obtain ⟨u, w', q2, q3, q4, q5⟩ := pnew0_sound (o := o) rfl hw hf hv'
        unfold Oper.wp
        rw [q5, Oper.upon_value]
        exact hn C u w' (.refl C) q2 q3 (hf.put _ (dstOk_of hd) q4)
    · exact exec_sound hd hw hf (by unfold Exec; rw [hc]; exact h) _ _ hn

theorem stepI {ops : Array Oper} {ids : List Nat} {pm : List (Nat × List Nat)} {rs : List (Nat × Nat)} {ro : List Nat} : StepG P N ops (ExI P ops.toList ids pm rs ro) := by
  intro o f H v H' C a w hd hw hf he
  rcases he with ⟨h1, h2, h3⟩ | ⟨h1, h2⟩
  · have hwant := want_sound hf h1
    simp_all
  · have hwant := want_sound hf h1
    rw [Array.toArray_toList] at hwant
    exact .inr ⟨hwant, fun next Q hn => stI_sound hd hw hf h2.now _ _ hn⟩

end Go.Proofs.YtbhdollgohgkgaaGreatDoor.Pm

namespace Go.Proofs.YtbhdollgohgkgaaGreatDoor.Pm
set_option linter.all false
set_option linter.unusedVariables false
set_option linter.unusedSimpArgs false
open Go.RowKit

variable {P : Program} {C : Ctx} {H K : Heap} {w : World} {F : Fr} {a : Act} {N : Nat}

/-- It may be read. -/
def okO (ids : List Nat) (pm : List (Nat × List Nat)) (f : Nat → PV) (x : Operand) : Bool := (topId (ev f x)).all fun i => !(ids.elem i) || (atP ids (posO pm x)).elem i
/-- It may be written. -/
def inO (ids : List Nat) (pm : List (Nat × List Nat)) (f : Nat → PV) (x : Operand) : Bool := match topId (ev f x) with
  | [i] => (atP ids (posO pm x)).elem i
  | _ => false
def isMsl : PV → Bool
  | .msl .. => true
  | _ => false
/-- Nothing is appended. -/
def nilApp (f : Nat → PV) (op : Op) : Bool := match op with
  | .call { args, .. } => (match args.toList.map (ev f) with | [.slice _ _ _, .slice _ 0 _] => true | _ => false)
  | _ => false
def chkI (ids : List Nat) (pm : List (Nat × List Nat)) (rs : List (Nat × Nat)) (o : Oper) (f : Nat → PV) : Bool := match resI rs o with
  | some _ => true
  | none => match kindI o.op with
    | 0 => true
    | 1 => o.op.operands.toList.all (okO ids pm f)
    | 2 => o.op.operands.toList.all (okO ids pm f)
    | 3 => (match fstO o.op with | some x => inO ids pm f x | none => false)
    | 4 => (match fstO o.op with | some x => (inO ids pm f x && isMsl (ev f x) && o.op.operands.toList.all (okO ids pm f)) || nilApp f o.op | none => false)
    | 5 => (match fstO o.op with | some x => inO ids pm f x && o.op.operands.toList.all (okO ids pm f) | none => false)
    | 6 => (match fstO o.op with | some x => inO ids pm f x && o.op.operands.toList.all (okO ids pm f) | none => false)
    | _ => false

theorem okO_of {ids : List Nat} {pm : List (Nat × List Nat)} {f : Nat → PV} {op : Op} (h : op.operands.toList.all (okO ids pm f) = true) : ∀ x ∈ op.operands.toList, ∀ i ∈ topId (ev f x), i ∉ ids ∨ i ∈ atP ids (opPos pm op) := fun x hx i hi => by
  have := List.all_eq_true.1 (List.all_eq_true.1 h x hx) i hi
  simp only [Bool.or_eq_true, Bool.not_eq_true', List.elem_eq_mem, decide_eq_true_eq, decide_eq_false_iff_not] at this
  rcases this with h | h
  · exact .inl h
  · obtain ⟨p, hp, e⟩ := atP_mem h
    exact .inr (List.mem_filterMap.2 ⟨p, List.mem_flatten.2 ⟨_, List.mem_map.2 ⟨x, hx, rfl⟩, hp⟩, e⟩)
theorem okO_ids {ids : List Nat} {pm : List (Nat × List Nat)} {f : Nat → PV} {op : Op} (h : op.operands.toList.all (okO ids pm f) = true) : ∀ i ∈ opIds op f, i ∉ ids ∨ i ∈ atP ids (opPos pm op) := fun i hi => by
  obtain ⟨l, hl, hi⟩ := List.mem_flatten.1 hi
  grind [List.mem_map.1, okO_of]
theorem Agr.rd {ids : List Nat} {fp : Fp} {pm : List (Nat × List Nat)} {op : Op} (hA : Agr ids fp H K) (hr : fp.r = opPos pm op) {i : Nat} (h : i ∉ ids ∨ i ∈ atP ids (opPos pm op)) : K[i]? = H[i]? := by
  rcases h with h | h
  · exact hA.out i h
  · exact hA.inn i (.inl (by rw [hr]; exact h))
theorem inO_of {ids : List Nat} {pm : List (Nat × List Nat)} {f : Nat → PV} {x : Operand} {i : Nat} (h : inO ids pm f x = true) (hi : topId (ev f x) = [i]) : i ∈ atP ids (posO pm x) := by
  simp_all [inO, List.elem_eq_mem]

theorem kind_pure {op : Op} (h : kindI op = 0) : pureOp op = true := by
  unfold kindI at h
  grind
theorem kind_low {op : Op} (h : kindI op = 1 ∨ kindI op = 2) : eff op = false ∧ (kindI op = 1 → liveOnly op = true) := by
  unfold kindI at h ⊢
  grind
theorem kind_eff {op : Op} {n : Nat} (h : kindI op = n + 3) (hn : n ≤ 3) : eff op = true ∧ pureOp op = false ∧ isCall op = false := by
  unfold kindI at h
  grind
theorem kind_store {op : Op} (h : kindI op = 3) : ∃ t x y, op = .store t x y := by
  obtain ⟨h1, h2, h3⟩ := kind_eff (n := 0) h (by omega)
  unfold kindI at h
  grind
theorem kind_append {op : Op} (h : kindI op = 4) : ∃ args ts, op = .call { callee := .builtin .append, args := args, argTypes := ts } := by
  obtain ⟨h1, h2, h3⟩ := kind_eff (n := 1) h (by omega)
  unfold kindI at h
  grind
theorem kind_copy {op : Op} (h : kindI op = 5) : ∃ args ts, op = .call { callee := .builtin .copy, args := args, argTypes := ts } := by
  obtain ⟨h1, h2, h3⟩ := kind_eff (n := 2) h (by omega)
  unfold kindI at h
  grind
theorem kind_map {op : Op} (h : kindI op = 6) : ∃ t m k x, op = .mapUpdate t m k x ∨ op = .insert t m k x := by
  obtain ⟨h1, h2, h3⟩ := kind_eff (n := 3) h (by omega)
  unfold kindI at h
  grind

theorem appSrc_c {e sz tx : Nat} {x : PV} (hx : ∀ id ∈ topId x, K[id]? = H[id]?) : appSrc P K e sz tx x = appSrc P H e sz tx x := by
  unfold appSrc
  split <;> try rfl
  exact scells_c hx
theorem pmapOf_c {t : TypeId} {m : PV} (hx : ∀ id ∈ topId m, K[id]? = H[id]?) : pmapOf P K t m = pmapOf P H t m := by
  unfold pmapOf
  grind [topId]

/-- The writes: one block, and the same in every heap that agrees. -/
theorem pstore_loc {t : TypeId} {x v : PV} {H' : Heap} (h : pstore P H t x v = some H') : ∃ id k b, topId x = [id] ∧ H[id]? = some k ∧ b.ver = k.ver ∧ H' = H.set id b ∧ ∀ K : Heap, K[id]? = H[id]? → pstore P K t x v = some (K.set id b) := by
  unfold pstore at h
  split at h
  · rename_i id ver off
    split at h
    · rename_i k hk
      split at h
      · rename_i hv
        simp only [Option.map_eq_some_iff] at h
        obtain ⟨c, hc, rfl⟩ := h
        refine ⟨id, k, ⟨k.e, k.ver, c⟩, rfl, hk, rfl, rfl, fun K hK => ?_⟩
        unfold pstore
        simp only [hK, hk, hv, if_true, hc, Option.map_some]
      · cases h
    · cases h
  · cases h
theorem pmset_loc {t : TypeId} {m k x : PV} {H' : Heap} (h : pmset P H t m k x = some H') : ∃ id b' b, topId m = [id] ∧ H[id]? = some b' ∧ b.ver = b'.ver ∧ H' = H.set id b ∧ ∀ K : Heap, K[id]? = H[id]? → pmset P K t m k x = some (K.set id b) := by
  unfold pmset at h
  split at h
  · rename_i e d id b hm
    have hq : topId m = [id] ∧ H[id]? = some b := by
      unfold pmapOf at hm
      split at hm
      · rename_i kt e' id' ver hu
        split at hm
        · rename_i d' b' hs hb
          split at hm
          · simp only [Option.some.injEq, Prod.mk.injEq] at hm
            obtain ⟨_, _, rfl, rfl⟩ := hm
            exact ⟨rfl, hb⟩
          · cases hm
        · cases hm
      · cases hm
    have key : ∀ K : Heap, K[id]? = H[id]? → pmapOf P K t m = some (e, d, id, b) := fun K hK => by
      rw [pmapOf_c (H := H) (fun i hi => by rw [hq.1] at hi; simp at hi; rw [hi]; exact hK), hm]
    split at h
    · rename_i i v hf
      simp only [Option.some.injEq] at h
      subst h
      exact ⟨id, b, ⟨b.e, b.ver, b.cells.set i (.tup [k, x])⟩, hq.1, hq.2, rfl, rfl, fun K hK => by unfold pmset; rw [key K hK]; simp only [hf]⟩
    · rename_i hf
      simp only [Option.some.injEq] at h
      subst h
      exact ⟨id, b, ⟨b.e, b.ver, b.cells ++ [.tup [k, x]]⟩, hq.1, hq.2, rfl, rfl, fun K hK => by unfold pmset; rw [key K hK]; simp only [hf]⟩
    · cases h
  · cases h
theorem pcopy_loc {t : TypeId} {d x v : PV} {H' : Heap} {id : Nat} (hd : topId d = [id]) (h : pcopy P H t d x = some (v, H')) : ∃ k b, H[id]? = some k ∧ b.ver = k.ver ∧ H' = H.set id b ∧ ∀ K : Heap, K[id]? = H[id]? → (∀ i ∈ topId x, K[i]? = H[i]?) → pcopy P K t d x = some (v, K.set id b) := by
  unfold pcopy at h
  split at h
  · rename_i e hu
    split at h
    · rename_i sz hs
      split at h
      · rename_i id' ver off len z g
        simp only [topId, List.cons.injEq, and_true] at hd
        subst hd
        split at h
        · rename_i k ys n hk hy
          split at h
          · rename_i hq
            simp only [Option.some.injEq, Prod.mk.injEq] at h
            obtain ⟨rfl, rfl⟩ := h
            refine ⟨k, ⟨k.e, ver, splice k.cells off (ys.take (min n len * sz))⟩, hk, hq.1.symm, rfl, fun K hK hx => ?_⟩
            unfold pcopy
            simp only [hu, hs, hK, hk, scells_c hx, hy]
            simp_all
          · cases h
        · cases h
      all_goals simp_all [topId]
    · cases h
  · cases h
theorem pappend_loc {t tx : TypeId} {s x v : PV} {H' : Heap} {id : Nat} (hm : isMsl s = true) (hd : topId s = [id]) (h : pappend P H t tx s x = some (v, H')) : ∃ k b, H[id]? = some k ∧ H' = H.set id b ∧ ∀ K : Heap, K[id]? = H[id]? → (∀ i ∈ topId x, K[i]? = H[i]?) → pappend P K t tx s x = some (v, K.set id b) := by
  unfold pappend at h
  split at h
  · rename_i e hu
    split at h
    · rename_i sz bb z hs hb hz
      split at h
      · rename_i hq0
        split at h
        · rename_i news n hsrc
          split at h
          · simp [isMsl] at hm
          · rename_i id' ver off len sz' g
            simp only [topId, List.cons.injEq, and_true] at hd
            subst hd
            split at h
            · rename_i k hk
              split at h
              · rename_i hq
                split at h
                · rename_i hn
                  simp only [Option.some.injEq, Prod.mk.injEq] at h
                  obtain ⟨rfl, rfl⟩ := h
                  have hset : ∀ K : Heap, K[id']? = some k → K.set id' k = K := fun K hK => List.ext_getElem? fun i => by
                    by_cases e : id' = i
                    · subst e; rw [List.getElem?_set_self (List.getElem?_eq_some_iff.1 hK).1, hK]
                    simp_all
                  refine ⟨k, k, hk, (hset _ hk).symm, fun K hK hx => ?_⟩
                  unfold pappend
                  simp only [hu, hs, hb, hz, appSrc_c hx, hsrc, hK, hk]
                  rw [if_pos hq0, if_pos hq, if_pos hn, hset K (hK.trans hk)]
                · rename_i hn
                  simp only [Option.some.injEq, Prod.mk.injEq] at h
                  obtain ⟨rfl, rfl⟩ := h
                  refine ⟨k, ⟨e, (k.cells ++ news).length, k.cells ++ news⟩, hk, rfl, fun K hK hx => ?_⟩
                  unfold pappend
                  simp only [hu, hs, hb, hz, appSrc_c hx, hsrc, hK, hk]
                  grind
              · cases h
            · cases h
          · cases h
        · cases h
      · cases h
    · cases h
  · cases h

theorem pappend_nil {t tx : TypeId} {xs ys : List PV} {len : Nat} {full g : Bool} {v : PV} {H' : Heap} (h : pappend P H t tx (.slice xs len full) (.slice ys 0 g) = some (v, H')) : H' = H ∧ ∀ K, pappend P K t tx (.slice xs len full) (.slice ys 0 g) = some (v, K) := by
  have hs : ∀ K : Heap, ∀ e sz, appSrc P K e sz tx (.slice ys 0 g) = appSrc P H e sz tx (.slice ys 0 g) := fun K e sz => appSrc_c fun i hi => by simp [topId] at hi
  have h0 : ∀ e sz news n, appSrc P H e sz tx (.slice ys 0 g) = some (news, n) → n = 0 := fun e sz news n h => by
    unfold appSrc at h
    grind [scells, Option.some.injEq, Prod.mk.injEq]
  unfold pappend at h ⊢
  simp only [hs]
  split at h
  · split at h
    · split at h
      · split at h
        all_goals grind
      · cases h
    · cases h
  · cases h

theorem popI_loc {ids : List Nat} {pm : List (Nat × List Nat)} {rs : List (Nat × Nat)} {ro : List Nat} {o : Oper} {f : Nat → PV} {v : PV} {H' : Heap} (hc : pcallee o.op f = none) (hk : chkI ids pm rs o f = true) (h : popI P ids rs o f H = some (v, H')) :
    Loc P ids rs (fpOf pm rs ro o) o f H v H' := by
  have st : ∀ {K K' : Heap}, popI P ids rs o f K = some (v, K') → StI P ids rs o f K v K' := fun {K K'} hp => by unfold StI; rw [hc]; exact hp
  unfold chkI at hk
  cases hr : resI rs o with
  | some p =>
    have hfp : fpOf pm rs ro o = ⟨[], [], [p], [p]⟩ := by unfold fpOf; rw [hr]
    unfold popI at h
    rw [hr] at h
    dsimp only at h
    split at h
    · rename_i r hrp
      split at h
      · rename_i b mk hb
        split at h
        · rename_i k hkr
          split at h
          · rename_i hq
            simp only [Option.some.injEq, Prod.mk.injEq] at h
            obtain ⟨rfl, rfl⟩ := h
            have hin : r ∈ atP ids [p] := List.mem_filterMap.2 ⟨p, by simp, hrp⟩
            refine Loc.set hkr (by rw [hfp]; exact hin) (.inr (by rw [hfp]; exact hin)) fun K hK => st ?_
            unfold popI
            rw [hr]
            simp only [hrp, hb, hK.inn r (.inr (by rw [hfp]; exact hin)), hkr]
            simp_all
          · cases h
        · cases h
      · cases h
    · rename_i hrp
      simp only [Option.map_eq_some_iff, Prod.mk.injEq] at h
      obtain ⟨v', hv', rfl, rfl⟩ := h
      refine Loc.read fun K hK => st ?_
      simp_all [popI, Option.map_some]
  | none =>
    rw [hr] at hk
    have pI : ∀ K, popI P ids rs o f K = pop P o.op f K := fun K => by unfold popI; rw [hr]
    rw [pI] at h
    have st : ∀ {K K' : Heap}, pop P o.op f K = some (v, K') → StI P ids rs o f K v K' := fun {K K'} hp => st (by rw [pI]; exact hp)
    dsimp only at hk
    split at hk
    · rename_i hkind
      obtain ⟨rfl, _⟩ := pop_pure (kind_pure hkind) h H
      exact Loc.read fun K hK => st (pop_pure (kind_pure hkind) h K).2
    · rename_i hkind
      have hfp : fpOf pm rs ro o = ⟨[], opPos pm o.op, [], []⟩ := by unfold fpOf; rw [hr, hkind]; rfl
      obtain ⟨he, hl⟩ := kind_low (.inl hkind)
      obtain rfl := pop_noeff he h
      refine Loc.read fun K hK => st (pop_live (hl hkind) (fun i hi => ?_) h)
      rcases okO_ids hk i hi with h | h
      · unfold VEq; rw [hK.out i h]
      · exact hK.liv i (by rw [hfp]; exact h)
    · rename_i hkind
      have hfp : fpOf pm rs ro o = ⟨opPos pm o.op, [], [], []⟩ := by unfold fpOf; rw [hr, hkind]; rfl
      obtain ⟨he, _⟩ := kind_low (.inr hkind)
      obtain rfl := pop_noeff he h
      exact Loc.read fun K hK => st (pop_read he (fun i hi => hK.rd (by rw [hfp]) (okO_ids hk i hi)) h)
    · rename_i hkind
      have hfp : fpOf pm rs ro o = ⟨[], [], fstP pm o.op, []⟩ := by unfold fpOf; rw [hr, hkind]; rfl
      obtain ⟨t, x, y, ho⟩ := kind_store hkind
      rw [ho] at h hk hfp
      simp only [pop, Option.map_eq_some_iff, Prod.mk.injEq] at h
      obtain ⟨H1, h, rfl, rfl⟩ := h
      obtain ⟨id, k, b, q1, q2, q3, rfl, q5⟩ := pstore_loc h
      have hin : id ∈ atP ids (posO pm x) := inO_of hk q1
      refine Loc.set q2 (by rw [hfp]; exact hin) (.inl q3) fun K hK => st ?_
      rw [ho]
      simp only [pop, q5 K (hK.inn id (.inr (by rw [hfp]; exact hin))), Option.map_some]
    · rename_i hkind
      have hfp : fpOf pm rs ro o = ⟨opPos pm o.op, [], fstP pm o.op, fstP pm o.op⟩ := by unfold fpOf; rw [hr, hkind]; rfl
      obtain ⟨args, ts, ho⟩ := kind_append hkind
      have hops : o.op.operands.toList = args.toList := by rw [ho]; simp [Op.operands, Call.operands]
      have hf1 : fstO o.op = args.toList[0]? := by rw [ho]; rfl
      split at hk
      · rename_i x hx
        simp only [Bool.or_eq_true, Bool.and_eq_true] at hk
        rcases hk with hk | hk
        rotate_left
        · unfold nilApp at hk
          rw [ho] at h hk
          dsimp only at hk
          split at hk
          · rename_i xs len full ys g hal
            have e1 : ∀ K, pop P (.call { callee := .builtin .append, args := args, argTypes := ts }) f K = pbuiltin P K .append ts.toList [.slice xs len full, .slice ys 0 g] := fun K => by simp only [pop, hal]
            rw [e1] at h
            match htl : ts.toList, h with
            | [t, tx], h =>
              simp only [pbuiltin] at h
              obtain ⟨rfl, hK⟩ := pappend_nil h
              refine Loc.read fun K _ => st ?_
              rw [ho, e1, htl]
              exact hK K
            | [], h => simp [pbuiltin] at h
            | [_], h => simp [pbuiltin] at h
            | _ :: _ :: _ :: _, h => simp [pbuiltin] at h
          · cases hk
        obtain ⟨⟨k1, k2⟩, k3⟩ := hk
        have hfs : fstP pm o.op = posO pm x := by unfold fstP; rw [hx]
        rw [hf1] at hx
        rw [ho] at h
        simp only [pop] at h
        match hal : args.toList, htl : ts.toList, hx, h with
        | [x', y], [t, tx], hx, h =>
          simp only [List.getElem?_cons_zero, Option.some.injEq] at hx
          subst hx
          simp only [List.map_cons, List.map_nil, pbuiltin] at h
          obtain ⟨id, hid⟩ : ∃ id, topId (ev f x') = [id] := by
            cases hv : ev f x' <;> rw [hv] at k2 <;> simp [isMsl] at k2
            exact ⟨_, rfl⟩
          have hin : id ∈ atP ids (posO pm x') := inO_of k1 hid
          obtain ⟨k, b, q2, rfl, q5⟩ := pappend_loc k2 hid h
          refine Loc.set q2 (by rw [hfp]; dsimp only; rw [hfs]; exact hin) (.inr (by rw [hfp]; dsimp only; rw [hfs]; exact hin)) fun K hK => st ?_
          rw [ho]
          simp only [pop, hal, htl, List.map_cons, List.map_nil, pbuiltin]
          exact q5 K (hK.inn id (.inr (by rw [hfp]; dsimp only; rw [hfs]; exact hin))) fun i hi => hK.rd (by rw [hfp]) (okO_of k3 y (by rw [hops, hal]; simp) i hi)
        | [], _, hx, h => simp at hx
        | [_], _, hx, h => simp [pbuiltin] at h
        | _ :: _ :: _ :: _, _, hx, h => simp [pbuiltin] at h
        | [_, _], [], hx, h => simp [pbuiltin] at h
        | [_, _], [_], hx, h => simp [pbuiltin] at h
        | [_, _], _ :: _ :: _ :: _, hx, h => simp [pbuiltin] at h
      · cases hk
    · rename_i hkind
      have hfp : fpOf pm rs ro o = ⟨opPos pm o.op, [], fstP pm o.op, []⟩ := by unfold fpOf; rw [hr, hkind]; rfl
      obtain ⟨args, ts, ho⟩ := kind_copy hkind
      have hops : o.op.operands.toList = args.toList := by rw [ho]; simp [Op.operands, Call.operands]
      have hf1 : fstO o.op = args.toList[0]? := by rw [ho]; rfl
      split at hk
      · rename_i x hx
        simp only [Bool.and_eq_true] at hk
        obtain ⟨k1, k3⟩ := hk
        have hfs : fstP pm o.op = posO pm x := by unfold fstP; rw [hx]
        rw [hf1] at hx
        rw [ho] at h
        simp only [pop] at h
        match hal : args.toList, htl : ts.toList, hx, h with
        | [x', y], [t, tx], hx, h =>
          simp only [List.getElem?_cons_zero, Option.some.injEq] at hx
          subst hx
          simp only [List.map_cons, List.map_nil, pbuiltin] at h
          obtain ⟨id, hid⟩ : ∃ id, topId (ev f x') = [id] := by
            grind [inO]
          have hin : id ∈ atP ids (posO pm x') := inO_of k1 hid
          obtain ⟨k, b, q2, q3, rfl, q5⟩ := pcopy_loc hid h
          refine Loc.set q2 (by rw [hfp]; dsimp only; rw [hfs]; exact hin) (.inl q3) fun K hK => st ?_
          rw [ho]
          simp only [pop, hal, htl, List.map_cons, List.map_nil, pbuiltin]
          exact q5 K (hK.inn id (.inr (by rw [hfp]; dsimp only; rw [hfs]; exact hin))) fun i hi => hK.rd (by rw [hfp]) (okO_of k3 y (by rw [hops, hal]; simp) i hi)
        | [], _, hx, h => simp at hx
        | [_], _, hx, h => simp [pbuiltin] at h
        | _ :: _ :: _ :: _, _, hx, h => simp [pbuiltin] at h
        | [_, _], [], hx, h => simp [pbuiltin] at h
        | [_, _], [_], hx, h => simp [pbuiltin] at h
        | [_, _], _ :: _ :: _ :: _, hx, h => simp [pbuiltin] at h
      · cases hk
    · rename_i hkind
      have hfp : fpOf pm rs ro o = ⟨opPos pm o.op, [], fstP pm o.op, []⟩ := by unfold fpOf; rw [hr, hkind]; rfl
      obtain ⟨t, m, kk, x, ho⟩ := kind_map hkind
      have hp2 : ∀ K, pop P o.op f K = (pmset P K t (ev f m) (ev f kk) (ev f x)).map fun H' => (.tup [], H') := fun K => by rcases ho with ho | ho <;> rw [ho] <;> rfl
      have hf1 : fstO o.op = some m := by rcases ho with ho | ho <;> rw [ho] <;> rfl
      have hfs : fstP pm o.op = posO pm m := by unfold fstP; rw [hf1]
      rw [hf1] at hk
      simp only [Bool.and_eq_true] at hk
      obtain ⟨k1, k3⟩ := hk
      rw [hp2] at h
      simp only [Option.map_eq_some_iff, Prod.mk.injEq] at h
      obtain ⟨H1, h, rfl, rfl⟩ := h
      obtain ⟨id, k, b, q1, q2, q3, rfl, q5⟩ := pmset_loc h
      have hin : id ∈ atP ids (posO pm m) := inO_of k1 q1
      refine Loc.set q2 (by rw [hfp]; dsimp only; rw [hfs]; exact hin) (.inl q3) fun K hK => st ?_
      rw [hp2, q5 K (hK.inn id (.inr (by rw [hfp]; dsimp only; rw [hfs]; exact hin)))]
      rfl
    · cases hk

/-! ### the evaluation of such a region; 'dr': its order is drawn -/
def stpI (P : Program) (dr : Bool) (ids : List Nat) (pm : List (Nat × List Nat)) (rs : List (Nat × Nat)) (ds : List (Option Nat)) (o : Oper) (F : Fr) (H : Heap) : Option (Fr × Heap) :=
  match asked ds F o with
  | none => none
  | some b => cond b (match !dr || chkI ids pm rs o (slot F) with
    | true => (match popI P ids rs o (slot F) H with | some (v, H') => some (put F o.dst v, H') | none => none)
    | false => none) (some (put F o.dst (.tup []), H))
def VCj (P : Program) (dr : Bool) (ids : List Nat) (fp : Fp) (rs : List (Nat × Nat)) (o : Oper) (F : Fr) (H : Heap) (K : Fr → Heap → Prop) : Prop :=
  match pcallee o.op (slot F) with
  | some (g, args) => ∃ v H', (match dr with | true => Loc P ids rs fp o (slot F) H v H' | false => CallOk P g args H v H') ∧ K (put F o.dst v) H'
  | none => False
def VCi (P : Program) (dr : Bool) (ids : List Nat) (fp : Fp) (rs : List (Nat × Nat)) (ds : List (Option Nat)) (o : Oper) (F : Fr) (H : Heap) (K : Fr → Heap → Prop) : Prop :=
  match asked ds F o with
  | none => False
  | some b => (b = true → VCj P dr ids fp rs o F H K) ∧ (b = false → K (put F o.dst (.tup [])) H)
def VOi (P : Program) (dr : Bool) (ids : List Nat) (pm : List (Nat × List Nat)) (rs : List (Nat × Nat)) (ro : List Nat) (ds : List (Option Nat)) : List Oper → Option (Fr × Heap) → (Fr → Heap → Prop) → Prop
  | _, none, _ => False
  | [], some (F, H), K => K F H
  | o :: r, some (F, H), K => match isCall o.op with
    | false => VOi P dr ids pm rs ro ds r (stpI P dr ids pm rs ds o F H) K
    | true => VCi P dr ids (fpOf pm rs ro o) rs ds o F H fun F' H' => VOi P dr ids pm rs ro ds r (some (F', H')) K
def VRi (P : Program) (dr : Bool) (ids : List Nat) (pm : List (Nat × List Nat)) (rs : List (Nat × Nat)) (ro : List Nat) (ds : List (Option Nat)) (r : List Oper) (K : Fr → Heap → Prop) (F : Fr) (H : Heap) : Prop := VOi P dr ids pm rs ro ds r (some (F, H)) K
theorem VOi_nil (dr : Bool) (ids : List Nat) (pm : List (Nat × List Nat)) (rs : List (Nat × Nat)) (ro : List Nat) (ds : List (Option Nat)) (K : Fr → Heap → Prop) (F : Fr) (H : Heap) : VOi P dr ids pm rs ro ds [] (some (F, H)) K = K F H := rfl
theorem VOi_none (dr : Bool) (ids : List Nat) (pm : List (Nat × List Nat)) (rs : List (Nat × Nat)) (ro : List Nat) (ds : List (Option Nat)) (l : List Oper) (K : Fr → Heap → Prop) : VOi P dr ids pm rs ro ds l none K = False := by cases l <;> rfl
theorem VOi_step (dr : Bool) (ids : List Nat) (pm : List (Nat × List Nat)) (rs : List (Nat × Nat)) (ro : List Nat) (ds : List (Option Nat)) (o : Oper) (r : List Oper) (K : Fr → Heap → Prop) (F : Fr) (H : Heap) :
    VOi P dr ids pm rs ro ds (o :: r) (some (F, H)) K = match isCall o.op with | false => VOi P dr ids pm rs ro ds r (stpI P dr ids pm rs ds o F H) K | true => VCi P dr ids (fpOf pm rs ro o) rs ds o F H (VRi P dr ids pm rs ro ds r K) := by
  cases h : isCall o.op with
  | false => simp only [VOi, h]
  | true => simp only [VOi, h]; rfl
theorem VOi_cond {dr : Bool} {ids : List Nat} {pm : List (Nat × List Nat)} {rs : List (Nat × Nat)} {ro : List Nat} {ds : List (Option Nat)} {l : List Oper} {K : Fr → Heap → Prop} {x : Bool} {A B : Option (Fr × Heap)} (h1 : x = true → VOi P dr ids pm rs ro ds l A K) (h2 : x = false → VOi P dr ids pm rs ro ds l B K) : VOi P dr ids pm rs ro ds l (cond x A B) K := by
  grind

/-- A call that writes nothing and reads nothing of what is written. -/
theorem VCj.read {dr : Bool} {ids : List Nat} {fp : Fp} {rs : List (Nat × Nat)} {o : Oper} {K : Fr → Heap → Prop} {g : FuncId} {args : List PV} {v : PV} (h : ∀ L, Agr ids fp H L → CallOk P g args L v L) (hc : pcallee o.op (slot F) = some (g, args)) (hk : K (put F o.dst v) H) : VCj P dr ids fp rs o F H K := by
  unfold VCj
  simp only [hc]
  refine ⟨v, H, ?_, hk⟩
  cases dr with
  | false => exact h H (.refl _ _ _)
  | true => exact Loc.read fun L hL => by unfold StI; rw [hc]; exact h L hL
/-- A call that writes one block. -/
theorem VCj.wr1 {dr : Bool} {ids : List Nat} {fp : Fp} {rs : List (Nat × Nat)} {o : Oper} {K : Fr → Heap → Prop} {g : FuncId} {args : List PV} {v : PV} {id : Nat} {k b : Blk} (hkk : H[id]? = some k) (h : ∀ L : Heap, L[id]? = some k → Agr ids fp H L → CallOk P g args L v (L.set id b)) (hw : (atP ids fp.w).elem id = true) (hv : b.ver = k.ver ∨ (atP ids fp.v).elem id = true)
    (hc : pcallee o.op (slot F) = some (g, args)) (hk : K (put F o.dst v) (H.set id b)) : VCj P dr ids fp rs o F H K := by
  unfold VCj
  simp only [hc]
  refine ⟨v, H.set id b, ?_, hk⟩
  have hw' : id ∈ atP ids fp.w := by simp_all
  cases dr with
  | false => exact h H hkk (.refl _ _ _)
  | true => exact Loc.set hkk hw' (by rcases hv with h | h; exact .inl h; exact .inr (by simpa [List.elem_eq_mem] using h)) fun L hL => by unfold StI; rw [hc]; exact h L ((hL.inn id (.inr hw')).trans hkk) hL

theorem asked_call {op : Op} (h : isCall op = false) (f : Nat → PV) : pcallee op f = none := by
  unfold pcallee
  split
  · simp [isCall] at h
  · rfl
theorem VOi_run {all : List Oper} {ids : List Nat} {pm : List (Nat × List Nat)} {rs : List (Nat × Nat)} {ro : List Nat} {K : Fr → Heap → Prop} : ∀ (l : List Oper) (F : Fr) (H : Heap), VOi P true ids pm rs ro (all.map (·.dst)) l (some (F, H)) K → RunG (ExI P all ids pm rs ro) l (slot F) H (fun f H' => ∃ F', f = slot F' ∧ K F' H')
  | [], F, H, h => ⟨F, rfl, h⟩
  | o :: r, F, H, h => by
    simp only [VOi] at h
    have go : ∀ v H', ExI P all ids pm rs ro o (slot F) H v H' → VOi P true ids pm rs ro (all.map (·.dst)) r (some (put F o.dst v, H')) K → RunG (ExI P all ids pm rs ro) (o :: r) (slot F) H (fun f H' => ∃ F', f = slot F' ∧ K F' H') := fun v H' he hr => by
      refine ⟨v, H', he, ?_⟩
      rw [← get_put]
      exact VOi_run r _ _ hr
    cases hc : isCall o.op with
    | false =>
      simp only [hc] at h
      unfold stpI at h
      split at h
      · rw [VOi_none] at h; exact h.elim
      · rename_i b hb
        cases b with
        | false => exact go _ _ (.inl ⟨asked_want all F o hb, rfl, rfl⟩) h
        | true =>
          simp only [cond_true, Bool.not_true, Bool.false_or] at h
          split at h
          · rename_i hk
            split at h
            · rename_i v H' hp
              exact go v H' (.inr ⟨asked_want all F o hb, popI_loc (asked_call hc _) hk hp⟩) h
            simp_all [VOi_none]
          simp_all [VOi_none]
    | true =>
      simp only [hc] at h
      unfold VCi at h
      split at h
      · exact h.elim
      · rename_i b hb
        cases b with
        | false => exact go _ _ (.inl ⟨asked_want all F o hb, rfl, rfl⟩) (h.2 rfl)
        | true =>
          have h := h.1 rfl
          unfold VCj at h
          split at h
          · rename_i fn args hp
            obtain ⟨v, H', h1, h2⟩ := h
            exact go v H' (.inr ⟨asked_want all F o hb, h1⟩) h2
          simp_all
/-- ████ A region in any order, with footprints. ████ -/
theorem PW.drawi {E : Env} {Q : Exit → Fr → Heap → Prop} {id : Nat} {ops : Array Oper} (ids : List Nat) (pm : List (Nat × List Nat)) (rs : List (Nat × Nat)) (ro : List Nat) (hm : P.follows .mixedOrders = true) (hd : drawGs (compatI (ops.toList.map (·.dst)) pm rs ro) E.N ops.toList = true) (hnd : ids.Nodup)
    (h : ∀ K : Fr → Heap → Prop, (∀ F' H', Q .normal F' H' → K F' H') → VOi P true ids pm rs ro (ops.toList.map (·.dst)) ops.toList (some (F, H)) K) : PW P E (.region id ops true) F H Q := fun hs C a w hdf hw hf => by
  refine wp_region_any hm ?_
  have hr := VOi_run (P := P) _ _ _ (h (fun F' H' => Q .normal F' H') fun _ _ h => h)
  have hall : ∀ i, i < ops.toList.length → drawG (compatI (ops.toList.map (·.dst)) pm rs ro) (masks ops.toList) E.N ops.toList i = true := by
    simp_all [drawGs, List.all_eq_true.1, List.mem_range.2]
  refine any_gen (P := P) hall (swapI hnd) stepI ops.size (Array.replicate ops.size false) (slot F) H C a w.drew (by simp) ?_ (by rw [left_all]; simp) (by rw [left_all, all_ops]; exact hr) hdf hw.drew hf ?_
  · intro i o ho hl j hj
    have hi : i < ops.size := (Array.getElem?_eq_some_iff.1 ho).1
    simp [Array.getD, hi] at hl
  · rintro C' f' H' a' w' p1 p2 p3 p4 p5 ⟨F', rfl, p6⟩
    exact ⟨C', F', H', p1.toN _, p2, p3, ((Below.refl C.B w).drew).trans p4, p5, p6⟩

/-! ### in the order of the text, with reserved places -/
theorem seqI {all : List Oper} {ids : List Nat} {pm : List (Nat × List Nat)} {rs : List (Nat × Nat)} {ro : List Nat} {K : Fr → Heap → Prop} : ∀ (l : List Oper) (F : Fr) (H : Heap), l.all (dstOk N) = true → VOi P false ids pm rs ro (all.map (·.dst)) l (some (F, H)) K → ∀ (C : Ctx) (a : Act) (w : World), a.defers = [] → WRel C H w → FRel C N (slot F) a →
    ∀ Q : Exit → Act → World → Prop, (∀ C' F' H' a' w', CLe C C' → a'.defers = [] → WRel C' H' w' → Below C.B w w' → FRel C' N (slot F') a' → K F' H' → Q .normal a' w') → wpList P all.toArray Q l a w
  | [], F, H, _, h, C, a, w, hd, hw, hf, Q, hQ => hQ C F H a w (.refl _) hd hw (.refl _ _) hf h
  | o :: r, F, H, hall, h, C, a, w, hd, hw, hf, Q, hQ => by
    simp only [List.all_cons, Bool.and_eq_true] at hall
    simp only [VOi] at h
    have go : ∀ v H', asked (all.map (·.dst)) F o = some true → StI P ids rs o (slot F) H v H' → VOi P false ids pm rs ro (all.map (·.dst)) r (some (put F o.dst v, H')) K → wpList P all.toArray Q (o :: r) a w := fun v H' hb hst hr => by
      have hwant := want_sound hf (asked_want all F o hb)
      unfold wpList
      rw [if_pos hwant]
      left
      refine stI_sound hall.1 hw hf hst _ _ fun C' u w' q1 q2 q3 q4 => ?_
      rw [← get_put] at q4
      refine seqI r _ _ hall.2 hr C' _ w' (by cases ho : o.dst <;> simp [Act.put, hd]) q2 q4 Q ?_
      intro C'' F'' H'' a'' w'' p1 p2 p3 p4 p5 p6
      exact hQ C'' F'' H'' a'' w'' (q1.trans p1) p2 p3 (q3.trans (by rw [← q1.B]; exact p4)) p5 p6
    have no : asked (all.map (·.dst)) F o = some false → VOi P false ids pm rs ro (all.map (·.dst)) r (some (put F o.dst (.tup []), H)) K → wpList P all.toArray Q (o :: r) a w := fun hb hr => by
      have hwant := want_sound hf (asked_want all F o hb)
      unfold wpList
      rw [if_neg (by rw [hwant]; simp)]
      have q4 := hf.put o.dst (dstOk_of hall.1) (VRel.undefV (C := C))
      rw [← get_put] at q4
      exact seqI r _ _ hall.2 hr C _ w (by cases ho : o.dst <;> simp [Act.put, hd]) hw q4 Q hQ
    cases hc : isCall o.op with
    | false =>
      simp only [hc] at h
      unfold stpI at h
      split at h
      · rw [VOi_none] at h; exact h.elim
      · rename_i b hb
        cases b with
        | false => exact no hb h
        | true =>
          simp only [cond_true, Bool.not_false, Bool.true_or] at h
          grind [StI, asked_call, VOi_none]
    | true =>
      simp only [hc] at h
      unfold VCi at h
      split at h
      · exact h.elim
      · rename_i b hb
        cases b with
        | false => exact no hb (h.2 rfl)
        | true =>
          grind [VCj, StI]
theorem PW.seqi {E : Env} {Q : Exit → Fr → Heap → Prop} {id : Nat} {ops : Array Oper} (ids : List Nat) (rs : List (Nat × Nat)) (hd : ops.toList.all (dstOk E.N) = true)
    (h : ∀ K : Fr → Heap → Prop, (∀ F' H', Q .normal F' H' → K F' H') → VOi P false ids [] rs [] (ops.toList.map (·.dst)) ops.toList (some (F, H)) K) : PW P E (.region id ops false) F H Q := fun hs C a w hdf hw hf => by
  refine wp_region_list ?_
  have := seqI (P := P) (all := ops.toList) ops.toList F H hd (h (fun F' H' => Q .normal F' H') fun _ _ h => h) C a w hdf hw hf (Post E C w Q) (fun C' F' H' a' w' p1 p2 p3 p4 p5 p6 => ⟨C', F', H', p1.toN _, p2, p3, p4, p5, p6⟩)
  simpa using this

end Go.Proofs.YtbhdollgohgkgaaGreatDoor.Pm

namespace Go.Proofs.YtbhdollgohgkgaaGreatDoor.Pm
set_option linter.all false
set_option linter.unusedVariables false
set_option linter.unusedSimpArgs false
open Go.RowKit

attribute [go_sem] VOi_nil VOi_step VRi VCi stpI chkI popI resI grows pnew pnew0 kindI fstO fstP nilApp okO inO isMsl posOf posO opPos atP fpOf dis Call.operands List.filterMap_cons_some List.filterMap_nil List.filterMap_cons Array.toList_append

end Go.Proofs.YtbhdollgohgkgaaGreatDoor.Pm
