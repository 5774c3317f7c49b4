/-
  Parts of the proof. No condition.
-/
import Derived.Test.YtbhdollgohgkgaaGreatDoorA05
import Derived.Test.YtbhdollgohgkgaaGreatDoorProg
import Derived.KernelRfl
namespace Go.Proofs.YtbhdollgohgkgaaGreatDoor.Pm
set_option linter.all false
set_option linter.unusedVariables false
set_option linter.unusedSimpArgs false
open Go.RowKit

variable {P : Program} {C : Ctx} {H : Heap} {w : World} {F : Fr} {a : Act} {N : Nat}

/-! ### any order, over any step relation -/
def RunG (E : Oper → (Nat → PV) → Heap → PV → Heap → Prop) : List Oper → (Nat → PV) → Heap → ((Nat → PV) → Heap → Prop) → Prop
  | [], f, H, K => K f H
  | o :: r, f, H, K => ∃ v H', E o f H v H' ∧ RunG E r (upd f o.dst v) H' K
def SwapG (E : Oper → (Nat → PV) → Heap → PV → Heap → Prop) (cmp : Oper → Oper → Bool) : Prop :=
  ∀ (x o : Oper) (f : Nat → PV) (H : Heap) (vx : PV) (Hx : Heap) (v : PV) (H1 : Heap), cmp x o = true → E x f H vx Hx → E o (upd f x.dst vx) Hx v H1 → ∃ H3, E o f H v H3 ∧ E x (upd f o.dst v) H3 vx H1 ∧ upd (upd f x.dst vx) o.dst v = upd (upd f o.dst v) x.dst vx
def StepG (P : Program) (N : Nat) (ops : Array Oper) (E : Oper → (Nat → PV) → Heap → PV → Heap → Prop) : Prop :=
  ∀ (o : Oper) (f : Nat → PV) (H : Heap) (v : PV) (H' : Heap) (C : Ctx) (a : Act) (w : World), dstOk N o = true → WRel C H w → FRel C N f a → E o f H v H' →
    (Region.wanted o (yielded ops a.tmps) = false ∧ v = .tup [] ∧ H' = H) ∨
    (Region.wanted o (yielded ops a.tmps) = true ∧ ∀ (next : Act → World → Prop) (Q : Exit → Act → World → Prop), (∀ C' u w', CLe C C' → WRel C' H' w' → Below C.B w w' → FRel C' N (upd f o.dst v) (a.put o.dst u) → next (a.put o.dst u) w') → o.wp P a w next Q)
theorem RunG.front {E : Oper → (Nat → PV) → Heap → PV → Heap → Prop} {cmp : Oper → Oper → Bool} {K : (Nat → PV) → Heap → Prop} {o : Oper} {l2 : List Oper} (hs : SwapG E cmp) : ∀ (l1 : List Oper) (f : Nat → PV) (H : Heap), RunG E (l1 ++ o :: l2) f H K → (∀ x ∈ l1, cmp x o = true) →
    ∃ v H1, E o f H v H1 ∧ RunG E (l1 ++ l2) (upd f o.dst v) H1 K
  | [], f, H, h, _ => h
  | x :: l1, f, H, h, hc => by
    obtain ⟨vx, Hx, hx, hr⟩ := h
    obtain ⟨v, H1, ho, hr2⟩ := RunG.front hs l1 _ _ hr (fun y hy => hc y (List.mem_cons_of_mem _ hy))
    obtain ⟨H3, g1, g2, g3⟩ := hs x o f H vx Hx v H1 (hc x (List.mem_cons_self ..)) hx ho
    exact ⟨v, H3, g1, vx, H1, g2, g3 ▸ hr2⟩
def drawG (cmp : Oper → Oper → Bool) (ms : List Nat) (N : Nat) (ops : List Oper) (i : Nat) : Bool := match ops[i]? with
  | none => false
  | some o => dstOk N o && (bnd o).all (fun j => Nat.blt j i) && (Nat.beq (ms.getD i 0) (maskStep ms o)) && (List.range i).all fun j => (ms.getD i 0).testBit j || (match ops[j]? with | some x => cmp x o | none => false)
def drawGs (cmp : Oper → Oper → Bool) (N : Nat) (ops : List Oper) : Bool := (List.range ops.length).all (drawG cmp (masks ops) N ops)

theorem drawG_of {cmp : Oper → Oper → Bool} {ms : List Nat} {ops : List Oper} {i : Nat} {o : Oper} (ho : ops[i]? = some o) (h : drawG cmp ms N ops i = true) :
    dstOk N o = true ∧ (∀ j ∈ bnd o, j < i) ∧ ms.getD i 0 = maskStep ms o ∧ ∀ j, j < i → (ms.getD i 0).testBit j = true ∨ ∃ x, ops[j]? = some x ∧ cmp x o = true := by
  unfold drawG at h
  simp only [ho, Bool.and_eq_true, List.all_eq_true, List.mem_range, Bool.or_eq_true] at h
  obtain ⟨⟨⟨h1, h2⟩, h3⟩, h4⟩ := h
  refine ⟨h1, fun j hj => by simpa [Nat.blt_eq] using h2 j hj, Nat.eq_of_beq_eq_true h3, fun j hj => ?_⟩
  rcases h4 j hj with h | h
  · exact .inl h
  · split at h
    · rename_i x hx; exact .inr ⟨x, hx, h⟩
    · cases h

theorem maskG_in {cmp : Oper → Oper → Bool} {ms : List Nat} {ops : List Oper} (hall : ∀ i, i < ops.length → drawG cmp ms N ops i = true) {S : Nat → Prop} (down : ∀ i o, ops[i]? = some o → S i → ∀ j ∈ bnd o, S j) :
    ∀ (i : Nat) (o : Oper), ops[i]? = some o → (∀ j ∈ bnd o, S j) → ∀ j, (ms.getD i 0).testBit j = true → S j := by
  intro i
  induction i using Nat.strongRecOn with
  | _ i ih =>
    intro o ho hp j hj
    have hi := (List.getElem?_eq_some_iff.1 ho).1
    obtain ⟨_, h2, h3, _⟩ := drawG_of ho (hall i hi)
    rw [h3, maskStep] at hj
    rcases fold_bits ms j _ _ hj with h | ⟨k, hk, h⟩
    all_goals grind

theorem any_gen {cmp : Oper → Oper → Bool} {E : Oper → (Nat → PV) → Heap → PV → Heap → Prop} {ops : Array Oper} {Q : Exit → Act → World → Prop} {K : (Nat → PV) → Heap → Prop} (hall : ∀ i, i < ops.toList.length → drawG cmp (masks ops.toList) N ops.toList i = true)
    (hswap : SwapG E cmp) (hstep : StepG P N ops E) :
    ∀ (fuel : Nat) (listed : Array Bool) (f : Nat → PV) (H : Heap) (C : Ctx) (a : Act) (w : World), listed.size = ops.size → (∀ i o, ops[i]? = some o → listed.getD i true = true → ∀ j ∈ bnd o, listed.getD j true = true) →
      fuel = (left ops.size listed).length → RunG E ((left ops.size listed).filterMap fun i => ops[i]?) f H K → a.defers = [] → WRel C H w → FRel C N f a →
      (∀ C' f' H' a' w', CLe C C' → a'.defers = [] → WRel C' H' w' → Below C.B w w' → FRel C' N f' a' → K f' H' → Q .normal a' w') → wpAny P .any ops Q fuel listed a w := by
  have rdy : ∀ (listed : Array Bool) (i : Nat), i ∈ Region.ready .any ops listed ↔ i ∈ left ops.size listed ∧ ∃ o, ops[i]? = some o ∧ ∀ e ∈ o.after.toList, Region.binds .any e = true → listed.getD e.on false = true := by
    intro listed i
    unfold Region.ready
    rw [List.mem_filter, mem_left, List.mem_range]
    constructor
    · rintro ⟨h1, h2⟩
      simp only [Bool.and_eq_true, Bool.not_eq_true'] at h2
      grind [Array.getElem?_eq_getElem, Array.all_eq_true_iff_forall_mem, Array.mem_toList_iff.1]
    grind
  intro fuel
  induction fuel with
  | zero =>
    intro listed f H C a w hsz hdown hfu hr hd hw hf hQ
    have hnil : left ops.size listed = [] := List.eq_nil_of_length_eq_zero hfu.symm
    refine ⟨List.eq_nil_iff_forall_not_mem.2 fun i hi => ?_, ?_⟩
    · simp_all
    · rw [hnil] at hr
      exact hQ C f H a w (.refl _) hd hw (.refl _ _) hf hr
  | succ fuel ih =>
    intro listed f H C a w hsz hdown hfu hr hd hw hf hQ
    refine ⟨fun hnone => ?_, fun i hi => ?_⟩
    · exfalso
      obtain ⟨i, r, hl⟩ := List.exists_cons_of_length_eq_add_one hfu.symm
      have hmem : i ∈ left ops.size listed := by grind
      have hil := (mem_left.1 hmem).1
      have hs := left_sorted ops.size listed
      rw [hl, List.pairwise_cons] at hs
      have : i ∈ Region.ready .any ops listed := by
        refine (rdy listed i).2 ⟨hmem, ops[i], Array.getElem?_eq_getElem hil, fun e he hb => ?_⟩
        have hlt := (drawG_of (by simpa using Array.getElem?_eq_getElem hil) (hall i (by simpa using hil))).2.1 e.on (List.mem_map.2 ⟨e, List.mem_filter.2 ⟨he, hb⟩, rfl⟩)
        have hnm : e.on ∉ left ops.size listed := by
          grind
        have h1 : listed.getD e.on true = true := by
          cases hg : listed.getD e.on true with
          | true => rfl
          | false => exact absurd (mem_left.2 ⟨by omega, hg⟩) hnm
        grind
      grind
    · obtain ⟨hmem, o, ho, hpre⟩ := (rdy listed i).1 hi
      have hil := (mem_left.1 hmem).1
      have hoL : ops.toList[i]? = some o := by grind
      obtain ⟨d1, d2, d3, d4⟩ := drawG_of hoL (hall i (by simpa using hil))
      obtain ⟨l1, l2, hl⟩ := List.append_of_mem hmem
      have hs := left_sorted ops.size listed
      rw [hl, List.pairwise_append, List.pairwise_cons] at hs
      have hsz' : i < listed.size := by omega
      have getFT : ∀ j, listed.getD j false = true → listed.getD j true = true := fun j hj => by
        grind
      have hpre' : ∀ j ∈ bnd o, listed.getD j true = true := fun j hj => by
        obtain ⟨e, he, rfl⟩ := List.mem_map.1 hj
        grind
      rw [hl, List.filterMap_append, List.filterMap_cons_some ho] at hr
      have hcomp : ∀ x ∈ l1.filterMap (fun i => ops[i]?), cmp x o = true := by
        intro x hx
        obtain ⟨j, hj, hjx⟩ := List.mem_filterMap.1 hx
        have hji : j < i := hs.2.2 j hj i (List.mem_cons_self ..)
        rcases d4 j hji with h | ⟨x', hx', hc⟩
        · have hS := maskG_in (N := N) hall (S := fun j => listed.getD j true = true) (fun i o ho hS => hdown i o (by simpa using ho) hS) i o hoL hpre' j h
          have hjm : j ∈ left ops.size listed := by grind
          rw [(mem_left.1 hjm).2] at hS
          cases hS
        grind
      obtain ⟨v, H1, hex, hrun⟩ := RunG.front hswap _ _ _ hr hcomp
      rw [← List.filterMap_append, ← left_set hsz' hl] at hrun
      have hdown' : ∀ i' o', ops[i']? = some o' → (listed.setIfInBounds i true).getD i' true = true → ∀ j ∈ bnd o', (listed.setIfInBounds i true).getD j true = true := by
        intro i' o' ho' h j hj
        rw [getD_set _ _ _ hsz'] at h ⊢
        by_cases hi' : i' = i
        · grind
        · rw [if_neg hi'] at h
          split
          all_goals grind
      have hfu' : fuel = (left ops.size (listed.setIfInBounds i true)).length := by
        rw [left_set hsz' hl]
        grind
      have next : ∀ C' u w', CLe C C' → WRel C' H1 w' → Below C.B w w' → FRel C' N (upd f o.dst v) (a.put o.dst u) → wpAny P .any ops Q fuel (listed.setIfInBounds i true) (a.put o.dst u) w' := by
        intro C' u w' q1 q2 q3 q4
        refine ih _ _ _ C' _ w' (by simpa using hsz) hdown' hfu' hrun (by cases hod : o.dst <;> simp [Act.put, hd]) q2 q4 ?_
        intro C'' f'' H'' a'' w'' p1 p2 p3 p4 p5 p6
        exact hQ C'' f'' H'' a'' w'' (q1.trans p1) p2 p3 (q3.trans (by rw [← q1.B]; exact p4)) p5 p6
      unfold wpOp
      rw [ho]
      simp only
      rcases hstep o f H v H1 C a w d1 hw hf hex with ⟨h1, h2, h3⟩ | ⟨h1, h2⟩
      · rw [if_neg (by rw [h1]; simp)]
        subst h2 h3
        exact next C _ w (.refl _) hw (.refl _ _) (hf.put o.dst (dstOk_of d1) VRel.undefV)
      · rw [if_pos h1]
        left
        exact h2 _ _ next


/-! ### what an operation reads -/
def topId : PV → List Nat
  | .ptr id _ _ => [id]
  | .msl id _ _ _ _ _ => [id]
  | .mp id _ => [id]
  | _ => []
def opIds (op : Op) (f : Nat → PV) : List Nat := (op.operands.toList.map fun x => topId (ev f x)).flatten
theorem opIds_mem {op : Op} {f : Nat → PV} {x : Operand} {id : Nat} (hx : x ∈ op.operands.toList) (hi : id ∈ topId (ev f x)) : id ∈ opIds op f := List.mem_flatten.2 ⟨_, List.mem_map.2 ⟨x, hx, rfl⟩, hi⟩
/-- It looks at versions alone. -/
def liveOnly : Op → Bool
  | .nilCheck .. | .fieldAddr .. | .indexAddr .. | .slice .. | .binOp .. => true
  | .call { callee := .builtin .len, .. } => true
  | _ => false
variable {K : Heap}
def VEq (H K : Heap) (id : Nat) : Prop := (K[id]?).map Blk.ver = (H[id]?).map Blk.ver
theorem live_c {id : Nat} (h : VEq H K id) (ver : Nat) : live K id ver = live H id ver := by
  grind [VEq, live]
theorem pnil_c {x : PV} (h : ∀ id ∈ topId x, VEq H K id) : pnil K x = pnil H x := by
  cases x <;> simp only [pnil]
  grind [live_c, topId]
theorem pbin_c {op : BinOp} {t : TypeId} {x y : PV} (hx : ∀ id ∈ topId x, VEq H K id) (hy : ∀ id ∈ topId y, VEq H K id) : pbin P K op t x y = pbin P H op t x y := by
  unfold pbin
  grind [live_c, topId]
theorem pnilcmp_c {op : BinOp} {t : TypeId} {x : PV} (hx : ∀ id ∈ topId x, VEq H K id) : pnilcmp P K op t x = pnilcmp P H op t x := by
  unfold pnilcmp
  grind [live_c, topId]
theorem pslice_c {t : TypeId} {x : PV} {lo hi mx : Option PV} (hx : ∀ id ∈ topId x, VEq H K id) : pslice P K t x lo hi mx = pslice P H t x lo hi mx := by
  unfold pslice
  grind [live_c, topId]
theorem pfieldAddr_c {s : TypeId} {x : PV} {f : Nat} (hx : ∀ id ∈ topId x, VEq H K id) : pfieldAddr P K s x f = pfieldAddr P H s x f := by
  cases x <;> simp only [pfieldAddr]
  grind [live_c, topId]
theorem pindexAddr_c {t : TypeId} {x i : PV} (hx : ∀ id ∈ topId x, VEq H K id) : pindexAddr P K t x i = pindexAddr P H t x i := by
  unfold pindexAddr
  grind [live_c, topId]
theorem plen_c {t : TypeId} {x : PV} (hx : ∀ id ∈ topId x, VEq H K id) : plen P K t x = plen P H t x := by
  unfold plen
  grind [live_c, topId]
theorem scells_c {sz : Nat} {x : PV} (hx : ∀ id ∈ topId x, K[id]? = H[id]?) : scells K sz x = scells H sz x := by
  cases x <;> simp only [scells]
  simp_all [topId]
theorem pload_c {t : TypeId} {x : PV} (hx : ∀ id ∈ topId x, K[id]? = H[id]?) : pload P K t x = pload P H t x := by
  cases x <;> simp only [pload]
  simp_all [topId]
theorem pconv_c {s d : TypeId} {x : PV} (hx : ∀ id ∈ topId x, K[id]? = H[id]?) : pconv P K s d x = pconv P H s d x := by
  unfold pconv
  split <;> try rfl
  rw [scells_c hx]
theorem plook_c {t : TypeId} {m k : PV} {ok : Bool} (hx : ∀ id ∈ topId m, K[id]? = H[id]?) : plook P K t m k ok = plook P H t m k ok := by
  have : pmapOf P K t m = pmapOf P H t m := by
    unfold pmapOf
    grind [topId]
  unfold plook
  rw [this]
theorem mapc {x : Option PV} {v : PV} {H' : Heap} (h : (x.map fun v => (v, H)) = some (v, H')) : (x.map fun v => (v, K)) = some (v, K) := by
  grind [Option.map_eq_some_iff, Prod.mk.injEq]
theorem pop_live {f : Nat → PV} {op : Op} {v : PV} {H' : Heap} (h : liveOnly op = true) (hi : ∀ id ∈ opIds op f, VEq H K id) (hp : pop P op f H = some (v, H')) : pop P op f K = some (v, K) := by
  have ids : ∀ x ∈ op.operands.toList, ∀ id ∈ topId (ev f x), VEq H K id := fun x hx id hid => hi id (opIds_mem hx hid)
  cases op <;> try (simp [liveOnly] at h; done)
  case nilCheck x => simp only [pop] at hp ⊢; rw [pnil_c (ids x (by simp [Op.operands]))]; exact mapc hp
  case fieldAddr s x k => simp only [pop] at hp ⊢; rw [pfieldAddr_c (ids x (by simp [Op.operands]))]; exact mapc hp
  case indexAddr t x i => simp only [pop] at hp ⊢; rw [pindexAddr_c (ids x (by simp [Op.operands]))]; exact mapc hp
  case slice t x lo hi mx => simp only [pop] at hp ⊢; rw [pslice_c (ids x (by simp [Op.operands]))]; exact mapc hp
  case binOp op t x y z =>
    simp only [pop] at hp ⊢
    split at hp
    · rw [pnilcmp_c (ids x (by simp [Op.operands]))]; exact mapc hp
    split at hp
    · exact mapc hp
    · rw [pbin_c (ids x (by simp [Op.operands])) (ids y (by simp [Op.operands]))]; exact mapc hp
  case call c =>
    obtain ⟨callee, args, ts⟩ := c
    cases callee with
    | builtin b =>
      cases b <;> try (simp [liveOnly] at h; done)
      have key : ∀ (tl : List TypeId) (al : List PV), (∀ x ∈ al, ∀ id ∈ topId x, VEq H K id) → pbuiltin P H .len tl al = some (v, H') → pbuiltin P K .len tl al = some (v, K) := fun tl al hal hq => by
        match tl, al, hq with
        | [t], [x], hq =>
          simp only [pbuiltin] at hq ⊢
          rw [plen_c (hal x (by simp))]; exact mapc hq
        | [], _, hq => simp [pbuiltin] at hq
        | _ :: _ :: _, _, hq => simp [pbuiltin] at hq
        | [_], [], hq => simp [pbuiltin] at hq
        | [_], _ :: _ :: _, hq => simp [pbuiltin] at hq
      simp only [pop] at hp ⊢
      refine key _ _ (fun x hx id hid => ?_) hp
      obtain ⟨y, hy, rfl⟩ := List.mem_map.1 hx
      exact ids y (by simp [Op.operands, Call.operands]; exact Array.mem_toList_iff.1 hy) id hid
    | _ => simp [liveOnly] at h
theorem pop_read {f : Nat → PV} {op : Op} {v : PV} {H' : Heap} (h : eff op = false) (hi : ∀ id ∈ opIds op f, K[id]? = H[id]?) (hp : pop P op f H = some (v, H')) : pop P op f K = some (v, K) := by
  have ids : ∀ x ∈ op.operands.toList, ∀ id ∈ topId (ev f x), K[id]? = H[id]? := fun x hx id hid => hi id (opIds_mem hx hid)
  cases hl : liveOnly op with
  | true => exact pop_live hl (fun id hid => by unfold VEq; rw [hi id hid]) hp
  | false =>
  cases hpu : pureOp op with
  | true => exact (pop_pure hpu hp K).2
  | false =>
  cases op <;> try (simp [eff] at h; done)
  all_goals try (simp [liveOnly] at hl; done)
  all_goals try (simp [pureOp] at hpu; done)
  case load t x => simp only [pop] at hp ⊢; rw [pload_c (ids x (by simp [Op.operands]))]; exact mapc hp
  case convert s d x => simp only [pop] at hp ⊢; rw [pconv_c (ids x (by simp [Op.operands]))]; exact mapc hp
  case lookup t m k ok => simp only [pop] at hp ⊢; rw [plook_c (ids m (by simp [Op.operands]))]; exact mapc hp
  case makeFunc fn x y => cases fn <;> simp only [pop, Option.some.injEq, Prod.mk.injEq] at hp ⊢ <;> first | exact ⟨hp.1, trivial⟩ | cases hp
  case call c =>
    obtain ⟨callee, args, ts⟩ := c
    cases callee with
    | builtin b =>
      simp only [eff] at h
      simp only [pop] at hp ⊢
      unfold pbuiltin at hp ⊢
      split at hp
      · simp [liveOnly] at hl
      · simp [effB] at h
      · simp [effB] at h
      · exact mapc hp
      · exact mapc hp
      · cases hp
    | _ => simp only [pop] at hp; cases hp
  all_goals simp_all [pop]

/-! ### written blocks, reserved places -/
structure Ag (ws rs : List Nat) (H K : Heap) : Prop where
  len : K.length = H.length
  all : ∀ i, i ∉ ws → K[i]? = H[i]?
  ver : ∀ i, i ∉ rs → VEq H K i
theorem Ag.refl (ws rs : List Nat) (H : Heap) : Ag ws rs H H := ⟨rfl, fun _ _ => rfl, fun _ _ => rfl⟩
theorem Ag.symm {ws rs : List Nat} {H K : Heap} (h : Ag ws rs H K) : Ag ws rs K H := ⟨h.len.symm, fun i hi => (h.all i hi).symm, fun i hi => (h.ver i hi).symm⟩
theorem Ag.trans {ws rs : List Nat} {H K L : Heap} (h : Ag ws rs H K) (k : Ag ws rs K L) : Ag ws rs H L := ⟨k.len.trans h.len, fun i hi => (k.all i hi).trans (h.all i hi), fun i hi => Eq.trans (k.ver i hi) (h.ver i hi)⟩
theorem Ag.set {ws rs : List Nat} {H : Heap} {id : Nat} {k b : Blk} (hk : H[id]? = some k) (hw : id ∈ ws) (hv : b.ver = k.ver ∨ id ∈ rs) : Ag ws rs H (H.set id b) := by
  have hid : id < H.length := (List.getElem?_eq_some_iff.1 hk).1
  refine ⟨by simp, fun i hi => ?_, fun i hi => ?_⟩
  all_goals grind [List.getElem?_set_ne, VEq, List.getElem?_set_self]

def rsv (rs : List (Nat × Nat)) (d : Option Nat) : Option Nat := match d with
  | none => none
  | some d => match rs with
    | [] => none
    | (t, r) :: l => match Nat.beq t d with | true => some r | false => rsv l (some d)
/-- A new block in a reserved place. -/
def palloc (P : Program) (elem : TypeId) (r : Nat) (H : Heap) : Option (PV × Heap) := match zcells P elem, H[r]? with
  | some z, some k => if k.e = elem ∧ k.ver = 0 then some (.ptr r 1 0, H.set r ⟨elem, 1, z⟩) else none
  | _, _ => none
def resv (rs : List (Nat × Nat)) (o : Oper) : Option (TypeId × Nat) := match o.op with
  | .alloc elem => match rsv rs o.dst with | some r => some (elem, r) | none => none
  | _ => none
def popH (P : Program) (rs : List (Nat × Nat)) (o : Oper) (f : Nat → PV) (H : Heap) : Option (PV × Heap) := match resv rs o with
  | some (elem, r) => palloc P elem r H
  | none => pop P o.op f H
def isStore : Op → Bool
  | .store .. => true
  | _ => false
def stId (op : Op) (f : Nat → PV) : Option Nat := match op with
  | .store _ x _ => match ev f x with
    | .ptr id _ _ => some id
    | _ => none
  | _ => none
def notIn (ids ws : List Nat) : Bool := ids.all fun i => !(ws.elem i)
/-- Reads and writes are apart. -/
def chkH (ws : List Nat) (rs : List (Nat × Nat)) (o : Oper) (f : Nat → PV) : Bool := match resv rs o with
  | some (_, r) => ws.elem r && (rs.map (·.2)).elem r
  | none => match isStore o.op with
    | true => match stId o.op f with | some id => ws.elem id | none => false
    | false => match pureOp o.op || eff o.op with
      | true => true
      | false => match liveOnly o.op with
        | true => notIn (opIds o.op f) (rs.map (·.2))
        | false => notIn (opIds o.op f) ws
def ExH (P : Program) (all : List Oper) (ws : List Nat) (rs : List (Nat × Nat)) (o : Oper) (f : Nat → PV) (H : Heap) (v : PV) (H' : Heap) : Prop :=
  (want all f o = some false ∧ v = .tup [] ∧ H' = H) ∨
  (want all f o = some true ∧ match pcallee o.op f with
    | some (fn, args) => H' = H ∧ ∀ K, Ag ws (rs.map (·.2)) H K → CallOk P fn args K v K
    | none => popH P rs o f H = some (v, H') ∧ chkH ws rs o f = true)
def isWr (rs : List (Nat × Nat)) (o : Oper) : Bool := isStore o.op || (resv rs o).isSome
def isRd (rs : List (Nat × Nat)) (o : Oper) : Bool := !eff o.op && !(resv rs o).isSome
theorem resv_callee {rs : List (Nat × Nat)} {o : Oper} {f : Nat → PV} {er : TypeId × Nat} (h : resv rs o = some er) : pcallee o.op f = none := by
  unfold resv at h
  split at h
  · rename_i elem ho; rw [ho]; rfl
  · cases h
theorem store_callee {op : Op} {f : Nat → PV} (h : isStore op = true) : pcallee op f = none := by
  cases op <;> first | (simp [isStore] at h; done) | rfl
theorem popH_congr {rs : List (Nat × Nat)} {o : Oper} {f g : Nat → PV} (h : ∀ x ∈ o.op.operands.toList, ev f x = ev g x) : popH P rs o f H = popH P rs o g H := by
  grind [popH, pop_congr]
theorem chkH_congr {ws : List Nat} {rs : List (Nat × Nat)} {o : Oper} {f g : Nat → PV} (h : ∀ x ∈ o.op.operands.toList, ev f x = ev g x) : chkH ws rs o f = chkH ws rs o g := by
  have e1 : opIds o.op f = opIds o.op g := by
    unfold opIds
    congr 1
    simp_all
  have e2 : stId o.op f = stId o.op g := by
    unfold stId
    split
    · rename_i t x y ho
      rw [ho] at h
      rw [h x (by simp [Op.operands])]
    · rfl
  unfold chkH
  rw [e1, e2]
theorem ExH.congr {all : List Oper} {ws : List Nat} {rs : List (Nat × Nat)} {o : Oper} {f g : Nat → PV} {v : PV} {H' : Heap} (h : ∀ t ∈ reads (all.map (·.dst)) o, f t = g t) (he : ExH P all ws rs o f H v H') : ExH P all ws rs o g H v H' := by
  have e1 : want all f o = want all g o := want_congr fun t ht => h t (List.mem_append.2 (.inr ht))
  have e2 : ∀ x ∈ o.op.operands.toList, ev f x = ev g x := fun x hx => ev_congr fun t ht => h t (List.mem_append.2 (.inl (mem_tmps (ht ▸ hx))))
  grind [ExH, pcallee_congr, popH_congr, chkH_congr]
theorem notIn_of {ids ws : List Nat} (h : notIn ids ws = true) : ∀ i ∈ ids, i ∉ ws := fun i hi hw => by
  have := List.all_eq_true.1 h i hi
  simp_all
/-- What reads or calls gives the same in a heap that agrees. -/
theorem ExH.move {all : List Oper} {ws : List Nat} {rs : List (Nat × Nat)} {o : Oper} {f : Nat → PV} {v : PV} {H' K : Heap} (hr : isRd rs o = true ∨ pureOp o.op = true) (he : ExH P all ws rs o f H v H') : H' = H ∧ (Ag ws (rs.map (·.2)) H K → ExH P all ws rs o f K v K) := by
  have hres : resv rs o = none := by
    rcases hr with hr | hr
    · simp_all [isRd, Bool.and_eq_true, Bool.not_eq_true', resv, none]
    grind [resv, pureOp]
  rcases he with ⟨h1, h2, h3⟩ | ⟨h1, h2⟩
  · exact ⟨h3, fun _ => .inl ⟨h1, h2, rfl⟩⟩
  · split at h2
    · rename_i fn args hc
      exact ⟨h2.1, fun ha => .inr ⟨h1, by rw [hc]; exact ⟨rfl, fun L hL => h2.2 L (ha.trans hL)⟩⟩⟩
    · rename_i hc
      obtain ⟨hp, hk⟩ := h2
      have hpp : pop P o.op f H = some (v, H') := by simp_all [popH]
      have heff : eff o.op = false ∨ pureOp o.op = true := by
        simp_all [isRd, Bool.and_eq_true, Bool.not_eq_true']
      have hH : H' = H := by
        rcases heff with h | h
        · exact pop_noeff h hpp
        · exact (pop_pure h hpp H).1
      refine ⟨hH, fun ha => .inr ⟨h1, ?_⟩⟩
      rw [hc]
      refine ⟨?_, hk⟩
      unfold popH
      rw [hres]
      cases hpu : pureOp o.op with
      | true => exact (pop_pure hpu hpp K).2
      | false =>
        have he' : eff o.op = false := by simp_all
        have hst : isStore o.op = false := by
          cases hs : isStore o.op with
          | false => rfl
          | true => cases ho : o.op <;> rw [ho] at hs he' <;> simp [isStore, eff] at hs he'
        unfold chkH at hk
        rw [hres, hst, hpu, he'] at hk
        simp only [Bool.or_self] at hk
        cases hl : liveOnly o.op with
        | true =>
          rw [hl] at hk
          exact pop_live hl (fun id hid => ha.ver id (notIn_of hk id hid)) hpp
        | false =>
          rw [hl] at hk
          exact pop_read he' (fun id hid => ha.all id (notIn_of hk id hid)) hpp

/-- What is written lies within the written blocks. -/
theorem ExH.write {all : List Oper} {ws : List Nat} {rs : List (Nat × Nat)} {o : Oper} {f : Nat → PV} {v : PV} {H' : Heap} (hr : isWr rs o = true) (he : ExH P all ws rs o f H v H') : Ag ws (rs.map (·.2)) H H' := by
  rcases he with ⟨_, _, h3⟩ | ⟨_, h2⟩
  · rw [h3]; exact .refl _ _ _
  · have hc : pcallee o.op f = none := by
      simp only [isWr, Bool.or_eq_true] at hr
      rcases hr with hr | hr
      · exact store_callee hr
      · obtain ⟨er, her⟩ := Option.isSome_iff_exists.1 hr
        exact resv_callee her
    rw [hc] at h2
    obtain ⟨hp, hk⟩ := h2
    unfold popH at hp
    unfold chkH at hk
    cases hres : resv rs o with
    | some er =>
      obtain ⟨elem, r⟩ := er
      rw [hres] at hp hk
      simp only [Bool.and_eq_true] at hk
      simp only [palloc] at hp
      split at hp
      · rename_i z k hz hkk
        split at hp
        · rename_i hq
          simp only [Option.some.injEq, Prod.mk.injEq] at hp
          rw [← hp.2]
          exact .set hkk (by have := hk.1; rw [List.elem_eq_mem] at this; simpa using this) (.inr (by have := hk.2; rw [List.elem_eq_mem] at this; simpa using this))
        · cases hp
      · cases hp
    | none =>
      rw [hres] at hp hk
      have hs : isStore o.op = true := by
        simp_all [isWr, Bool.or_eq_true]
      rw [hs] at hk
      simp only at hk hp
      cases ho : o.op <;> rw [ho] at hs hk hp <;> try (simp [isStore] at hs; done)
      rename_i t x y
      simp only [stId] at hk
      simp only [pop, Option.map_eq_some_iff, Prod.mk.injEq] at hp
      obtain ⟨H2, h1, _, rfl⟩ := hp
      unfold pstore at h1
      split at h1
      · rename_i id ver off hx
        rw [hx] at hk
        simp only at hk
        split at h1
        · rename_i k hkk
          split at h1
          · simp only [Option.map_eq_some_iff] at h1
            obtain ⟨c, _, rfl⟩ := h1
            exact .set hkk (by rw [List.elem_eq_mem] at hk; simpa using hk) (.inl rfl)
          · cases h1
        · cases h1
      · cases h1
/-! ### the evaluation of such a region -/
def stpH (P : Program) (ws : List Nat) (rs : List (Nat × Nat)) (ds : List (Option Nat)) (o : Oper) (F : Fr) (H : Heap) : Option (Fr × Heap) :=
  match asked ds F o with
  | none => none
  | some b => cond b (match chkH ws rs o (slot F) with
    | true => (match popH P rs o (slot F) H with | some (v, H') => some (put F o.dst v, H') | none => none)
    | false => none) (some (put F o.dst (.tup []), H))
def VCk (P : Program) (ws : List Nat) (rs : List (Nat × Nat)) (o : Oper) (F : Fr) (H : Heap) (K : Fr → Heap → Prop) : Prop :=
  match pcallee o.op (slot F) with
  | some (g, args) => ∃ v, (∀ L, Ag ws (rs.map (·.2)) H L → CallOk P g args L v L) ∧ K (put F o.dst v) H
  | none => False
def VCh (P : Program) (ws : List Nat) (rs : List (Nat × Nat)) (ds : List (Option Nat)) (o : Oper) (F : Fr) (H : Heap) (K : Fr → Heap → Prop) : Prop :=
  match asked ds F o with
  | none => False
  | some b => (b = true → VCk P ws rs o F H K) ∧ (b = false → K (put F o.dst (.tup [])) H)
def VOh (P : Program) (ws : List Nat) (rs : List (Nat × Nat)) (ds : List (Option Nat)) : List Oper → Option (Fr × Heap) → (Fr → Heap → Prop) → Prop
  | _, none, _ => False
  | [], some (F, H), K => K F H
  | o :: r, some (F, H), K => match isCall o.op with
    | false => VOh P ws rs ds r (stpH P ws rs ds o F H) K
    | true => VCh P ws rs ds o F H fun F' H' => VOh P ws rs ds r (some (F', H')) K
theorem VOh_cond {ws : List Nat} {rs : List (Nat × Nat)} {ds : List (Option Nat)} {l : List Oper} {K : Fr → Heap → Prop} {x : Bool} {A B : Option (Fr × Heap)} (h1 : x = true → VOh P ws rs ds l A K) (h2 : x = false → VOh P ws rs ds l B K) : VOh P ws rs ds l (cond x A B) K := by
  grind
theorem VCk.call {ws : List Nat} {rs : List (Nat × Nat)} {o : Oper} {K : Fr → Heap → Prop} {g : FuncId} {args : List PV} {v : PV} (h : ∀ L, Ag ws (rs.map (·.2)) H L → CallOk P g args L v L) (hc : pcallee o.op (slot F) = some (g, args)) (hk : K (put F o.dst v) H) : VCk P ws rs o F H K := by
  grind [VCk]
/-- A place is reserved. -/
theorem Vs.place {E : Env} (e : Nat) : Vs E F H F (H ++ [⟨e, 0, []⟩]) := fun _ C a w hw hf => by
  obtain ⟨g1, g2⟩ := hw.ghost e 0
  exact ⟨_, g1.toN _, g2, hf.mono g1⟩

/-! for simp -/
theorem elem_no {i j : Nat} {l : List Nat} (h : i ≠ j) : (j :: l).elem i = l.elem i := by
  simp_all
theorem elem_yes (i : Nat) (l : List Nat) : (i :: l).elem i = true := by simp
theorem elem_nil' (i : Nat) : ([] : List Nat).elem i = false := rfl

end Go.Proofs.YtbhdollgohgkgaaGreatDoor.Pm

namespace Go.Proofs.YtbhdollgohgkgaaGreatDoor.Pm
set_option linter.all false
set_option linter.unusedVariables false
set_option linter.unusedSimpArgs false
open Go.RowKit

variable {P : Program} {H : Heap} {F : Fr}

theorem stp_eq (ds : List (Option Nat)) (o : Oper) : stp P ds o F H = match asked ds F o with
    | none => none
    | some b => cond b (match pop P o.op (slot F) H with | some (v, H') => some (put F o.dst v, H') | none => none) (some (put F o.dst (.tup []), H)) := by
  unfold stp
  cases asked ds F o with
  | none => rfl
  | some b => cases b <;> rfl
/-- A test in a region. -/
theorem VO_cond {ds : List (Option Nat)} {l : List Oper} {K : Fr → Heap → Prop} {x : Bool} {A B : Option (Fr × Heap)} (h1 : x = true → VO P ds l A K) (h2 : x = false → VO P ds l B K) : VO P ds l (cond x A B) K := by
  cases x with
  | true => exact h1 rfl
  | false => exact h2 rfl
theorem VOd_cond {ds : List (Option Nat)} {l : List Oper} {K : Fr → Heap → Prop} {x : Bool} {A B : Option (Fr × Heap)} (h1 : x = true → VOd P ds l A K) (h2 : x = false → VOd P ds l B K) : VOd P ds l (cond x A B) K := by
  cases x with
  | true => exact h1 rfl
  | false => exact h2 rfl
theorem VOg_cond {ds : List (Option Nat)} {l : List Oper} {K : Fr → Heap → Prop} {x : Bool} {A B : Option (Fr × Heap)} (h1 : x = true → VOg P ds l A K) (h2 : x = false → VOg P ds l B K) : VOg P ds l (cond x A B) K := by
  cases x with
  | true => exact h1 rfl
  | false => exact h2 rfl
theorem VC.guard {ds : List (Option Nat)} {o : Oper} {K : Fr → Heap → Prop} {x : Bool} (ha : asked ds F o = some x) (h1 : x = true → VC P ds { o with guard := none } F H K) (h2 : x = false → K (put F o.dst (.tup [])) H) : VC P ds o F H K := by
  cases x with
  | true =>
    have := h1 rfl
    unfold VC at this ⊢
    rw [ha]
    exact this
  | false =>
    unfold VC
    rw [ha]
    exact h2 rfl
theorem VCd.guard {ds : List (Option Nat)} {o : Oper} {K : Fr → Heap → Prop} {x : Bool} (ha : asked ds F o = some x) (h1 : x = true → VCd P ds { o with guard := none } F H K) (h2 : x = false → K (put F o.dst (.tup [])) H) : VCd P ds o F H K := by
  cases x with
  | true =>
    have := h1 rfl
    unfold VCd at this ⊢
    rw [ha]
    exact this
  | false =>
    unfold VCd
    rw [ha]
    exact h2 rfl

/-- A call that is carried out. -/
def VCx (P : Program) (o : Oper) (F : Fr) (H : Heap) (K : Fr → Heap → Prop) : Prop :=
  match pcallee o.op (slot F) with
  | some (g, args) => ∃ R, CallEx P g args H R ∧ ∀ v H', R v H' → K (put F o.dst v) H'
  | none => False
def VCy (P : Program) (o : Oper) (F : Fr) (H : Heap) (K : Fr → Heap → Prop) : Prop :=
  match pcallee o.op (slot F) with
  | some (g, args) => ∃ v, (CallOk P g args H v H ∧ (pureCall o.op = true → ∀ K, CallOk P g args K v K)) ∧ K (put F o.dst v) H
  | none => False
theorem VC_eq (ds : List (Option Nat)) (o : Oper) (K : Fr → Heap → Prop) : VC P ds o F H K = match asked ds F o with
    | none => False
    | some b => (b = true → VCx P o F H K) ∧ (b = false → K (put F o.dst (.tup [])) H) := by
  unfold VC VCx
  cases asked ds F o with
  | none => rfl
  | some b => cases b <;> simp <;> exact Iff.rfl
theorem VCd_eq (ds : List (Option Nat)) (o : Oper) (K : Fr → Heap → Prop) : VCd P ds o F H K = match asked ds F o with
    | none => False
    | some b => (b = true → VCy P o F H K) ∧ (b = false → K (put F o.dst (.tup [])) H) := by
  unfold VCd VCy
  cases asked ds F o with
  | none => rfl
  | some b => cases b <;> simp <;> exact Iff.rfl
/-- A call in a drawn region with new blocks. -/
def VCz (P : Program) (o : Oper) (F : Fr) (H : Heap) (K : Fr → Heap → Prop) : Prop :=
  match pcallee o.op (slot F) with
  | some (g, args) => ∃ v, ((∀ L, CallOk P g args (H ++ L) v (H ++ L)) ∧ (pureCall o.op = true → ∀ K, CallOk P g args K v K)) ∧ K (put F o.dst v) H
  | none => False
theorem VCg_eq (ds : List (Option Nat)) (o : Oper) (K : Fr → Heap → Prop) : VCg P ds o F H K = match asked ds F o with
    | none => False
    | some b => (b = true → VCz P o F H K) ∧ (b = false → K (put F o.dst (.tup [])) H) := by
  unfold VCg VCz
  cases asked ds F o with
  | none => rfl
  | some b => cases b <;> simp <;> exact Iff.rfl
theorem VCz.call {o : Oper} {K : Fr → Heap → Prop} {g : FuncId} {args : List PV} {v : PV} (h : ∀ L, CallOk P g args (H ++ L) v (H ++ L)) (hc : pcallee o.op (slot F) = some (g, args)) (hk : K (put F o.dst v) H) (hp : pureCall o.op = false := by rfl) : VCz P o F H K := by
  unfold VCz
  simp only [hc]
  exact ⟨v, ⟨h, fun e => by rw [hp] at e; cases e⟩, hk⟩
theorem VCx.call {o : Oper} {K : Fr → Heap → Prop} {g : FuncId} {args : List PV} {v : PV} {H' : Heap} (h : CallOk P g args H v H') (hc : pcallee o.op (slot F) = some (g, args)) (hk : K (put F o.dst v) H') : VCx P o F H K := by
  unfold VCx
  simp only [hc]
  exact ⟨_, h.toEx, fun v' H'' e => by rw [e.1, e.2]; exact hk⟩
theorem VCy.call {o : Oper} {K : Fr → Heap → Prop} {g : FuncId} {args : List PV} {v : PV} (h : CallOk P g args H v H) (hc : pcallee o.op (slot F) = some (g, args)) (hk : K (put F o.dst v) H) (hp : pureCall o.op = false := by rfl) : VCy P o F H K := by
  unfold VCy
  simp only [hc]
  exact ⟨v, ⟨h, fun e => by rw [hp] at e; cases e⟩, hk⟩
/-! arithmetic; shifts and bits have laws of their own -/
theorem pint_add (k k' : IntKind) (a b : Int) : pint .add k a k' b = if k = k' then some (.int k (k.wrap (a + b))) else none := rfl
theorem pint_sub (k k' : IntKind) (a b : Int) : pint .sub k a k' b = if k = k' then some (.int k (k.wrap (a - b))) else none := rfl
theorem pint_mul (k k' : IntKind) (a b : Int) : pint .mul k a k' b = if k = k' then some (.int k (k.wrap (a * b))) else none := rfl
theorem pint_eql (k k' : IntKind) (a b : Int) : pint .eql k a k' b = if k = k' then some (.bool (a == b)) else none := rfl
theorem pint_neq (k k' : IntKind) (a b : Int) : pint .neq k a k' b = if k = k' then some (.bool (a != b)) else none := rfl
theorem pint_lss (k k' : IntKind) (a b : Int) : pint .lss k a k' b = if k = k' then some (.bool (decide (a < b))) else none := rfl
theorem pint_leq (k k' : IntKind) (a b : Int) : pint .leq k a k' b = if k = k' then some (.bool (decide (a ≤ b))) else none := rfl
theorem pint_gtr (k k' : IntKind) (a b : Int) : pint .gtr k a k' b = if k = k' then some (.bool (decide (b < a))) else none := rfl
theorem pint_geq (k k' : IntKind) (a b : Int) : pint .geq k a k' b = if k = k' then some (.bool (decide (b ≤ a))) else none := rfl
theorem pint_quo (k k' : IntKind) (a b : Int) : pint .quo k a k' b = if k = k' then (if b = 0 then none else some (.int k (k.wrap (a.tdiv b)))) else none := rfl
theorem pint_rem (k k' : IntKind) (a b : Int) : pint .rem k a k' b = if k = k' then (if b = 0 then none else some (.int k (a.tmod b))) else none := rfl
theorem hp4 (H K : Heap) (a b c d e : Blk) : (H ++ a :: b :: c :: d :: e :: K)[H.length + 4]? = some e := by rw [List.getElem?_append_right (by omega)]; simp
theorem hp5 (H K : Heap) (a b c d e f : Blk) : (H ++ a :: b :: c :: d :: e :: f :: K)[H.length + 5]? = some f := by rw [List.getElem?_append_right (by omega)]; simp
theorem hp6 (H K : Heap) (a b c d e f g : Blk) : (H ++ a :: b :: c :: d :: e :: f :: g :: K)[H.length + 6]? = some g := by rw [List.getElem?_append_right (by omega)]; simp
theorem hs3 (H K : Heap) (a b c d x : Blk) : (H ++ a :: b :: c :: d :: K).set (H.length + 3) x = H ++ a :: b :: c :: x :: K := by rw [List.set_append_right _ _ (by omega)]; simp
theorem hs4 (H K : Heap) (a b c d e x : Blk) : (H ++ a :: b :: c :: d :: e :: K).set (H.length + 4) x = H ++ a :: b :: c :: d :: x :: K := by rw [List.set_append_right _ _ (by omega)]; simp
theorem hs5 (H K : Heap) (a b c d e f x : Blk) : (H ++ a :: b :: c :: d :: e :: f :: K).set (H.length + 5) x = H ++ a :: b :: c :: d :: e :: x :: K := by rw [List.set_append_right _ _ (by omega)]; simp
theorem hs6 (H K : Heap) (a b c d e f g x : Blk) : (H ++ a :: b :: c :: d :: e :: f :: g :: K).set (H.length + 6) x = H ++ a :: b :: c :: d :: e :: f :: x :: K := by rw [List.set_append_right _ _ (by omega)]; simp
theorem hl4 (H : Heap) (a b c d : Blk) : (H ++ [a, b, c, d]).length = H.length + 4 := by simp
theorem hl5 (H : Heap) (a b c d e : Blk) : (H ++ [a, b, c, d, e]).length = H.length + 5 := by simp
theorem hl6 (H : Heap) (a b c d e f : Blk) : (H ++ [a, b, c, d, e, f]).length = H.length + 6 := by simp

attribute [go_sem] hp4 hp5 hp6 hs3 hs4 hs5 hs6 hl4 hl5 hl6 pint_add pint_sub pint_mul pint_eql pint_neq pint_lss pint_leq pint_gtr pint_geq pint_quo pint_rem VC_eq VCd_eq VCg_eq VRg VOg_nil VOg_step   VCh stpH chkH popH palloc resv rsv isStore stId notIn opIds topId liveOnly eff effB pureOp elem_no elem_yes elem_nil' Op.operands true_implies Bool.true_eq_false Bool.false_eq_true VR VO_nil VO_step VRd VOd_nil VOd_step isCall stp_eq asked pcallee pop isNilSl isNilV pnilcmp plook pmset pmapOf ev pvc pv1 slot put Nat.beq pbin pstr peq scalT peqS peqI peqF peqA peqT peqG List.range List.range.loop pun Option.map Option.bind live scells pconv rd pload wr pstore pfieldAddr pfield pindexAddr pindex pbound pslice pfill reps pmake appSrc pcopy pmin pmax pfold pbuiltin pnil aggT isPtrT isBoolT PV.cells PV.cell pbuild pbuildSlice fieldPlaces Option.isSome_some Option.isSome_none kp hp0 hp1 hp2 hp3 hs0 hs1 hs2 hl1 hl2 hl3 List.append_assoc Nat.beq_refl List.length_cons List.length_nil List.all_cons List.all_nil splice reps List.replicate_succ List.replicate_zero List.flatten_cons List.flatten_nil List.take_succ_cons List.take_zero List.take_nil List.drop_succ_cons List.drop_zero List.drop_nil Nat.zero_mul Nat.sub_self true_implies false_implies and_true true_and false_and and_false and_self not_true_eq_false not_false_eq_true Bool.false_eq_true Bool.false_and Bool.and_false Bool.true_or Bool.or_true Bool.false_or Bool.or_false if_true if_false ite_true ite_false forall_const List.map_cons List.map_nil List.cons_append List.nil_append List.append_nil Array.toList Nat.zero_add Nat.add_zero Nat.mul_one Nat.one_mul beq_self_eq_true Bool.true_and Bool.and_true List.getElem?_cons_succ List.getElem?_cons_zero List.getElem?_toArray List.set_cons_zero List.set_cons_succ beq_true beq_false Bool.not_true Bool.not_false decide_true decide_false cond_true cond_false ite_ok ite_no w64 w8 w32 dec_t dec_f beq_t beq_f bne_t bne_f Int.toNat_natCast IntWalk.toNatUp

end Go.Proofs.YtbhdollgohgkgaaGreatDoor.Pm

namespace Go.Proofs.YtbhdollgohgkgaaGreatDoor.Ty
open Pm
theorem sz0 : szT Tryz.prog 0 = some 1 := by kernel_rfl
theorem by0 : byT Tryz.prog 0 = some 0 := by kernel_rfl
theorem sz1 : szT Tryz.prog 1 = some 1 := by kernel_rfl
theorem by1 : byT Tryz.prog 1 = some 8 := by kernel_rfl
theorem sz2 : szT Tryz.prog 2 = some 1 := by kernel_rfl
theorem by2 : byT Tryz.prog 2 = some 8 := by kernel_rfl
theorem zc2 : zcells Tryz.prog 2 = some (([.int .i64 0] : List PV)) := by kernel_rfl
theorem sz3 : szT Tryz.prog 3 = some 1 := by kernel_rfl
theorem by3 : byT Tryz.prog 3 = some 8 := by kernel_rfl
theorem zc3 : zcells Tryz.prog 3 = some (([.int .i64 0] : List PV)) := by kernel_rfl
theorem sz4 : szT Tryz.prog 4 = some 1 := by kernel_rfl
theorem by4 : byT Tryz.prog 4 = some 1 := by kernel_rfl
theorem zc4 : zcells Tryz.prog 4 = some (([.bool false] : List PV)) := by kernel_rfl
theorem sz5 : szT Tryz.prog 5 = some 1 := by kernel_rfl
theorem by5 : byT Tryz.prog 5 = some 1 := by kernel_rfl
theorem zc5 : zcells Tryz.prog 5 = some (([.int .u8 0] : List PV)) := by kernel_rfl
theorem sz6 : szT Tryz.prog 6 = some 1 := by kernel_rfl
theorem by6 : byT Tryz.prog 6 = some 1 := by kernel_rfl
theorem zc6 : zcells Tryz.prog 6 = some (([.int .u8 0] : List PV)) := by kernel_rfl
theorem sz7 : szT Tryz.prog 7 = some 4 := by kernel_rfl
theorem by7 : byT Tryz.prog 7 = some 24 := by kernel_rfl
theorem zc7 : zcells Tryz.prog 7 = some (([.int .i64 0, .int .i64 0, .bool false, .int .u8 0] : List PV)) := by kernel_rfl
theorem sz8 : szT Tryz.prog 8 = some 4 := by kernel_rfl
theorem by8 : byT Tryz.prog 8 = some 24 := by kernel_rfl
theorem zc8 : zcells Tryz.prog 8 = some (([.int .i64 0, .int .i64 0, .bool false, .int .u8 0] : List PV)) := by kernel_rfl
theorem sz9 : szT Tryz.prog 9 = some 1 := by kernel_rfl
theorem by9 : byT Tryz.prog 9 = some 16 := by kernel_rfl
theorem zc9 : zcells Tryz.prog 9 = some (([.str []] : List PV)) := by kernel_rfl
theorem sz10 : szT Tryz.prog 10 = some 1 := by kernel_rfl
theorem by10 : byT Tryz.prog 10 = some 16 := by kernel_rfl
theorem zc10 : zcells Tryz.prog 10 = some (([.str []] : List PV)) := by kernel_rfl
theorem sz11 : szT Tryz.prog 11 = some 1 := by kernel_rfl
theorem by11 : byT Tryz.prog 11 = some 16 := by kernel_rfl
theorem zc11 : zcells Tryz.prog 11 = some (([.str []] : List PV)) := by kernel_rfl
theorem sz12 : szT Tryz.prog 12 = some 1 := by kernel_rfl
theorem by12 : byT Tryz.prog 12 = some 8 := by kernel_rfl
theorem zc12 : zcells Tryz.prog 12 = some (([.int .u64 0] : List PV)) := by kernel_rfl
theorem sz13 : szT Tryz.prog 13 = some 2 := by kernel_rfl
theorem by13 : byT Tryz.prog 13 = some 24 := by kernel_rfl
theorem zc13 : zcells Tryz.prog 13 = some (([.str [], .int .u64 0] : List PV)) := by kernel_rfl
theorem sz14 : szT Tryz.prog 14 = some 2 := by kernel_rfl
theorem by14 : byT Tryz.prog 14 = some 24 := by kernel_rfl
theorem zc14 : zcells Tryz.prog 14 = some (([.str [], .int .u64 0] : List PV)) := by kernel_rfl
theorem sz15 : szT Tryz.prog 15 = some 1 := by kernel_rfl
theorem by15 : byT Tryz.prog 15 = some 8 := by kernel_rfl
theorem zc15 : zcells Tryz.prog 15 = some (([.nilp] : List PV)) := by kernel_rfl
theorem sz16 : szT Tryz.prog 16 = some 1 := by kernel_rfl
theorem by16 : byT Tryz.prog 16 = some 8 := by kernel_rfl
theorem zc16 : zcells Tryz.prog 16 = some (([.nilp] : List PV)) := by kernel_rfl
theorem sz17 : szT Tryz.prog 17 = some 1 := by kernel_rfl
theorem by17 : byT Tryz.prog 17 = some 8 := by kernel_rfl
theorem zc17 : zcells Tryz.prog 17 = some (([.nilp] : List PV)) := by kernel_rfl
theorem sz18 : szT Tryz.prog 18 = some 1 := by kernel_rfl
theorem by18 : byT Tryz.prog 18 = some 8 := by kernel_rfl
theorem zc18 : zcells Tryz.prog 18 = some (([.nilp] : List PV)) := by kernel_rfl
theorem sz19 : szT Tryz.prog 19 = some 1 := by kernel_rfl
theorem by19 : byT Tryz.prog 19 = some 8 := by kernel_rfl
theorem zc19 : zcells Tryz.prog 19 = some (([.nilp] : List PV)) := by kernel_rfl
theorem sz20 : szT Tryz.prog 20 = some 1 := by kernel_rfl
theorem by20 : byT Tryz.prog 20 = some 16 := by kernel_rfl
theorem sz21 : szT Tryz.prog 21 = some 1 := by kernel_rfl
theorem by21 : byT Tryz.prog 21 = some 4 := by kernel_rfl
theorem zc21 : zcells Tryz.prog 21 = some (([.int .i32 0] : List PV)) := by kernel_rfl
theorem sz22 : szT Tryz.prog 22 = some 1 := by kernel_rfl
theorem by22 : byT Tryz.prog 22 = some 24 := by kernel_rfl
theorem zc22 : zcells Tryz.prog 22 = some (([.slice [] 0 true] : List PV)) := by kernel_rfl
theorem sz23 : szT Tryz.prog 23 = some 1 := by kernel_rfl
theorem by23 : byT Tryz.prog 23 = some 24 := by kernel_rfl
theorem zc23 : zcells Tryz.prog 23 = some (([.slice [] 0 true] : List PV)) := by kernel_rfl
theorem sz24 : szT Tryz.prog 24 = some 1 := by kernel_rfl
theorem by24 : byT Tryz.prog 24 = some 24 := by kernel_rfl
theorem zc24 : zcells Tryz.prog 24 = some (([.slice [] 0 true] : List PV)) := by kernel_rfl
theorem sz25 : szT Tryz.prog 25 = some 1 := by kernel_rfl
theorem by25 : byT Tryz.prog 25 = some 8 := by kernel_rfl
theorem zc25 : zcells Tryz.prog 25 = some (([.int .i64 0] : List PV)) := by kernel_rfl
theorem sz26 : szT Tryz.prog 26 = some 1 := by kernel_rfl
theorem by26 : byT Tryz.prog 26 = some 0 := by kernel_rfl
theorem sz27 : szT Tryz.prog 27 = some 1 := by kernel_rfl
theorem by27 : byT Tryz.prog 27 = some 8 := by kernel_rfl
theorem sz28 : szT Tryz.prog 28 = some 1 := by kernel_rfl
theorem by28 : byT Tryz.prog 28 = some 24 := by kernel_rfl
theorem zc28 : zcells Tryz.prog 28 = some (([.slice [] 0 true] : List PV)) := by kernel_rfl
theorem sz29 : szT Tryz.prog 29 = some 1 := by kernel_rfl
theorem by29 : byT Tryz.prog 29 = some 0 := by kernel_rfl
theorem sz30 : szT Tryz.prog 30 = some 1 := by kernel_rfl
theorem by30 : byT Tryz.prog 30 = some 8 := by kernel_rfl
theorem sz31 : szT Tryz.prog 31 = some 1 := by kernel_rfl
theorem by31 : byT Tryz.prog 31 = some 8 := by kernel_rfl
theorem sz32 : szT Tryz.prog 32 = some 1 := by kernel_rfl
theorem by32 : byT Tryz.prog 32 = some 8 := by kernel_rfl
theorem sz33 : szT Tryz.prog 33 = some 1 := by kernel_rfl
theorem by33 : byT Tryz.prog 33 = some 8 := by kernel_rfl
theorem sz34 : szT Tryz.prog 34 = some 1 := by kernel_rfl
theorem by34 : byT Tryz.prog 34 = some 8 := by kernel_rfl
theorem sz35 : szT Tryz.prog 35 = some 1 := by kernel_rfl
theorem by35 : byT Tryz.prog 35 = some 24 := by kernel_rfl
theorem zc35 : zcells Tryz.prog 35 = some (([.slice [] 0 true] : List PV)) := by kernel_rfl
theorem sz36 : szT Tryz.prog 36 = some 1 := by kernel_rfl
theorem by36 : byT Tryz.prog 36 = some 0 := by kernel_rfl
theorem sz37 : szT Tryz.prog 37 = some 1 := by kernel_rfl
theorem by37 : byT Tryz.prog 37 = some 8 := by kernel_rfl
theorem sz38 : szT Tryz.prog 38 = some 3 := by kernel_rfl
theorem by38 : byT Tryz.prog 38 = some 40 := by kernel_rfl
theorem zc38 : zcells Tryz.prog 38 = some (([.slice [] 0 true, .int .i64 0, .bool false] : List PV)) := by kernel_rfl
theorem sz39 : szT Tryz.prog 39 = some 3 := by kernel_rfl
theorem by39 : byT Tryz.prog 39 = some 40 := by kernel_rfl
theorem zc39 : zcells Tryz.prog 39 = some (([.slice [] 0 true, .int .i64 0, .bool false] : List PV)) := by kernel_rfl
theorem sz40 : szT Tryz.prog 40 = some 2 := by kernel_rfl
theorem by40 : byT Tryz.prog 40 = some 32 := by kernel_rfl
theorem zc40 : zcells Tryz.prog 40 = some (([.int .i64 0, .slice [] 0 true] : List PV)) := by kernel_rfl
theorem sz41 : szT Tryz.prog 41 = some 2 := by kernel_rfl
theorem by41 : byT Tryz.prog 41 = some 32 := by kernel_rfl
theorem zc41 : zcells Tryz.prog 41 = some (([.int .i64 0, .slice [] 0 true] : List PV)) := by kernel_rfl
theorem sz42 : szT Tryz.prog 42 = some 5 := by kernel_rfl
theorem by42 : byT Tryz.prog 42 = some 56 := by kernel_rfl
theorem zc42 : zcells Tryz.prog 42 = some (([.int .i64 0, .slice [] 0 true, .int .i64 0, .int .i64 0, .int .i64 0] : List PV)) := by kernel_rfl
theorem sz43 : szT Tryz.prog 43 = some 5 := by kernel_rfl
theorem by43 : byT Tryz.prog 43 = some 56 := by kernel_rfl
theorem zc43 : zcells Tryz.prog 43 = some (([.int .i64 0, .slice [] 0 true, .int .i64 0, .int .i64 0, .int .i64 0] : List PV)) := by kernel_rfl
theorem sz44 : szT Tryz.prog 44 = some 1 := by kernel_rfl
theorem by44 : byT Tryz.prog 44 = some 8 := by kernel_rfl
theorem sz45 : szT Tryz.prog 45 = some 2 := by kernel_rfl
theorem by45 : byT Tryz.prog 45 = some 16 := by kernel_rfl
theorem zc45 : zcells Tryz.prog 45 = some (([.int .i64 0, .int .i64 0] : List PV)) := by kernel_rfl
theorem sz46 : szT Tryz.prog 46 = some 2 := by kernel_rfl
theorem by46 : byT Tryz.prog 46 = some 16 := by kernel_rfl
theorem zc46 : zcells Tryz.prog 46 = some (([.int .i64 0, .int .i64 0] : List PV)) := by kernel_rfl
theorem sz47 : szT Tryz.prog 47 = some 2 := by kernel_rfl
theorem by47 : byT Tryz.prog 47 = some 16 := by kernel_rfl
theorem zc47 : zcells Tryz.prog 47 = some (([.int .i64 0, .int .i64 0] : List PV)) := by kernel_rfl
theorem sz48 : szT Tryz.prog 48 = some 2 := by kernel_rfl
theorem by48 : byT Tryz.prog 48 = some 16 := by kernel_rfl
theorem zc48 : zcells Tryz.prog 48 = some (([.int .i64 0, .int .i64 0] : List PV)) := by kernel_rfl
theorem sz49 : szT Tryz.prog 49 = some 64 := by kernel_rfl
theorem by49 : byT Tryz.prog 49 = some 64 := by kernel_rfl
theorem zc49 : zcells Tryz.prog 49 = some ((List.replicate 64 (PV.int .u8 0) : List PV)) := by kernel_rfl
theorem sz50 : szT Tryz.prog 50 = some 135 := by kernel_rfl
theorem by50 : byT Tryz.prog 50 = some 184 := by kernel_rfl
theorem zc50 : zcells Tryz.prog 50 = some (([.int .i64 0, .int .i64 0, .int .i64 0, .int .i64 0, .bool false, .int .i64 0, .int .i64 0] : List PV) ++ (List.replicate 128 (PV.int .u8 0) : List PV)) := by kernel_rfl
theorem sz51 : szT Tryz.prog 51 = some 135 := by kernel_rfl
theorem by51 : byT Tryz.prog 51 = some 184 := by kernel_rfl
theorem zc51 : zcells Tryz.prog 51 = some (([.int .i64 0, .int .i64 0, .int .i64 0, .int .i64 0, .bool false, .int .i64 0, .int .i64 0] : List PV) ++ (List.replicate 128 (PV.int .u8 0) : List PV)) := by kernel_rfl
theorem sz52 : szT Tryz.prog 52 = some 3 := by kernel_rfl
theorem by52 : byT Tryz.prog 52 = some 16 := by kernel_rfl
theorem zc52 : zcells Tryz.prog 52 = some (([.bool false, .bool false, .int .i64 0] : List PV)) := by kernel_rfl
theorem sz53 : szT Tryz.prog 53 = some 3 := by kernel_rfl
theorem by53 : byT Tryz.prog 53 = some 16 := by kernel_rfl
theorem zc53 : zcells Tryz.prog 53 = some (([.bool false, .bool false, .int .i64 0] : List PV)) := by kernel_rfl
theorem sz54 : szT Tryz.prog 54 = some 6 := by kernel_rfl
theorem by54 : byT Tryz.prog 54 = some 32 := by kernel_rfl
theorem zc54 : zcells Tryz.prog 54 = some (([.int .i64 0, .int .i64 0, .int .i64 0, .bool false, .bool false, .bool false] : List PV)) := by kernel_rfl
theorem sz55 : szT Tryz.prog 55 = some 6 := by kernel_rfl
theorem by55 : byT Tryz.prog 55 = some 32 := by kernel_rfl
theorem zc55 : zcells Tryz.prog 55 = some (([.int .i64 0, .int .i64 0, .int .i64 0, .bool false, .bool false, .bool false] : List PV)) := by kernel_rfl
theorem sz56 : szT Tryz.prog 56 = some 1 := by kernel_rfl
theorem by56 : byT Tryz.prog 56 = some 24 := by kernel_rfl
theorem zc56 : zcells Tryz.prog 56 = some (([.slice [] 0 true] : List PV)) := by kernel_rfl
theorem sz57 : szT Tryz.prog 57 = some 1 := by kernel_rfl
theorem by57 : byT Tryz.prog 57 = some 24 := by kernel_rfl
theorem zc57 : zcells Tryz.prog 57 = some (([.slice [] 0 true] : List PV)) := by kernel_rfl
theorem sz58 : szT Tryz.prog 58 = some 8 := by kernel_rfl
theorem by58 : byT Tryz.prog 58 = some 80 := by kernel_rfl
theorem zc58 : zcells Tryz.prog 58 = some (([.int .i64 0, .int .i64 0, .int .i64 0, .bool false, .bool false, .bool false, .slice [] 0 true, .slice [] 0 true] : List PV)) := by kernel_rfl
theorem sz59 : szT Tryz.prog 59 = some 8 := by kernel_rfl
theorem by59 : byT Tryz.prog 59 = some 80 := by kernel_rfl
theorem zc59 : zcells Tryz.prog 59 = some (([.int .i64 0, .int .i64 0, .int .i64 0, .bool false, .bool false, .bool false, .slice [] 0 true, .slice [] 0 true] : List PV)) := by kernel_rfl
theorem sz60 : szT Tryz.prog 60 = some 148 := by kernel_rfl
theorem by60 : byT Tryz.prog 60 = some 296 := by kernel_rfl
theorem zc60 : zcells Tryz.prog 60 = some (([.int .i64 0, .int .i64 0, .int .i64 0, .int .i64 0, .int .i64 0, .bool false, .int .i64 0, .int .i64 0] : List PV) ++ (List.replicate 128 (PV.int .u8 0) : List PV) ++ ([.bool false, .bool false, .int .i64 0, .int .i64 0, .int .i64 0, .int .i64 0, .bool false, .bool false, .bool false, .slice [] 0 true, .slice [] 0 true, .int .i64 0] : List PV)) := by kernel_rfl
theorem sz61 : szT Tryz.prog 61 = some 148 := by kernel_rfl
theorem by61 : byT Tryz.prog 61 = some 296 := by kernel_rfl
theorem zc61 : zcells Tryz.prog 61 = some (([.int .i64 0, .int .i64 0, .int .i64 0, .int .i64 0, .int .i64 0, .bool false, .int .i64 0, .int .i64 0] : List PV) ++ (List.replicate 128 (PV.int .u8 0) : List PV) ++ ([.bool false, .bool false, .int .i64 0, .int .i64 0, .int .i64 0, .int .i64 0, .bool false, .bool false, .bool false, .slice [] 0 true, .slice [] 0 true, .int .i64 0] : List PV)) := by kernel_rfl
theorem sz62 : szT Tryz.prog 62 = some 1 := by kernel_rfl
theorem by62 : byT Tryz.prog 62 = some 8 := by kernel_rfl
theorem sz63 : szT Tryz.prog 63 = some 1 := by kernel_rfl
theorem by63 : byT Tryz.prog 63 = some 8 := by kernel_rfl
theorem sz64 : szT Tryz.prog 64 = some 1 := by kernel_rfl
theorem by64 : byT Tryz.prog 64 = some 8 := by kernel_rfl
theorem sz65 : szT Tryz.prog 65 = some 1 := by kernel_rfl
theorem by65 : byT Tryz.prog 65 = some 24 := by kernel_rfl
theorem zc65 : zcells Tryz.prog 65 = some (([.slice [] 0 true] : List PV)) := by kernel_rfl
theorem sz66 : szT Tryz.prog 66 = some 1 := by kernel_rfl
theorem by66 : byT Tryz.prog 66 = some 0 := by kernel_rfl
theorem sz67 : szT Tryz.prog 67 = some 1 := by kernel_rfl
theorem by67 : byT Tryz.prog 67 = some 8 := by kernel_rfl
theorem sz68 : szT Tryz.prog 68 = some 5 := by kernel_rfl
theorem by68 : byT Tryz.prog 68 = some 56 := by kernel_rfl
theorem zc68 : zcells Tryz.prog 68 = some (([.int .i64 0, .slice [] 0 true, .int .i64 0, .int .i64 0, .int .i64 0] : List PV)) := by kernel_rfl
theorem sz69 : szT Tryz.prog 69 = some 1 := by kernel_rfl
theorem by69 : byT Tryz.prog 69 = some 8 := by kernel_rfl
theorem sz70 : szT Tryz.prog 70 = some 1 := by kernel_rfl
theorem by70 : byT Tryz.prog 70 = some 0 := by kernel_rfl
theorem sz71 : szT Tryz.prog 71 = some 1 := by kernel_rfl
theorem by71 : byT Tryz.prog 71 = some 8 := by kernel_rfl
theorem sz72 : szT Tryz.prog 72 = some 1 := by kernel_rfl
theorem by72 : byT Tryz.prog 72 = some 8 := by kernel_rfl
theorem zc72 : zcells Tryz.prog 72 = some (([.nilp] : List PV)) := by kernel_rfl
theorem sz73 : szT Tryz.prog 73 = some 1 := by kernel_rfl
theorem by73 : byT Tryz.prog 73 = some 8 := by kernel_rfl
theorem sz74 : szT Tryz.prog 74 = some 2 := by kernel_rfl
theorem by74 : byT Tryz.prog 74 = some 16 := by kernel_rfl
theorem zc74 : zcells Tryz.prog 74 = some (([.int .i64 0, .int .i64 0] : List PV)) := by kernel_rfl
theorem sz75 : szT Tryz.prog 75 = some 1 := by kernel_rfl
theorem by75 : byT Tryz.prog 75 = some 0 := by kernel_rfl
theorem sz76 : szT Tryz.prog 76 = some 1 := by kernel_rfl
theorem by76 : byT Tryz.prog 76 = some 8 := by kernel_rfl
theorem sz77 : szT Tryz.prog 77 = some 1 := by kernel_rfl
theorem by77 : byT Tryz.prog 77 = some 8 := by kernel_rfl
theorem sz78 : szT Tryz.prog 78 = some 1 := by kernel_rfl
theorem by78 : byT Tryz.prog 78 = some 8 := by kernel_rfl
theorem sz79 : szT Tryz.prog 79 = some 1 := by kernel_rfl
theorem by79 : byT Tryz.prog 79 = some 8 := by kernel_rfl
theorem sz80 : szT Tryz.prog 80 = some 1 := by kernel_rfl
theorem by80 : byT Tryz.prog 80 = some 8 := by kernel_rfl
theorem sz81 : szT Tryz.prog 81 = some 1 := by kernel_rfl
theorem by81 : byT Tryz.prog 81 = some 8 := by kernel_rfl
theorem sz82 : szT Tryz.prog 82 = some 1 := by kernel_rfl
theorem by82 : byT Tryz.prog 82 = some 8 := by kernel_rfl
theorem zc82 : zcells Tryz.prog 82 = some (([.nilp] : List PV)) := by kernel_rfl
theorem sz83 : szT Tryz.prog 83 = some 1 := by kernel_rfl
theorem by83 : byT Tryz.prog 83 = some 0 := by kernel_rfl
theorem sz84 : szT Tryz.prog 84 = some 1 := by kernel_rfl
theorem by84 : byT Tryz.prog 84 = some 8 := by kernel_rfl
theorem sz85 : szT Tryz.prog 85 = some 1 := by kernel_rfl
theorem by85 : byT Tryz.prog 85 = some 8 := by kernel_rfl
theorem sz86 : szT Tryz.prog 86 = some 1 := by kernel_rfl
theorem by86 : byT Tryz.prog 86 = some 8 := by kernel_rfl
theorem sz87 : szT Tryz.prog 87 = some 1 := by kernel_rfl
theorem by87 : byT Tryz.prog 87 = some 8 := by kernel_rfl
theorem zc87 : zcells Tryz.prog 87 = some (([.int .u64 0] : List PV)) := by kernel_rfl
theorem sz88 : szT Tryz.prog 88 = some 1 := by kernel_rfl
theorem by88 : byT Tryz.prog 88 = some 0 := by kernel_rfl
theorem sz89 : szT Tryz.prog 89 = some 1 := by kernel_rfl
theorem by89 : byT Tryz.prog 89 = some 8 := by kernel_rfl
theorem sz90 : szT Tryz.prog 90 = some 1 := by kernel_rfl
theorem by90 : byT Tryz.prog 90 = some 0 := by kernel_rfl
theorem sz91 : szT Tryz.prog 91 = some 1 := by kernel_rfl
theorem by91 : byT Tryz.prog 91 = some 8 := by kernel_rfl
theorem sz92 : szT Tryz.prog 92 = some 1 := by kernel_rfl
theorem by92 : byT Tryz.prog 92 = some 0 := by kernel_rfl
theorem sz93 : szT Tryz.prog 93 = some 1 := by kernel_rfl
theorem by93 : byT Tryz.prog 93 = some 8 := by kernel_rfl
theorem sz94 : szT Tryz.prog 94 = some 1 := by kernel_rfl
theorem by94 : byT Tryz.prog 94 = some 8 := by kernel_rfl
theorem sz95 : szT Tryz.prog 95 = some 1 := by kernel_rfl
theorem by95 : byT Tryz.prog 95 = some 8 := by kernel_rfl
theorem sz96 : szT Tryz.prog 96 = some 1 := by kernel_rfl
theorem by96 : byT Tryz.prog 96 = some 8 := by kernel_rfl
theorem sz97 : szT Tryz.prog 97 = some 1 := by kernel_rfl
theorem by97 : byT Tryz.prog 97 = some 8 := by kernel_rfl
theorem sz98 : szT Tryz.prog 98 = some 1 := by kernel_rfl
theorem by98 : byT Tryz.prog 98 = some 8 := by kernel_rfl
theorem zc98 : zcells Tryz.prog 98 = some (([.int .i64 0] : List PV)) := by kernel_rfl
theorem sz99 : szT Tryz.prog 99 = some 1 := by kernel_rfl
theorem by99 : byT Tryz.prog 99 = some 0 := by kernel_rfl
theorem sz100 : szT Tryz.prog 100 = some 1 := by kernel_rfl
theorem by100 : byT Tryz.prog 100 = some 8 := by kernel_rfl
theorem sz101 : szT Tryz.prog 101 = some 1 := by kernel_rfl
theorem by101 : byT Tryz.prog 101 = some 8 := by kernel_rfl
theorem sz102 : szT Tryz.prog 102 = some 1 := by kernel_rfl
theorem by102 : byT Tryz.prog 102 = some 8 := by kernel_rfl
theorem sz103 : szT Tryz.prog 103 = some 1 := by kernel_rfl
theorem by103 : byT Tryz.prog 103 = some 0 := by kernel_rfl
theorem sz104 : szT Tryz.prog 104 = some 1 := by kernel_rfl
theorem by104 : byT Tryz.prog 104 = some 8 := by kernel_rfl
theorem sz105 : szT Tryz.prog 105 = some 1 := by kernel_rfl
theorem by105 : byT Tryz.prog 105 = some 8 := by kernel_rfl
theorem sz106 : szT Tryz.prog 106 = some 1 := by kernel_rfl
theorem by106 : byT Tryz.prog 106 = some 4 := by kernel_rfl
theorem zc106 : zcells Tryz.prog 106 = some (([.int .u32 0] : List PV)) := by kernel_rfl
theorem sz107 : szT Tryz.prog 107 = some 1 := by kernel_rfl
theorem by107 : byT Tryz.prog 107 = some 8 := by kernel_rfl
theorem sz108 : szT Tryz.prog 108 = some 1 := by kernel_rfl
theorem by108 : byT Tryz.prog 108 = some 8 := by kernel_rfl
theorem zc108 : zcells Tryz.prog 108 = some (([.int .u64 0] : List PV)) := by kernel_rfl
theorem sz109 : szT Tryz.prog 109 = some 1 := by kernel_rfl
theorem by109 : byT Tryz.prog 109 = some 8 := by kernel_rfl
theorem zc109 : zcells Tryz.prog 109 = some (([.nilp] : List PV)) := by kernel_rfl
theorem sz110 : szT Tryz.prog 110 = some 1 := by kernel_rfl
theorem by110 : byT Tryz.prog 110 = some 0 := by kernel_rfl
theorem sz111 : szT Tryz.prog 111 = some 1 := by kernel_rfl
theorem by111 : byT Tryz.prog 111 = some 8 := by kernel_rfl
theorem sz112 : szT Tryz.prog 112 = some 1 := by kernel_rfl
theorem by112 : byT Tryz.prog 112 = some 8 := by kernel_rfl
theorem sz113 : szT Tryz.prog 113 = some 1 := by kernel_rfl
theorem by113 : byT Tryz.prog 113 = some 8 := by kernel_rfl
theorem sz114 : szT Tryz.prog 114 = some 1 := by kernel_rfl
theorem by114 : byT Tryz.prog 114 = some 8 := by kernel_rfl
theorem sz115 : szT Tryz.prog 115 = some 1 := by kernel_rfl
theorem by115 : byT Tryz.prog 115 = some 0 := by kernel_rfl
theorem sz116 : szT Tryz.prog 116 = some 1 := by kernel_rfl
theorem by116 : byT Tryz.prog 116 = some 8 := by kernel_rfl
theorem sz117 : szT Tryz.prog 117 = some 1 := by kernel_rfl
theorem by117 : byT Tryz.prog 117 = some 8 := by kernel_rfl
theorem sz118 : szT Tryz.prog 118 = some 1 := by kernel_rfl
theorem by118 : byT Tryz.prog 118 = some 8 := by kernel_rfl
theorem sz119 : szT Tryz.prog 119 = some 1 := by kernel_rfl
theorem by119 : byT Tryz.prog 119 = some 0 := by kernel_rfl
theorem sz120 : szT Tryz.prog 120 = some 1 := by kernel_rfl
theorem by120 : byT Tryz.prog 120 = some 8 := by kernel_rfl
theorem sz121 : szT Tryz.prog 121 = some 1 := by kernel_rfl
theorem by121 : byT Tryz.prog 121 = some 8 := by kernel_rfl
theorem sz122 : szT Tryz.prog 122 = some 1 := by kernel_rfl
theorem by122 : byT Tryz.prog 122 = some 8 := by kernel_rfl
theorem sz123 : szT Tryz.prog 123 = some 1 := by kernel_rfl
theorem by123 : byT Tryz.prog 123 = some 8 := by kernel_rfl
theorem sz124 : szT Tryz.prog 124 = some 1 := by kernel_rfl
theorem by124 : byT Tryz.prog 124 = some 8 := by kernel_rfl
theorem sz125 : szT Tryz.prog 125 = some 1 := by kernel_rfl
theorem by125 : byT Tryz.prog 125 = some 8 := by kernel_rfl
theorem sz126 : szT Tryz.prog 126 = some 1 := by kernel_rfl
theorem by126 : byT Tryz.prog 126 = some 8 := by kernel_rfl
theorem sz127 : szT Tryz.prog 127 = some 1 := by kernel_rfl
theorem by127 : byT Tryz.prog 127 = some 8 := by kernel_rfl
theorem zc127 : zcells Tryz.prog 127 = some (([.nilp] : List PV)) := by kernel_rfl
theorem sz128 : szT Tryz.prog 128 = some 1 := by kernel_rfl
theorem by128 : byT Tryz.prog 128 = some 0 := by kernel_rfl
theorem sz129 : szT Tryz.prog 129 = some 1 := by kernel_rfl
theorem by129 : byT Tryz.prog 129 = some 8 := by kernel_rfl
theorem sz130 : szT Tryz.prog 130 = some 2 := by kernel_rfl
theorem by130 : byT Tryz.prog 130 = some 16 := by kernel_rfl
theorem zc130 : zcells Tryz.prog 130 = some (([.nilp, .int .i64 0] : List PV)) := by kernel_rfl
theorem sz131 : szT Tryz.prog 131 = some 2 := by kernel_rfl
theorem by131 : byT Tryz.prog 131 = some 16 := by kernel_rfl
theorem zc131 : zcells Tryz.prog 131 = some (([.nilp, .int .i64 0] : List PV)) := by kernel_rfl
theorem sz132 : szT Tryz.prog 132 = some 1 := by kernel_rfl
theorem by132 : byT Tryz.prog 132 = some 8 := by kernel_rfl
theorem sz133 : szT Tryz.prog 133 = some 1 := by kernel_rfl
theorem by133 : byT Tryz.prog 133 = some 8 := by kernel_rfl
theorem sz134 : szT Tryz.prog 134 = some 1 := by kernel_rfl
theorem by134 : byT Tryz.prog 134 = some 8 := by kernel_rfl
theorem zc134 : zcells Tryz.prog 134 = some (([.int .u64 0] : List PV)) := by kernel_rfl
theorem sz135 : szT Tryz.prog 135 = some 1 := by kernel_rfl
theorem by135 : byT Tryz.prog 135 = some 8 := by kernel_rfl
theorem sz136 : szT Tryz.prog 136 = some 1 := by kernel_rfl
theorem by136 : byT Tryz.prog 136 = some 8 := by kernel_rfl
theorem sz137 : szT Tryz.prog 137 = some 1 := by kernel_rfl
theorem by137 : byT Tryz.prog 137 = some 8 := by kernel_rfl
theorem sz138 : szT Tryz.prog 138 = some 1 := by kernel_rfl
theorem by138 : byT Tryz.prog 138 = some 8 := by kernel_rfl
theorem zc138 : zcells Tryz.prog 138 = some (([.nilp] : List PV)) := by kernel_rfl
theorem sz139 : szT Tryz.prog 139 = some 1 := by kernel_rfl
theorem by139 : byT Tryz.prog 139 = some 8 := by kernel_rfl
theorem sz140 : szT Tryz.prog 140 = some 1 := by kernel_rfl
theorem by140 : byT Tryz.prog 140 = some 8 := by kernel_rfl
theorem sz141 : szT Tryz.prog 141 = some 2 := by kernel_rfl
theorem by141 : byT Tryz.prog 141 = some 32 := by kernel_rfl
theorem zc141 : zcells Tryz.prog 141 = some (([.slice [] 0 true, .int .i64 0] : List PV)) := by kernel_rfl
theorem sz142 : szT Tryz.prog 142 = some 2 := by kernel_rfl
theorem by142 : byT Tryz.prog 142 = some 32 := by kernel_rfl
theorem zc142 : zcells Tryz.prog 142 = some (([.slice [] 0 true, .int .i64 0] : List PV)) := by kernel_rfl
theorem sz143 : szT Tryz.prog 143 = some 64 := by kernel_rfl
theorem by143 : byT Tryz.prog 143 = some 512 := by kernel_rfl
theorem zc143 : zcells Tryz.prog 143 = some ((List.replicate 64 (PV.int .i64 0) : List PV)) := by kernel_rfl
theorem sz144 : szT Tryz.prog 144 = some 1 := by kernel_rfl
theorem by144 : byT Tryz.prog 144 = some 8 := by kernel_rfl
theorem sz145 : szT Tryz.prog 145 = some 1 := by kernel_rfl
theorem by145 : byT Tryz.prog 145 = some 8 := by kernel_rfl
theorem sz146 : szT Tryz.prog 146 = some 1 := by kernel_rfl
theorem by146 : byT Tryz.prog 146 = some 8 := by kernel_rfl
theorem sz147 : szT Tryz.prog 147 = some 1 := by kernel_rfl
theorem by147 : byT Tryz.prog 147 = some 8 := by kernel_rfl
theorem sz148 : szT Tryz.prog 148 = some 1 := by kernel_rfl
theorem by148 : byT Tryz.prog 148 = some 8 := by kernel_rfl
theorem sz149 : szT Tryz.prog 149 = some 1 := by kernel_rfl
theorem by149 : byT Tryz.prog 149 = some 8 := by kernel_rfl
theorem zc149 : zcells Tryz.prog 149 = some (([.nilp] : List PV)) := by kernel_rfl
theorem sz150 : szT Tryz.prog 150 = some 1 := by kernel_rfl
theorem by150 : byT Tryz.prog 150 = some 8 := by kernel_rfl
theorem sz151 : szT Tryz.prog 151 = some 1 := by kernel_rfl
theorem by151 : byT Tryz.prog 151 = some 8 := by kernel_rfl
theorem sz152 : szT Tryz.prog 152 = some 1 := by kernel_rfl
theorem by152 : byT Tryz.prog 152 = some 8 := by kernel_rfl
theorem sz153 : szT Tryz.prog 153 = some 1 := by kernel_rfl
theorem by153 : byT Tryz.prog 153 = some 8 := by kernel_rfl
theorem sz154 : szT Tryz.prog 154 = some 1 := by kernel_rfl
theorem by154 : byT Tryz.prog 154 = some 8 := by kernel_rfl
theorem sz155 : szT Tryz.prog 155 = some 1 := by kernel_rfl
theorem by155 : byT Tryz.prog 155 = some 24 := by kernel_rfl
theorem zc155 : zcells Tryz.prog 155 = some (([.slice [] 0 true] : List PV)) := by kernel_rfl
theorem sz156 : szT Tryz.prog 156 = some 3 := by kernel_rfl
theorem by156 : byT Tryz.prog 156 = some 40 := by kernel_rfl
theorem zc156 : zcells Tryz.prog 156 = some (([.slice [] 0 true, .int .i64 0, .int .i64 0] : List PV)) := by kernel_rfl
theorem sz157 : szT Tryz.prog 157 = some 3 := by kernel_rfl
theorem by157 : byT Tryz.prog 157 = some 40 := by kernel_rfl
theorem zc157 : zcells Tryz.prog 157 = some (([.slice [] 0 true, .int .i64 0, .int .i64 0] : List PV)) := by kernel_rfl
theorem sz158 : szT Tryz.prog 158 = some 1 := by kernel_rfl
theorem by158 : byT Tryz.prog 158 = some 8 := by kernel_rfl
theorem sz159 : szT Tryz.prog 159 = some 1 := by kernel_rfl
theorem by159 : byT Tryz.prog 159 = some 8 := by kernel_rfl
theorem zc159 : zcells Tryz.prog 159 = some (([.nilp] : List PV)) := by kernel_rfl
theorem sz160 : szT Tryz.prog 160 = some 1 := by kernel_rfl
theorem by160 : byT Tryz.prog 160 = some 8 := by kernel_rfl
theorem zc160 : zcells Tryz.prog 160 = some (([.nilp] : List PV)) := by kernel_rfl
theorem sz161 : szT Tryz.prog 161 = some 1 := by kernel_rfl
theorem by161 : byT Tryz.prog 161 = some 0 := by kernel_rfl
theorem sz162 : szT Tryz.prog 162 = some 1 := by kernel_rfl
theorem by162 : byT Tryz.prog 162 = some 8 := by kernel_rfl
theorem sz163 : szT Tryz.prog 163 = some 1 := by kernel_rfl
theorem by163 : byT Tryz.prog 163 = some 8 := by kernel_rfl
theorem sz164 : szT Tryz.prog 164 = some 1 := by kernel_rfl
theorem by164 : byT Tryz.prog 164 = some 8 := by kernel_rfl
theorem sz165 : szT Tryz.prog 165 = some 1 := by kernel_rfl
theorem by165 : byT Tryz.prog 165 = some 8 := by kernel_rfl
theorem sz166 : szT Tryz.prog 166 = some 2 := by kernel_rfl
theorem by166 : byT Tryz.prog 166 = some 32 := by kernel_rfl
theorem zc166 : zcells Tryz.prog 166 = some (([.slice [] 0 true, .int .i64 0] : List PV)) := by kernel_rfl
theorem sz167 : szT Tryz.prog 167 = some 2 := by kernel_rfl
theorem by167 : byT Tryz.prog 167 = some 32 := by kernel_rfl
theorem zc167 : zcells Tryz.prog 167 = some (([.slice [] 0 true, .int .i64 0] : List PV)) := by kernel_rfl
theorem sz168 : szT Tryz.prog 168 = some 1 := by kernel_rfl
theorem by168 : byT Tryz.prog 168 = some 8 := by kernel_rfl
theorem sz169 : szT Tryz.prog 169 = some 1 := by kernel_rfl
theorem by169 : byT Tryz.prog 169 = some 8 := by kernel_rfl
theorem sz170 : szT Tryz.prog 170 = some 1 := by kernel_rfl
theorem by170 : byT Tryz.prog 170 = some 8 := by kernel_rfl
theorem sz171 : szT Tryz.prog 171 = some 1 := by kernel_rfl
theorem by171 : byT Tryz.prog 171 = some 8 := by kernel_rfl
theorem sz172 : szT Tryz.prog 172 = some 1 := by kernel_rfl
theorem by172 : byT Tryz.prog 172 = some 24 := by kernel_rfl
theorem zc172 : zcells Tryz.prog 172 = some (([.slice [] 0 true] : List PV)) := by kernel_rfl
theorem sz173 : szT Tryz.prog 173 = some 1 := by kernel_rfl
theorem by173 : byT Tryz.prog 173 = some 8 := by kernel_rfl
theorem sz174 : szT Tryz.prog 174 = some 1 := by kernel_rfl
theorem by174 : byT Tryz.prog 174 = some 8 := by kernel_rfl
theorem sz175 : szT Tryz.prog 175 = some 1 := by kernel_rfl
theorem by175 : byT Tryz.prog 175 = some 8 := by kernel_rfl
theorem sz176 : szT Tryz.prog 176 = some 1 := by kernel_rfl
theorem by176 : byT Tryz.prog 176 = some 8 := by kernel_rfl
theorem sz177 : szT Tryz.prog 177 = some 1 := by kernel_rfl
theorem by177 : byT Tryz.prog 177 = some 8 := by kernel_rfl
theorem sz178 : szT Tryz.prog 178 = some 1 := by kernel_rfl
theorem by178 : byT Tryz.prog 178 = some 8 := by kernel_rfl
theorem sz179 : szT Tryz.prog 179 = some 1 := by kernel_rfl
theorem by179 : byT Tryz.prog 179 = some 8 := by kernel_rfl
theorem sz180 : szT Tryz.prog 180 = some 1 := by kernel_rfl
theorem by180 : byT Tryz.prog 180 = some 8 := by kernel_rfl
theorem sz181 : szT Tryz.prog 181 = some 1 := by kernel_rfl
theorem by181 : byT Tryz.prog 181 = some 8 := by kernel_rfl
theorem sz182 : szT Tryz.prog 182 = some 1 := by kernel_rfl
theorem by182 : byT Tryz.prog 182 = some 8 := by kernel_rfl
theorem sz183 : szT Tryz.prog 183 = some 4 := by kernel_rfl
theorem by183 : byT Tryz.prog 183 = some 40 := by kernel_rfl
theorem zc183 : zcells Tryz.prog 183 = some (([.nilp, .nilp, .nilp, .str []] : List PV)) := by kernel_rfl
theorem sz184 : szT Tryz.prog 184 = some 4 := by kernel_rfl
theorem by184 : byT Tryz.prog 184 = some 40 := by kernel_rfl
theorem zc184 : zcells Tryz.prog 184 = some (([.nilp, .nilp, .nilp, .str []] : List PV)) := by kernel_rfl
theorem sz185 : szT Tryz.prog 185 = some 0 := by kernel_rfl
theorem by185 : byT Tryz.prog 185 = some 0 := by kernel_rfl
theorem zc185 : zcells Tryz.prog 185 = some (([] : List PV)) := by kernel_rfl
theorem sz186 : szT Tryz.prog 186 = some 0 := by kernel_rfl
theorem by186 : byT Tryz.prog 186 = some 0 := by kernel_rfl
theorem zc186 : zcells Tryz.prog 186 = some (([] : List PV)) := by kernel_rfl
theorem sz187 : szT Tryz.prog 187 = some 0 := by kernel_rfl
theorem by187 : byT Tryz.prog 187 = some 0 := by kernel_rfl
theorem zc187 : zcells Tryz.prog 187 = some (([] : List PV)) := by kernel_rfl
theorem sz188 : szT Tryz.prog 188 = some 1 := by kernel_rfl
theorem by188 : byT Tryz.prog 188 = some 1 := by kernel_rfl
theorem zc188 : zcells Tryz.prog 188 = some (([.int .u8 0] : List PV)) := by kernel_rfl
theorem sz189 : szT Tryz.prog 189 = some 1 := by kernel_rfl
theorem by189 : byT Tryz.prog 189 = some 1 := by kernel_rfl
theorem zc189 : zcells Tryz.prog 189 = some (([.int .u8 0] : List PV)) := by kernel_rfl
theorem sz190 : szT Tryz.prog 190 = some 1 := by kernel_rfl
theorem by190 : byT Tryz.prog 190 = some 8 := by kernel_rfl
theorem sz191 : szT Tryz.prog 191 = some 1 := by kernel_rfl
theorem by191 : byT Tryz.prog 191 = some 8 := by kernel_rfl
theorem zc191 : zcells Tryz.prog 191 = some (([.nilp] : List PV)) := by kernel_rfl
theorem sz192 : szT Tryz.prog 192 = some 1 := by kernel_rfl
theorem by192 : byT Tryz.prog 192 = some 4 := by kernel_rfl
theorem zc192 : zcells Tryz.prog 192 = some (([.int .i32 0] : List PV)) := by kernel_rfl
theorem sz193 : szT Tryz.prog 193 = some 1 := by kernel_rfl
theorem by193 : byT Tryz.prog 193 = some 4 := by kernel_rfl
theorem zc193 : zcells Tryz.prog 193 = some (([.int .i32 0] : List PV)) := by kernel_rfl
theorem sz194 : szT Tryz.prog 194 = some 11 := by kernel_rfl
theorem by194 : byT Tryz.prog 194 = some 48 := by kernel_rfl
theorem sz195 : szT Tryz.prog 195 = some 11 := by kernel_rfl
theorem by195 : byT Tryz.prog 195 = some 48 := by kernel_rfl
theorem sz196 : szT Tryz.prog 196 = some 1 := by kernel_rfl
theorem by196 : byT Tryz.prog 196 = some 8 := by kernel_rfl
theorem zc196 : zcells Tryz.prog 196 = some (([.nilp] : List PV)) := by kernel_rfl
theorem mix : Tryz.prog.follows .mixedOrders = true := by kernel_rfl
attribute [go_sem] sz0 sz1 sz2 sz3 sz4 sz5 sz6 sz7 sz8 sz9 sz10 sz11 sz12 sz13 sz14 sz15 sz16 sz17 sz18 sz19 sz20 sz21 sz22 sz23 sz24 sz25 sz26 sz27 sz28 sz29 sz30 sz31 sz32 sz33 sz34 sz35 sz36 sz37 sz38 sz39
attribute [go_sem] sz40 sz41 sz42 sz43 sz44 sz45 sz46 sz47 sz48 sz49 sz50 sz51 sz52 sz53 sz54 sz55 sz56 sz57 sz58 sz59 sz60 sz61 sz62 sz63 sz64 sz65 sz66 sz67 sz68 sz69 sz70 sz71 sz72 sz73 sz74 sz75 sz76 sz77 sz78 sz79
attribute [go_sem] sz80 sz81 sz82 sz83 sz84 sz85 sz86 sz87 sz88 sz89 sz90 sz91 sz92 sz93 sz94 sz95 sz96 sz97 sz98 sz99 sz100 sz101 sz102 sz103 sz104 sz105 sz106 sz107 sz108 sz109 sz110 sz111 sz112 sz113 sz114 sz115 sz116 sz117 sz118 sz119
attribute [go_sem] sz120 sz121 sz122 sz123 sz124 sz125 sz126 sz127 sz128 sz129 sz130 sz131 sz132 sz133 sz134 sz135 sz136 sz137 sz138 sz139 sz140 sz141 sz142 sz143 sz144 sz145 sz146 sz147 sz148 sz149 sz150 sz151 sz152 sz153 sz154 sz155 sz156 sz157 sz158 sz159
attribute [go_sem] sz160 sz161 sz162 sz163 sz164 sz165 sz166 sz167 sz168 sz169 sz170 sz171 sz172 sz173 sz174 sz175 sz176 sz177 sz178 sz179 sz180 sz181 sz182 sz183 sz184 sz185 sz186 sz187 sz188 sz189 sz190 sz191 sz192 sz193 sz194 sz195 sz196 by0 by1 by2
attribute [go_sem] by3 by4 by5 by6 by7 by8 by9 by10 by11 by12 by13 by14 by15 by16 by17 by18 by19 by20 by21 by22 by23 by24 by25 by26 by27 by28 by29 by30 by31 by32 by33 by34 by35 by36 by37 by38 by39 by40 by41 by42
attribute [go_sem] by43 by44 by45 by46 by47 by48 by49 by50 by51 by52 by53 by54 by55 by56 by57 by58 by59 by60 by61 by62 by63 by64 by65 by66 by67 by68 by69 by70 by71 by72 by73 by74 by75 by76 by77 by78 by79 by80 by81 by82
attribute [go_sem] by83 by84 by85 by86 by87 by88 by89 by90 by91 by92 by93 by94 by95 by96 by97 by98 by99 by100 by101 by102 by103 by104 by105 by106 by107 by108 by109 by110 by111 by112 by113 by114 by115 by116 by117 by118 by119 by120 by121 by122
attribute [go_sem] by123 by124 by125 by126 by127 by128 by129 by130 by131 by132 by133 by134 by135 by136 by137 by138 by139 by140 by141 by142 by143 by144 by145 by146 by147 by148 by149 by150 by151 by152 by153 by154 by155 by156 by157 by158 by159 by160 by161 by162
attribute [go_sem] by163 by164 by165 by166 by167 by168 by169 by170 by171 by172 by173 by174 by175 by176 by177 by178 by179 by180 by181 by182 by183 by184 by185 by186 by187 by188 by189 by190 by191 by192 by193 by194 by195 by196 zc2 zc3 zc4 zc5 zc6 zc7
attribute [go_sem] zc8 zc9 zc10 zc11 zc12 zc13 zc14 zc15 zc16 zc17 zc18 zc19 zc21 zc22 zc23 zc24 zc25 zc28 zc35 zc38 zc39 zc40 zc41 zc42 zc43 zc45 zc46 zc47 zc48 zc49 zc50 zc51 zc52 zc53 zc54 zc55 zc56 zc57 zc58 zc59
attribute [go_sem] zc60 zc61 zc65 zc68 zc72 zc74 zc82 zc87 zc98 zc106 zc108 zc109 zc127 zc130 zc131 zc134 zc138 zc141 zc142 zc143 zc149 zc155 zc156 zc157 zc159 zc160 zc166 zc167 zc172 zc183 zc184 zc185 zc186 zc187 zc188 zc189 zc191 zc192 zc193 zc196
attribute [go_sem] Tryz.underlying0 Tryz.underlying1 Tryz.underlying2 Tryz.underlying3 Tryz.underlying4 Tryz.underlying5 Tryz.underlying6 Tryz.underlying7 Tryz.underlying8 Tryz.underlying9 Tryz.underlying10 Tryz.underlying11 Tryz.underlying12 Tryz.underlying13 Tryz.underlying14 Tryz.underlying15 Tryz.underlying16 Tryz.underlying17 Tryz.underlying18 Tryz.underlying19 Tryz.underlying20 Tryz.underlying21 Tryz.underlying22 Tryz.underlying23 Tryz.underlying24 Tryz.underlying25 Tryz.underlying26 Tryz.underlying27 Tryz.underlying28 Tryz.underlying29 Tryz.underlying30 Tryz.underlying31 Tryz.underlying32 Tryz.underlying33 Tryz.underlying34 Tryz.underlying35 Tryz.underlying36 Tryz.underlying37 Tryz.underlying38 Tryz.underlying39
attribute [go_sem] Tryz.underlying40 Tryz.underlying41 Tryz.underlying42 Tryz.underlying43 Tryz.underlying44 Tryz.underlying45 Tryz.underlying46 Tryz.underlying47 Tryz.underlying48 Tryz.underlying49 Tryz.underlying50 Tryz.underlying51 Tryz.underlying52 Tryz.underlying53 Tryz.underlying54 Tryz.underlying55 Tryz.underlying56 Tryz.underlying57 Tryz.underlying58 Tryz.underlying59 Tryz.underlying60 Tryz.underlying61 Tryz.underlying62 Tryz.underlying63 Tryz.underlying64 Tryz.underlying65 Tryz.underlying66 Tryz.underlying67 Tryz.underlying68 Tryz.underlying69 Tryz.underlying70 Tryz.underlying71 Tryz.underlying72 Tryz.underlying73 Tryz.underlying74 Tryz.underlying75 Tryz.underlying76 Tryz.underlying77 Tryz.underlying78 Tryz.underlying79
attribute [go_sem] Tryz.underlying80 Tryz.underlying81 Tryz.underlying82 Tryz.underlying83 Tryz.underlying84 Tryz.underlying85 Tryz.underlying86 Tryz.underlying87 Tryz.underlying88 Tryz.underlying89 Tryz.underlying90 Tryz.underlying91 Tryz.underlying92 Tryz.underlying93 Tryz.underlying94 Tryz.underlying95 Tryz.underlying96 Tryz.underlying97 Tryz.underlying98 Tryz.underlying99 Tryz.underlying100 Tryz.underlying101 Tryz.underlying102 Tryz.underlying103 Tryz.underlying104 Tryz.underlying105 Tryz.underlying106 Tryz.underlying107 Tryz.underlying108 Tryz.underlying109 Tryz.underlying110 Tryz.underlying111 Tryz.underlying112 Tryz.underlying113 Tryz.underlying114 Tryz.underlying115 Tryz.underlying116 Tryz.underlying117 Tryz.underlying118 Tryz.underlying119
attribute [go_sem] Tryz.underlying120 Tryz.underlying121 Tryz.underlying122 Tryz.underlying123 Tryz.underlying124 Tryz.underlying125 Tryz.underlying126 Tryz.underlying127 Tryz.underlying128 Tryz.underlying129 Tryz.underlying130 Tryz.underlying131 Tryz.underlying132 Tryz.underlying133 Tryz.underlying134 Tryz.underlying135 Tryz.underlying136 Tryz.underlying137 Tryz.underlying138 Tryz.underlying139 Tryz.underlying140 Tryz.underlying141 Tryz.underlying142 Tryz.underlying143 Tryz.underlying144 Tryz.underlying145 Tryz.underlying146 Tryz.underlying147 Tryz.underlying148 Tryz.underlying149 Tryz.underlying150 Tryz.underlying151 Tryz.underlying152 Tryz.underlying153 Tryz.underlying154 Tryz.underlying155 Tryz.underlying156 Tryz.underlying157 Tryz.underlying158 Tryz.underlying159
attribute [go_sem] Tryz.underlying160 Tryz.underlying161 Tryz.underlying162 Tryz.underlying163 Tryz.underlying164 Tryz.underlying165 Tryz.underlying166 Tryz.underlying167 Tryz.underlying168 Tryz.underlying169 Tryz.underlying170 Tryz.underlying171 Tryz.underlying172 Tryz.underlying173 Tryz.underlying174 Tryz.underlying175 Tryz.underlying176 Tryz.underlying177 Tryz.underlying178 Tryz.underlying179 Tryz.underlying180 Tryz.underlying181 Tryz.underlying182 Tryz.underlying183 Tryz.underlying184 Tryz.underlying185 Tryz.underlying186 Tryz.underlying187 Tryz.underlying188 Tryz.underlying189 Tryz.underlying190 Tryz.underlying191 Tryz.underlying192 Tryz.underlying193 Tryz.underlying194 Tryz.underlying195 Tryz.underlying196 Tryz.eqGuardType49 Tryz.eqGuardType143 Tryz.eqGuardType185
end Go.Proofs.YtbhdollgohgkgaaGreatDoor.Ty

namespace Go.Proofs.YtbhdollgohgkgaaGreatDoor.Sc
set_option linter.all false
set_option linter.unusedVariables false
set_option linter.unusedSimpArgs false
open Pm Ty Go.RowKit

/-- Bytes as cells. -/
def bs (p : List UInt8) : List PV := p.map fun b => .int .u8 (b.toNat : Int)
theorem length_bs (p : List UInt8) : (bs p).length = p.length := by simp [bs]
def byt (p : List UInt8) (k : Nat) : Int := ((p.getD k 0).toNat : Int)
theorem byt_range (p : List UInt8) (k : Nat) : 0 ≤ byt p k ∧ byt p k ≤ 255 := by
  unfold byt
  have := (p.getD k 0).toNat_lt
  omega
theorem bs_get (p : List UInt8) (k : Nat) (h : k < p.length) : (bs p)[k]? = some (.int .u8 (byt p k)) := by
  simp [bs, byt, h]
theorem pbytes_bs (p : List UInt8) : pbytes (bs p) = some p := by
  unfold pbytes bs
  induction p with
  | nil => rfl
  | cons b p ih => simp [List.mapM_cons, Pm.byteOf, ih]
theorem bs_append (p q : List UInt8) : bs (p ++ q) = bs p ++ bs q := by simp [bs]
theorem bs_still (p : List UInt8) : ∀ x ∈ bs p, Still x := fun x hx => by
  obtain ⟨b, _, rfl⟩ := List.mem_map.1 hx
  exact .int _ _
theorem take_succ_byte (p : List UInt8) (k : Nat) (h : k < p.length) : p.take (k + 1) = p.take k ++ [p.getD k 0] := by
  rw [List.take_succ_eq_append_getElem h]
  simp [h]
theorem bs_rep (n : Nat) : bs (List.replicate n 0) = List.replicate n (.int .u8 0) := by simp [bs]
theorem bs_scoped (n : Nat) (p : List UInt8) : ∀ x ∈ bs p, Scoped n x := fun x hx => by
  obtain ⟨b, _, rfl⟩ := List.mem_map.1 hx
  exact .int _ _
theorem sl_scoped {n k : Nat} {xs : List PV} {f : Bool} (h : ∀ x ∈ xs, Scoped n x) : Scoped n (.slice xs k f) := .slice fun j x hx => h x (List.mem_of_getElem? hx)
theorem ag_scoped {n : Nat} {xs : List PV} (h : ∀ x ∈ xs, Scoped n x) : Scoped n (.agg xs) := .agg fun j x hx => h x (List.mem_of_getElem? hx)
theorem _root_.Go.Proofs.YtbhdollgohgkgaaGreatDoor.Pm.Fz.id' {n : Nat} {H : Heap} {x y : PV} (e : x = y) (h : Scoped n y) : Fz n H x y := e ▸ .id (e ▸ h)
theorem bs_set (b : List UInt8) (i : Nat) (v : UInt8) : (bs b).set i (.int .u8 (v.toNat : Int)) = bs (b.set i v) := by
  simp [bs, List.map_set]
/-- == of two lists of bytes, cell by cell. -/
theorem peqI_bs (k : IntKind) : ∀ (p q : List UInt8), p.length = q.length → peqI (.int k) (bs p) (bs q) = some (p == q)
  | [], [], _ => rfl
  | a :: p, b :: q, h => by
    have ih := peqI_bs k p q (by simpa using h)
    have e : ((a.toNat : Int) == (b.toNat : Int)) = (a == b) := by
      rw [Bool.eq_iff_iff]; simp only [beq_iff_eq]
      exact ⟨fun h => UInt8.toNat_inj.1 (by omega), fun h => by rw [h]⟩
    show (match peqS (.int k) (.int .u8 (a.toNat : Int)) (.int .u8 (b.toNat : Int)) with | some c => (peqI (.int k) (bs p) (bs q)).map fun r => c && r | none => none) = _
    rw [ih]
    simp only [peqS, if_true, Option.map_some, e]
    rfl
  | [], _ :: _, h => by simp at h
  | _ :: _, [], h => by simp at h

theorem tmodN (x y : Nat) : (x : Int).tmod (y : Int) = ((x % y : Nat) : Int) := by rw [Int.tmod_eq_emod_of_nonneg (by omega)]; rfl
theorem tdivN (a b : Nat) : (a : Int).tdiv (b : Int) = ((a / b : Nat) : Int) := rfl
theorem tdiv_pos (a b : Int) (h : 0 ≤ a) : a.tdiv b = a / b := Int.tdiv_eq_ediv_of_nonneg h
theorem wu64 (n : Int) (h : 0 ≤ n ∧ n ≤ 18446744073709551615) : IntKind.u64.wrap n = n := by
  simp only [IntKind.wrap, IntKind.bits, IntKind.signed, Bool.false_and, Bool.false_eq_true, if_false]
  omega
theorem wu64n (n : Int) (h : -18446744073709551616 ≤ n ∧ n < 0) : IntKind.u64.wrap n = n + 18446744073709551616 := by
  simp only [IntKind.wrap, IntKind.bits, IntKind.signed, Bool.false_and, Bool.false_eq_true, if_false]
  omega

/-- A list of ints as cells. -/
def is (l : List Int) : List PV := l.map fun n => .int .i64 n
/-- A list of flags as cells. -/
def fs (l : List Bool) : List PV := l.map fun b => .bool b
/-! ### shifts and bits -/
theorem fdivN (a b : Nat) : (a : Int).fdiv (b : Int) = ((a / b : Nat) : Int) := by
  rw [Int.fdiv_eq_ediv_of_nonneg _ (by omega)]; rfl
theorem pshr_u32 (k' : IntKind) (V s : Nat) (h : s ≤ 32) : pint .shr .u32 (V : Int) k' (s : Int) = some (.int .u32 ((V / 2 ^ s : Nat) : Int)) := by
  simp only [pint, IntKind.bits]
  rw [if_neg (by omega), show min (s : Int).toNat 32 = s by omega, show ((2 : Int) ^ s) = ((2 ^ s : Nat) : Int) by simp, fdivN]
theorem pshr_u8 (k' : IntKind) (V s : Nat) (h : s ≤ 8) : pint .shr .u8 (V : Int) k' (s : Int) = some (.int .u8 ((V / 2 ^ s : Nat) : Int)) := by
  simp only [pint, IntKind.bits]
  rw [if_neg (by omega), show min (s : Int).toNat 8 = s by omega, show ((2 : Int) ^ s) = ((2 ^ s : Nat) : Int) by simp, fdivN]
theorem pand1_u32 (V : Nat) : pint .and .u32 (V : Int) .u32 1 = some (.int .u32 ((V % 2 : Nat) : Int)) := by
  have h0 : (BitVec.ofInt 32 (V : Int) &&& BitVec.ofInt 32 1).toNat = V % 2 := by
    rw [BitVec.ofInt_natCast, BitVec.toNat_and, BitVec.toNat_ofNat, show (BitVec.ofInt 32 1).toNat = 1 by decide, Nat.and_one_is_mod]
    omega
  have : (BitVec.ofInt IntKind.u32.bits (V : Int) &&& BitVec.ofInt IntKind.u32.bits 1).toNat = V % 2 := h0
  simp only [pint, this, if_true]
  rw [w32 _ (by omega)]
theorem pand1_u8 (V : Nat) : pint .and .u8 (V : Int) .u8 1 = some (.int .u8 ((V % 2 : Nat) : Int)) := by
  have h0 : (BitVec.ofInt 8 (V : Int) &&& BitVec.ofInt 8 1).toNat = V % 2 := by
    rw [BitVec.ofInt_natCast, BitVec.toNat_and, BitVec.toNat_ofNat, show (BitVec.ofInt 8 1).toNat = 1 by decide, Nat.and_one_is_mod]
    omega
  have : (BitVec.ofInt IntKind.u8.bits (V : Int) &&& BitVec.ofInt IntKind.u8.bits 1).toNat = V % 2 := h0
  simp only [pint, this, if_true]
  rw [w8 _ (by omega)]
theorem pshl_u8 (k' : IntKind) (V s : Nat) (h : V * 2 ^ s < 256) (hs : s ≤ 8) : pint .shl .u8 (V : Int) k' (s : Int) = some (.int .u8 ((V * 2 ^ s : Nat) : Int)) := by
  simp only [pint, IntKind.bits]
  rw [if_neg (by omega), show min (s : Int).toNat 8 = s by omega, show (V : Int) * (2 : Int) ^ s = ((V * 2 ^ s : Nat) : Int) by simp, w8 _ (by omega)]
theorem or_dis : ∀ a < 256, ∀ s < 8, a % 2 ^ (s + 1) = 0 → (BitVec.ofNat 8 a ||| BitVec.ofNat 8 (2 ^ s)).toNat = a + 2 ^ s := by decide +kernel
/-- A bit is set that was 0. -/
theorem por_u8 (V s c : Nat) (h : V < 256) (hs : s < 8) (hz : V % 2 ^ (s + 1) = 0) (hc : c < 2) : pint .or .u8 (V : Int) .u8 ((c * 2 ^ s : Nat) : Int) = some (.int .u8 ((V + c * 2 ^ s : Nat) : Int)) := by
  have key0 : (BitVec.ofInt 8 (V : Int) ||| BitVec.ofInt 8 ((c * 2 ^ s : Nat) : Int)).toNat = V + c * 2 ^ s := by
    rw [BitVec.ofInt_natCast, BitVec.ofInt_natCast]
    rcases Nat.lt_or_ge c 1 with h0 | h0
    · have : c = 0 := by omega
      subst this
      rw [Nat.zero_mul, BitVec.toNat_or, BitVec.toNat_ofNat, BitVec.toNat_ofNat]
      simp
      omega
    · have : c = 1 := by omega
      subst this
      rw [Nat.one_mul]
      exact or_dis V h s hs hz
  have key : (BitVec.ofInt IntKind.u8.bits (V : Int) ||| BitVec.ofInt IntKind.u8.bits ((c * 2 ^ s : Nat) : Int)).toNat = V + c * 2 ^ s := key0
  have hlt : V + c * 2 ^ s < 256 := by
    have := BitVec.isLt (BitVec.ofInt IntKind.u8.bits (V : Int) ||| BitVec.ofInt IntKind.u8.bits ((c * 2 ^ s : Nat) : Int))
    rw [key] at this
    exact this
  simp only [pint, key, if_true]
  rw [w8 _ (by omega)]

/-- Counting up. -/
theorem cnt {R : Nat → Prop} (n : Nat) (hs : ∀ j, j < n → R (j + 1) → R j) (hl : R n) : ∀ j, j ≤ n → R j := fun j hj => by
  induction hd : n - j using Nat.strongRecOn generalizing j with
  | _ d ih =>
    grind
theorem lt_t {j n : Nat} (h : j < n) : decide ((j : Int) < (n : Int)) = true := decide_eq_true (by omega)
theorem lt_f (n : Nat) : decide ((n : Int) < (n : Int)) = false := decide_eq_false (by omega)

end Go.Proofs.YtbhdollgohgkgaaGreatDoor.Sc
