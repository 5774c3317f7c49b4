/-
  Parts of the proof, put together in one text. No condition.
-/
import Derived.Test.YtahomnplappbpaaGreatDoorV12
namespace Go.Proofs.YtahomnplappbpaaGreatDoor.Pm
set_option linter.all false
set_option linter.unusedVariables false
set_option linter.unusedSimpArgs false
open Go.RowKit

variable {P : Program} {C : Ctx} {H : Heap} {w : World} {F : Fr} {a : Act} {N : Nat}

/-! ### any order, over any step relation -/
def RunG (E : Oper → (Nat → PV) → Heap → PV → Heap → Prop) : List Oper → (Nat → PV) → Heap → ((Nat → PV) → Heap → Prop) → Prop
  | [], f, H, K => K f H
  | o :: r, f, H, K => ∃ v H', E o f H v H' ∧ RunG E r (upd f o.dst v) H' K
def SwapG (E : Oper → (Nat → PV) → Heap → PV → Heap → Prop) (cmp : Oper → Oper → Bool) : Prop :=
  ∀ (x o : Oper) (f : Nat → PV) (H : Heap) (vx : PV) (Hx : Heap) (v : PV) (H1 : Heap), cmp x o = true → E x f H vx Hx → E o (upd f x.dst vx) Hx v H1 → ∃ H3, E o f H v H3 ∧ E x (upd f o.dst v) H3 vx H1 ∧ upd (upd f x.dst vx) o.dst v = upd (upd f o.dst v) x.dst vx
def StepG (P : Program) (N : Nat) (ops : Array Oper) (E : Oper → (Nat → PV) → Heap → PV → Heap → Prop) : Prop :=
  ∀ (o : Oper) (f : Nat → PV) (H : Heap) (v : PV) (H' : Heap) (C : Ctx) (a : Act) (w : World), dstOk N o = true → WRel C H w → FRel C N f a → E o f H v H' →
    (Region.wanted o (yielded ops a.tmps) = false ∧ v = .tup [] ∧ H' = H) ∨
    (Region.wanted o (yielded ops a.tmps) = true ∧ ∀ (next : Act → World → Prop) (Q : Exit → Act → World → Prop), (∀ C' u w', CLe C C' → WRel C' H' w' → Below C.B w w' → FRel C' N (upd f o.dst v) (a.put o.dst u) → next (a.put o.dst u) w') → o.wp P a w next Q)
theorem RunG.front {E : Oper → (Nat → PV) → Heap → PV → Heap → Prop} {cmp : Oper → Oper → Bool} {K : (Nat → PV) → Heap → Prop} {o : Oper} {l2 : List Oper} (hs : SwapG E cmp) : ∀ (l1 : List Oper) (f : Nat → PV) (H : Heap), RunG E (l1 ++ o :: l2) f H K → (∀ x ∈ l1, cmp x o = true) →
    ∃ v H1, E o f H v H1 ∧ RunG E (l1 ++ l2) (upd f o.dst v) H1 K
  | [], f, H, h, _ => h
  | x :: l1, f, H, h, hc => by
    obtain ⟨vx, Hx, hx, hr⟩ := h
    obtain ⟨v, H1, ho, hr2⟩ := RunG.front hs l1 _ _ hr (fun y hy => hc y (List.mem_cons_of_mem _ hy))
    obtain ⟨H3, g1, g2, g3⟩ := hs x o f H vx Hx v H1 (hc x (List.mem_cons_self ..)) hx ho
    exact ⟨v, H3, g1, vx, H1, g2, g3 ▸ hr2⟩
def drawG (cmp : Oper → Oper → Bool) (ms : List Nat) (N : Nat) (ops : List Oper) (i : Nat) : Bool := match ops[i]? with
  | none => false
  | some o => dstOk N o && (bnd o).all (fun j => Nat.blt j i) && (Nat.beq (ms.getD i 0) (maskStep ms o)) && (List.range i).all fun j => (ms.getD i 0).testBit j || (match ops[j]? with | some x => cmp x o | none => false)
def drawGs (cmp : Oper → Oper → Bool) (N : Nat) (ops : List Oper) : Bool := (List.range ops.length).all (drawG cmp (masks ops) N ops)

theorem drawG_of {cmp : Oper → Oper → Bool} {ms : List Nat} {ops : List Oper} {i : Nat} {o : Oper} (ho : ops[i]? = some o) (h : drawG cmp ms N ops i = true) :
    dstOk N o = true ∧ (∀ j ∈ bnd o, j < i) ∧ ms.getD i 0 = maskStep ms o ∧ ∀ j, j < i → (ms.getD i 0).testBit j = true ∨ ∃ x, ops[j]? = some x ∧ cmp x o = true := by
  unfold drawG at h
  simp only [ho, Bool.and_eq_true, List.all_eq_true, List.mem_range, Bool.or_eq_true] at h
  obtain ⟨⟨⟨h1, h2⟩, h3⟩, h4⟩ := h
  refine ⟨h1, fun j hj => by simpa [Nat.blt_eq] using h2 j hj, Nat.eq_of_beq_eq_true h3, fun j hj => ?_⟩
  rcases h4 j hj with h | h
  · exact .inl h
  · split at h
    · rename_i x hx; exact .inr ⟨x, hx, h⟩
    · cases h

theorem maskG_in {cmp : Oper → Oper → Bool} {ms : List Nat} {ops : List Oper} (hall : ∀ i, i < ops.length → drawG cmp ms N ops i = true) {S : Nat → Prop} (down : ∀ i o, ops[i]? = some o → S i → ∀ j ∈ bnd o, S j) :
    ∀ (i : Nat) (o : Oper), ops[i]? = some o → (∀ j ∈ bnd o, S j) → ∀ j, (ms.getD i 0).testBit j = true → S j := by
  intro i
  induction i using Nat.strongRecOn with
  | _ i ih =>
    intro o ho hp j hj
    have hi := (List.getElem?_eq_some_iff.1 ho).1
    obtain ⟨_, h2, h3, _⟩ := drawG_of ho (hall i hi)
    rw [h3, maskStep] at hj
    rcases fold_bits ms j _ _ hj with h | ⟨k, hk, h⟩
    · simp at h
    · rcases h with h | rfl
      · have hki := h2 k hk
        have hkl : k < ops.length := by omega
        exact ih k hki ops[k] (List.getElem?_eq_getElem hkl) (down k _ (List.getElem?_eq_getElem hkl) (hp k hk)) j h
      · exact hp k hk

theorem any_gen {cmp : Oper → Oper → Bool} {E : Oper → (Nat → PV) → Heap → PV → Heap → Prop} {ops : Array Oper} {Q : Exit → Act → World → Prop} {K : (Nat → PV) → Heap → Prop} (hall : ∀ i, i < ops.toList.length → drawG cmp (masks ops.toList) N ops.toList i = true)
    (hswap : SwapG E cmp) (hstep : StepG P N ops E) :
    ∀ (fuel : Nat) (listed : Array Bool) (f : Nat → PV) (H : Heap) (C : Ctx) (a : Act) (w : World), listed.size = ops.size → (∀ i o, ops[i]? = some o → listed.getD i true = true → ∀ j ∈ bnd o, listed.getD j true = true) →
      fuel = (left ops.size listed).length → RunG E ((left ops.size listed).filterMap fun i => ops[i]?) f H K → a.defers = [] → WRel C H w → FRel C N f a →
      (∀ C' f' H' a' w', CLe C C' → a'.defers = [] → WRel C' H' w' → Below C.B w w' → FRel C' N f' a' → K f' H' → Q .normal a' w') → wpAny P .any ops Q fuel listed a w := by
  have rdy : ∀ (listed : Array Bool) (i : Nat), i ∈ Region.ready .any ops listed ↔ i ∈ left ops.size listed ∧ ∃ o, ops[i]? = some o ∧ ∀ e ∈ o.after.toList, Region.binds .any e = true → listed.getD e.on false = true := by
    intro listed i
    unfold Region.ready
    rw [List.mem_filter, mem_left, List.mem_range]
    constructor
    · rintro ⟨h1, h2⟩
      simp only [Bool.and_eq_true, Bool.not_eq_true'] at h2
      refine ⟨⟨h1, h2.1⟩, ops[i], Array.getElem?_eq_getElem h1, fun e he hb => ?_⟩
      have h3 := h2.2
      rw [Array.getElem?_eq_getElem h1] at h3
      simp only [Option.map_some, Option.getD_some, Array.all_eq_true_iff_forall_mem] at h3
      have := h3 e (Array.mem_toList_iff.1 he)
      simpa [hb] using this
    · rintro ⟨⟨h1, h2⟩, o, ho, h3⟩
      refine ⟨h1, ?_⟩
      simp only [h2, Bool.not_false, Bool.true_and, ho, Option.map_some, Option.getD_some, Array.all_eq_true_iff_forall_mem]
      intro e he
      cases hb : Region.binds .any e with
      | false => rfl
      | true => simp [h3 e (Array.mem_toList_iff.2 he) hb]
  intro fuel
  induction fuel with
  | zero =>
    intro listed f H C a w hsz hdown hfu hr hd hw hf hQ
    have hnil : left ops.size listed = [] := List.eq_nil_of_length_eq_zero hfu.symm
    refine ⟨List.eq_nil_iff_forall_not_mem.2 fun i hi => ?_, ?_⟩
    · have := ((rdy listed i).1 hi).1
      rw [hnil] at this
      simp at this
    · rw [hnil] at hr
      exact hQ C f H a w (.refl _) hd hw (.refl _ _) hf hr
  | succ fuel ih =>
    intro listed f H C a w hsz hdown hfu hr hd hw hf hQ
    refine ⟨fun hnone => ?_, fun i hi => ?_⟩
    · exfalso
      obtain ⟨i, r, hl⟩ := List.exists_cons_of_length_eq_add_one hfu.symm
      have hmem : i ∈ left ops.size listed := by rw [hl]; exact List.mem_cons_self ..
      have hil := (mem_left.1 hmem).1
      have hs := left_sorted ops.size listed
      rw [hl, List.pairwise_cons] at hs
      have : i ∈ Region.ready .any ops listed := by
        refine (rdy listed i).2 ⟨hmem, ops[i], Array.getElem?_eq_getElem hil, fun e he hb => ?_⟩
        have hlt := (drawG_of (by simpa using Array.getElem?_eq_getElem hil) (hall i (by simpa using hil))).2.1 e.on (List.mem_map.2 ⟨e, List.mem_filter.2 ⟨he, hb⟩, rfl⟩)
        have hnm : e.on ∉ left ops.size listed := by
          rw [hl]
          intro hm
          rcases List.mem_cons.1 hm with h | h
          · omega
          · have := hs.1 _ h; omega
        have h1 : listed.getD e.on true = true := by
          cases hg : listed.getD e.on true with
          | true => rfl
          | false => exact absurd (mem_left.2 ⟨by omega, hg⟩) hnm
        have h2 : e.on < listed.size := by omega
        rw [Array.getD_eq_getD_getElem?, Array.getElem?_eq_getElem h2] at h1 ⊢
        exact h1
      rw [hnone] at this
      simp at this
    · obtain ⟨hmem, o, ho, hpre⟩ := (rdy listed i).1 hi
      have hil := (mem_left.1 hmem).1
      have hoL : ops.toList[i]? = some o := by simpa using ho
      obtain ⟨d1, d2, d3, d4⟩ := drawG_of hoL (hall i (by simpa using hil))
      obtain ⟨l1, l2, hl⟩ := List.append_of_mem hmem
      have hs := left_sorted ops.size listed
      rw [hl, List.pairwise_append, List.pairwise_cons] at hs
      have hsz' : i < listed.size := by omega
      have getFT : ∀ j, listed.getD j false = true → listed.getD j true = true := fun j hj => by
        rw [Array.getD_eq_getD_getElem?] at hj ⊢
        cases hg : listed[j]? with
        | none => rw [hg] at hj; simp at hj
        | some b => rw [hg] at hj; simpa using hj
      have hpre' : ∀ j ∈ bnd o, listed.getD j true = true := fun j hj => by
        obtain ⟨e, he, rfl⟩ := List.mem_map.1 hj
        obtain ⟨he1, he2⟩ := List.mem_filter.1 he
        exact getFT _ (hpre e he1 he2)
      rw [hl, List.filterMap_append, List.filterMap_cons_some ho] at hr
      have hcomp : ∀ x ∈ l1.filterMap (fun i => ops[i]?), cmp x o = true := by
        intro x hx
        obtain ⟨j, hj, hjx⟩ := List.mem_filterMap.1 hx
        have hji : j < i := hs.2.2 j hj i (List.mem_cons_self ..)
        rcases d4 j hji with h | ⟨x', hx', hc⟩
        · have hS := maskG_in (N := N) hall (S := fun j => listed.getD j true = true) (fun i o ho hS => hdown i o (by simpa using ho) hS) i o hoL hpre' j h
          have hjm : j ∈ left ops.size listed := by rw [hl]; exact List.mem_append.2 (.inl hj)
          rw [(mem_left.1 hjm).2] at hS
          cases hS
        · have : ops[j]? = some x' := by simpa using hx'
          simp only [this, Option.some.injEq] at hjx
          subst hjx
          exact hc
      obtain ⟨v, H1, hex, hrun⟩ := RunG.front hswap _ _ _ hr hcomp
      rw [← List.filterMap_append, ← left_set hsz' hl] at hrun
      have hdown' : ∀ i' o', ops[i']? = some o' → (listed.setIfInBounds i true).getD i' true = true → ∀ j ∈ bnd o', (listed.setIfInBounds i true).getD j true = true := by
        intro i' o' ho' h j hj
        rw [getD_set _ _ _ hsz'] at h ⊢
        by_cases hi' : i' = i
        · subst hi'
          rw [ho] at ho'
          injection ho' with ho'
          subst ho'
          split
          · rfl
          · exact hpre' j hj
        · rw [if_neg hi'] at h
          split
          · rfl
          · exact hdown i' o' ho' h j hj
      have hfu' : fuel = (left ops.size (listed.setIfInBounds i true)).length := by
        rw [left_set hsz' hl]
        rw [hl] at hfu
        simp at hfu ⊢
        omega
      have next : ∀ C' u w', CLe C C' → WRel C' H1 w' → Below C.B w w' → FRel C' N (upd f o.dst v) (a.put o.dst u) → wpAny P .any ops Q fuel (listed.setIfInBounds i true) (a.put o.dst u) w' := by
        intro C' u w' q1 q2 q3 q4
        refine ih _ _ _ C' _ w' (by simpa using hsz) hdown' hfu' hrun (by cases hod : o.dst <;> simp [Act.put, hd]) q2 q4 ?_
        intro C'' f'' H'' a'' w'' p1 p2 p3 p4 p5 p6
        exact hQ C'' f'' H'' a'' w'' (q1.trans p1) p2 p3 (q3.trans (by rw [← q1.B]; exact p4)) p5 p6
      unfold wpOp
      rw [ho]
      simp only
      rcases hstep o f H v H1 C a w d1 hw hf hex with ⟨h1, h2, h3⟩ | ⟨h1, h2⟩
      · rw [if_neg (by rw [h1]; simp)]
        subst h2 h3
        exact next C _ w (.refl _) hw (.refl _ _) (hf.put o.dst (dstOk_of d1) VRel.undefV)
      · rw [if_pos h1]
        left
        exact h2 _ _ next


/-! ### what an operation reads -/
def topId : PV → List Nat
  | .ptr id _ _ => [id]
  | .msl id _ _ _ _ _ => [id]
  | .mp id _ => [id]
  | _ => []
def opIds (op : Op) (f : Nat → PV) : List Nat := (op.operands.toList.map fun x => topId (ev f x)).flatten
theorem opIds_mem {op : Op} {f : Nat → PV} {x : Operand} {id : Nat} (hx : x ∈ op.operands.toList) (hi : id ∈ topId (ev f x)) : id ∈ opIds op f := List.mem_flatten.2 ⟨_, List.mem_map.2 ⟨x, hx, rfl⟩, hi⟩
/-- It looks at versions alone. -/
def liveOnly : Op → Bool
  | .nilCheck .. | .fieldAddr .. | .indexAddr .. | .slice .. | .binOp .. => true
  | .call { callee := .builtin .len, .. } => true
  | _ => false
variable {K : Heap}
def VEq (H K : Heap) (id : Nat) : Prop := (K[id]?).map Blk.ver = (H[id]?).map Blk.ver
theorem live_c {id : Nat} (h : VEq H K id) (ver : Nat) : live K id ver = live H id ver := by
  unfold VEq at h
  unfold live
  cases h1 : H[id]? <;> cases h2 : K[id]? <;> rw [h1, h2] at h <;> simp at h
  simp [h]
theorem pnil_c {x : PV} (h : ∀ id ∈ topId x, VEq H K id) : pnil K x = pnil H x := by
  cases x <;> simp only [pnil]
  rename_i id ver off
  rw [live_c (h id (by simp [topId]))]
theorem pbin_c {op : BinOp} {t : TypeId} {x y : PV} (hx : ∀ id ∈ topId x, VEq H K id) (hy : ∀ id ∈ topId y, VEq H K id) : pbin P K op t x y = pbin P H op t x y := by
  unfold pbin
  split <;> try rfl
  · rename_i id ver off; rw [live_c (hx id (by simp [topId]))]
  · rename_i id ver off; rw [live_c (hy id (by simp [topId]))]
theorem pnilcmp_c {op : BinOp} {t : TypeId} {x : PV} (hx : ∀ id ∈ topId x, VEq H K id) : pnilcmp P K op t x = pnilcmp P H op t x := by
  unfold pnilcmp
  split <;> try rfl
  split <;> try rfl
  rename_i id ver off n sz g
  rw [live_c (hx id (by simp [topId]))]
theorem pslice_c {t : TypeId} {x : PV} {lo hi mx : Option PV} (hx : ∀ id ∈ topId x, VEq H K id) : pslice P K t x lo hi mx = pslice P H t x lo hi mx := by
  unfold pslice
  split <;> try rfl
  · rename_i e id ver off len sz g hu; rw [live_c (hx id (by simp [topId]))]
  · rename_i len e id ver off hu; rw [live_c (hx id (by simp [topId]))]
theorem pfieldAddr_c {s : TypeId} {x : PV} {f : Nat} (hx : ∀ id ∈ topId x, VEq H K id) : pfieldAddr P K s x f = pfieldAddr P H s x f := by
  cases x <;> simp only [pfieldAddr]
  rename_i id ver off
  simp only [live_c (hx id (by simp [topId]))]
theorem pindexAddr_c {t : TypeId} {x i : PV} (hx : ∀ id ∈ topId x, VEq H K id) : pindexAddr P K t x i = pindexAddr P H t x i := by
  unfold pindexAddr
  split <;> try rfl
  · rename_i e id ver off len sz g k i hu; rw [live_c (hx id (by simp [topId]))]
  · rename_i len e id ver off k i hu; rw [live_c (hx id (by simp [topId]))]
theorem plen_c {t : TypeId} {x : PV} (hx : ∀ id ∈ topId x, VEq H K id) : plen P K t x = plen P H t x := by
  unfold plen
  split <;> try rfl
  rename_i e id ver off n sz g hu
  rw [live_c (hx id (by simp [topId]))]
theorem scells_c {sz : Nat} {x : PV} (hx : ∀ id ∈ topId x, K[id]? = H[id]?) : scells K sz x = scells H sz x := by
  cases x <;> simp only [scells]
  rename_i id ver off len s g
  rw [hx id (by simp [topId])]
theorem pload_c {t : TypeId} {x : PV} (hx : ∀ id ∈ topId x, K[id]? = H[id]?) : pload P K t x = pload P H t x := by
  cases x <;> simp only [pload]
  rename_i id ver off
  rw [hx id (by simp [topId])]
theorem pconv_c {s d : TypeId} {x : PV} (hx : ∀ id ∈ topId x, K[id]? = H[id]?) : pconv P K s d x = pconv P H s d x := by
  unfold pconv
  split <;> try rfl
  rw [scells_c hx]
theorem plook_c {t : TypeId} {m k : PV} {ok : Bool} (hx : ∀ id ∈ topId m, K[id]? = H[id]?) : plook P K t m k ok = plook P H t m k ok := by
  have : pmapOf P K t m = pmapOf P H t m := by
    unfold pmapOf
    split <;> try rfl
    rename_i kt e id ver hu
    rw [hx id (by simp [topId])]
  unfold plook
  rw [this]
theorem mapc {x : Option PV} {v : PV} {H' : Heap} (h : (x.map fun v => (v, H)) = some (v, H')) : (x.map fun v => (v, K)) = some (v, K) := by
  simp only [Option.map_eq_some_iff, Prod.mk.injEq] at h ⊢
  obtain ⟨u, h1, h2, _⟩ := h
  exact ⟨u, h1, h2, trivial⟩
theorem pop_live {f : Nat → PV} {op : Op} {v : PV} {H' : Heap} (h : liveOnly op = true) (hi : ∀ id ∈ opIds op f, VEq H K id) (hp : pop P op f H = some (v, H')) : pop P op f K = some (v, K) := by
  have ids : ∀ x ∈ op.operands.toList, ∀ id ∈ topId (ev f x), VEq H K id := fun x hx id hid => hi id (opIds_mem hx hid)
  cases op <;> try (simp [liveOnly] at h; done)
  case nilCheck x => simp only [pop] at hp ⊢; rw [pnil_c (ids x (by simp [Op.operands]))]; exact mapc hp
  case fieldAddr s x k => simp only [pop] at hp ⊢; rw [pfieldAddr_c (ids x (by simp [Op.operands]))]; exact mapc hp
  case indexAddr t x i => simp only [pop] at hp ⊢; rw [pindexAddr_c (ids x (by simp [Op.operands]))]; exact mapc hp
  case slice t x lo hi mx => simp only [pop] at hp ⊢; rw [pslice_c (ids x (by simp [Op.operands]))]; exact mapc hp
  case binOp op t x y z =>
    simp only [pop] at hp ⊢
    split at hp
    · rw [pnilcmp_c (ids x (by simp [Op.operands]))]; exact mapc hp
    split at hp
    · exact mapc hp
    · rw [pbin_c (ids x (by simp [Op.operands])) (ids y (by simp [Op.operands]))]; exact mapc hp
  case call c =>
    obtain ⟨callee, args, ts⟩ := c
    cases callee with
    | builtin b =>
      cases b <;> try (simp [liveOnly] at h; done)
      have key : ∀ (tl : List TypeId) (al : List PV), (∀ x ∈ al, ∀ id ∈ topId x, VEq H K id) → pbuiltin P H .len tl al = some (v, H') → pbuiltin P K .len tl al = some (v, K) := fun tl al hal hq => by
        match tl, al, hq with
        | [t], [x], hq =>
          simp only [pbuiltin] at hq ⊢
          rw [plen_c (hal x (by simp))]; exact mapc hq
        | [], _, hq => simp [pbuiltin] at hq
        | _ :: _ :: _, _, hq => simp [pbuiltin] at hq
        | [_], [], hq => simp [pbuiltin] at hq
        | [_], _ :: _ :: _, hq => simp [pbuiltin] at hq
      simp only [pop] at hp ⊢
      refine key _ _ (fun x hx id hid => ?_) hp
      obtain ⟨y, hy, rfl⟩ := List.mem_map.1 hx
      exact ids y (by simp [Op.operands, Call.operands]; exact Array.mem_toList_iff.1 hy) id hid
    | _ => simp [liveOnly] at h
theorem pop_read {f : Nat → PV} {op : Op} {v : PV} {H' : Heap} (h : eff op = false) (hi : ∀ id ∈ opIds op f, K[id]? = H[id]?) (hp : pop P op f H = some (v, H')) : pop P op f K = some (v, K) := by
  have ids : ∀ x ∈ op.operands.toList, ∀ id ∈ topId (ev f x), K[id]? = H[id]? := fun x hx id hid => hi id (opIds_mem hx hid)
  cases hl : liveOnly op with
  | true => exact pop_live hl (fun id hid => by unfold VEq; rw [hi id hid]) hp
  | false =>
  cases hpu : pureOp op with
  | true => exact (pop_pure hpu hp K).2
  | false =>
  cases op <;> try (simp [eff] at h; done)
  all_goals try (simp [liveOnly] at hl; done)
  all_goals try (simp [pureOp] at hpu; done)
  case load t x => simp only [pop] at hp ⊢; rw [pload_c (ids x (by simp [Op.operands]))]; exact mapc hp
  case convert s d x => simp only [pop] at hp ⊢; rw [pconv_c (ids x (by simp [Op.operands]))]; exact mapc hp
  case lookup t m k ok => simp only [pop] at hp ⊢; rw [plook_c (ids m (by simp [Op.operands]))]; exact mapc hp
  case makeFunc fn x y => cases fn <;> simp only [pop, Option.some.injEq, Prod.mk.injEq] at hp ⊢ <;> first | exact ⟨hp.1, trivial⟩ | cases hp
  case call c =>
    obtain ⟨callee, args, ts⟩ := c
    cases callee with
    | builtin b =>
      simp only [eff] at h
      simp only [pop] at hp ⊢
      unfold pbuiltin at hp ⊢
      split at hp
      · simp [liveOnly] at hl
      · simp [effB] at h
      · simp [effB] at h
      · exact mapc hp
      · exact mapc hp
      · cases hp
    | _ => simp only [pop] at hp; cases hp
  all_goals (simp only [pop] at hp; cases hp)

/-! ### written blocks, reserved places -/
structure Ag (ws rs : List Nat) (H K : Heap) : Prop where
  len : K.length = H.length
  all : ∀ i, i ∉ ws → K[i]? = H[i]?
  ver : ∀ i, i ∉ rs → VEq H K i
theorem Ag.refl (ws rs : List Nat) (H : Heap) : Ag ws rs H H := ⟨rfl, fun _ _ => rfl, fun _ _ => rfl⟩
theorem Ag.symm {ws rs : List Nat} {H K : Heap} (h : Ag ws rs H K) : Ag ws rs K H := ⟨h.len.symm, fun i hi => (h.all i hi).symm, fun i hi => (h.ver i hi).symm⟩
theorem Ag.trans {ws rs : List Nat} {H K L : Heap} (h : Ag ws rs H K) (k : Ag ws rs K L) : Ag ws rs H L := ⟨k.len.trans h.len, fun i hi => (k.all i hi).trans (h.all i hi), fun i hi => Eq.trans (k.ver i hi) (h.ver i hi)⟩
theorem Ag.set {ws rs : List Nat} {H : Heap} {id : Nat} {k b : Blk} (hk : H[id]? = some k) (hw : id ∈ ws) (hv : b.ver = k.ver ∨ id ∈ rs) : Ag ws rs H (H.set id b) := by
  have hid : id < H.length := (List.getElem?_eq_some_iff.1 hk).1
  refine ⟨by simp, fun i hi => ?_, fun i hi => ?_⟩
  · rw [List.getElem?_set_ne (show id ≠ i from fun e => hi (by rw [← e]; exact hw))]
  · unfold VEq
    by_cases e : id = i
    · subst e
      rcases hv with hv | hv
      · rw [List.getElem?_set_self hid, hk]; simp [hv]
      · exact absurd hv hi
    · rw [List.getElem?_set_ne e]

def rsv (rs : List (Nat × Nat)) (d : Option Nat) : Option Nat := match d with
  | none => none
  | some d => match rs with
    | [] => none
    | (t, r) :: l => match Nat.beq t d with | true => some r | false => rsv l (some d)
/-- A new block in a reserved place. -/
def palloc (P : Program) (elem : TypeId) (r : Nat) (H : Heap) : Option (PV × Heap) := match zcells P elem, H[r]? with
  | some z, some k => if k.e = elem ∧ k.ver = 0 then some (.ptr r 1 0, H.set r ⟨elem, 1, z⟩) else none
  | _, _ => none
def resv (rs : List (Nat × Nat)) (o : Oper) : Option (TypeId × Nat) := match o.op with
  | .alloc elem => match rsv rs o.dst with | some r => some (elem, r) | none => none
  | _ => none
def popH (P : Program) (rs : List (Nat × Nat)) (o : Oper) (f : Nat → PV) (H : Heap) : Option (PV × Heap) := match resv rs o with
  | some (elem, r) => palloc P elem r H
  | none => pop P o.op f H
def isStore : Op → Bool
  | .store .. => true
  | _ => false
def stId (op : Op) (f : Nat → PV) : Option Nat := match op with
  | .store _ x _ => match ev f x with
    | .ptr id _ _ => some id
    | _ => none
  | _ => none
def notIn (ids ws : List Nat) : Bool := ids.all fun i => !(ws.elem i)
/-- Reads and writes are apart. -/
def chkH (ws : List Nat) (rs : List (Nat × Nat)) (o : Oper) (f : Nat → PV) : Bool := match resv rs o with
  | some (_, r) => ws.elem r && (rs.map (·.2)).elem r
  | none => match isStore o.op with
    | true => match stId o.op f with | some id => ws.elem id | none => false
    | false => match pureOp o.op || eff o.op with
      | true => true
      | false => match liveOnly o.op with
        | true => notIn (opIds o.op f) (rs.map (·.2))
        | false => notIn (opIds o.op f) ws
def ExH (P : Program) (all : List Oper) (ws : List Nat) (rs : List (Nat × Nat)) (o : Oper) (f : Nat → PV) (H : Heap) (v : PV) (H' : Heap) : Prop :=
  (want all f o = some false ∧ v = .tup [] ∧ H' = H) ∨
  (want all f o = some true ∧ match pcallee o.op f with
    | some (fn, args) => H' = H ∧ ∀ K, Ag ws (rs.map (·.2)) H K → CallOk P fn args K v K
    | none => popH P rs o f H = some (v, H') ∧ chkH ws rs o f = true)
def isWr (rs : List (Nat × Nat)) (o : Oper) : Bool := isStore o.op || (resv rs o).isSome
def isRd (rs : List (Nat × Nat)) (o : Oper) : Bool := !eff o.op && !(resv rs o).isSome
theorem resv_callee {rs : List (Nat × Nat)} {o : Oper} {f : Nat → PV} {er : TypeId × Nat} (h : resv rs o = some er) : pcallee o.op f = none := by
  unfold resv at h
  split at h
  · rename_i elem ho; rw [ho]; rfl
  · cases h
theorem store_callee {op : Op} {f : Nat → PV} (h : isStore op = true) : pcallee op f = none := by
  cases op <;> first | (simp [isStore] at h; done) | rfl
theorem popH_congr {rs : List (Nat × Nat)} {o : Oper} {f g : Nat → PV} (h : ∀ x ∈ o.op.operands.toList, ev f x = ev g x) : popH P rs o f H = popH P rs o g H := by
  unfold popH
  split
  · rfl
  · exact pop_congr h
theorem chkH_congr {ws : List Nat} {rs : List (Nat × Nat)} {o : Oper} {f g : Nat → PV} (h : ∀ x ∈ o.op.operands.toList, ev f x = ev g x) : chkH ws rs o f = chkH ws rs o g := by
  have e1 : opIds o.op f = opIds o.op g := by
    unfold opIds
    congr 1
    exact List.map_congr_left fun x hx => by rw [h x hx]
  have e2 : stId o.op f = stId o.op g := by
    unfold stId
    split
    · rename_i t x y ho
      rw [ho] at h
      rw [h x (by simp [Op.operands])]
    · rfl
  unfold chkH
  rw [e1, e2]
theorem ExH.congr {all : List Oper} {ws : List Nat} {rs : List (Nat × Nat)} {o : Oper} {f g : Nat → PV} {v : PV} {H' : Heap} (h : ∀ t ∈ reads (all.map (·.dst)) o, f t = g t) (he : ExH P all ws rs o f H v H') : ExH P all ws rs o g H v H' := by
  have e1 : want all f o = want all g o := want_congr fun t ht => h t (List.mem_append.2 (.inr ht))
  have e2 : ∀ x ∈ o.op.operands.toList, ev f x = ev g x := fun x hx => ev_congr fun t ht => h t (List.mem_append.2 (.inl (mem_tmps (ht ▸ hx))))
  unfold ExH at he ⊢
  rw [← e1, ← pcallee_congr e2, ← popH_congr e2, ← chkH_congr e2]
  exact he
theorem notIn_of {ids ws : List Nat} (h : notIn ids ws = true) : ∀ i ∈ ids, i ∉ ws := fun i hi hw => by
  have := List.all_eq_true.1 h i hi
  rw [List.elem_eq_mem] at this
  simp [hw] at this
/-- What reads or calls gives the same in a heap that agrees. -/
theorem ExH.move {all : List Oper} {ws : List Nat} {rs : List (Nat × Nat)} {o : Oper} {f : Nat → PV} {v : PV} {H' K : Heap} (hr : isRd rs o = true ∨ pureOp o.op = true) (he : ExH P all ws rs o f H v H') : H' = H ∧ (Ag ws (rs.map (·.2)) H K → ExH P all ws rs o f K v K) := by
  have hres : resv rs o = none := by
    rcases hr with hr | hr
    · simp only [isRd, Bool.and_eq_true, Bool.not_eq_true'] at hr
      cases h : resv rs o with
      | none => rfl
      | some r => rw [h] at hr; simp at hr
    · unfold resv
      split
      · rename_i elem ho; rw [ho] at hr; simp [pureOp] at hr
      · rfl
  rcases he with ⟨h1, h2, h3⟩ | ⟨h1, h2⟩
  · exact ⟨h3, fun _ => .inl ⟨h1, h2, rfl⟩⟩
  · split at h2
    · rename_i fn args hc
      exact ⟨h2.1, fun ha => .inr ⟨h1, by rw [hc]; exact ⟨rfl, fun L hL => h2.2 L (ha.trans hL)⟩⟩⟩
    · rename_i hc
      obtain ⟨hp, hk⟩ := h2
      have hpp : pop P o.op f H = some (v, H') := by unfold popH at hp; rw [hres] at hp; exact hp
      have heff : eff o.op = false ∨ pureOp o.op = true := by
        rcases hr with hr | hr
        · simp only [isRd, Bool.and_eq_true, Bool.not_eq_true'] at hr; exact .inl hr.1
        · exact .inr hr
      have hH : H' = H := by
        rcases heff with h | h
        · exact pop_noeff h hpp
        · exact (pop_pure h hpp H).1
      refine ⟨hH, fun ha => .inr ⟨h1, ?_⟩⟩
      rw [hc]
      refine ⟨?_, hk⟩
      unfold popH
      rw [hres]
      cases hpu : pureOp o.op with
      | true => exact (pop_pure hpu hpp K).2
      | false =>
        have he' : eff o.op = false := by rcases heff with h | h <;> simp_all
        have hst : isStore o.op = false := by
          cases hs : isStore o.op with
          | false => rfl
          | true => cases ho : o.op <;> rw [ho] at hs he' <;> simp [isStore, eff] at hs he'
        unfold chkH at hk
        rw [hres, hst, hpu, he'] at hk
        simp only [Bool.or_self] at hk
        cases hl : liveOnly o.op with
        | true =>
          rw [hl] at hk
          exact pop_live hl (fun id hid => ha.ver id (notIn_of hk id hid)) hpp
        | false =>
          rw [hl] at hk
          exact pop_read he' (fun id hid => ha.all id (notIn_of hk id hid)) hpp

/-- What is written lies within the written blocks. -/
theorem ExH.write {all : List Oper} {ws : List Nat} {rs : List (Nat × Nat)} {o : Oper} {f : Nat → PV} {v : PV} {H' : Heap} (hr : isWr rs o = true) (he : ExH P all ws rs o f H v H') : Ag ws (rs.map (·.2)) H H' := by
  rcases he with ⟨_, _, h3⟩ | ⟨_, h2⟩
  · rw [h3]; exact .refl _ _ _
  · have hc : pcallee o.op f = none := by
      simp only [isWr, Bool.or_eq_true] at hr
      rcases hr with hr | hr
      · exact store_callee hr
      · obtain ⟨er, her⟩ := Option.isSome_iff_exists.1 hr
        exact resv_callee her
    rw [hc] at h2
    obtain ⟨hp, hk⟩ := h2
    unfold popH at hp
    unfold chkH at hk
    cases hres : resv rs o with
    | some er =>
      obtain ⟨elem, r⟩ := er
      rw [hres] at hp hk
      simp only [Bool.and_eq_true] at hk
      simp only [palloc] at hp
      split at hp
      · rename_i z k hz hkk
        split at hp
        · rename_i hq
          simp only [Option.some.injEq, Prod.mk.injEq] at hp
          rw [← hp.2]
          exact .set hkk (by have := hk.1; rw [List.elem_eq_mem] at this; simpa using this) (.inr (by have := hk.2; rw [List.elem_eq_mem] at this; simpa using this))
        · cases hp
      · cases hp
    | none =>
      rw [hres] at hp hk
      have hs : isStore o.op = true := by
        simp only [isWr, hres, Bool.or_eq_true] at hr
        rcases hr with hr | hr
        · exact hr
        · simp at hr
      rw [hs] at hk
      simp only at hk hp
      cases ho : o.op <;> rw [ho] at hs hk hp <;> try (simp [isStore] at hs; done)
      rename_i t x y
      simp only [stId] at hk
      simp only [pop, Option.map_eq_some_iff, Prod.mk.injEq] at hp
      obtain ⟨H2, h1, _, rfl⟩ := hp
      unfold pstore at h1
      split at h1
      · rename_i id ver off hx
        rw [hx] at hk
        simp only at hk
        split at h1
        · rename_i k hkk
          split at h1
          · simp only [Option.map_eq_some_iff] at h1
            obtain ⟨c, _, rfl⟩ := h1
            exact .set hkk (by rw [List.elem_eq_mem] at hk; simpa using hk) (.inl rfl)
          · cases h1
        · cases h1
      · cases h1
/-! ### the evaluation of such a region -/
def stpH (P : Program) (ws : List Nat) (rs : List (Nat × Nat)) (ds : List (Option Nat)) (o : Oper) (F : Fr) (H : Heap) : Option (Fr × Heap) :=
  match asked ds F o with
  | none => none
  | some b => cond b (match chkH ws rs o (slot F) with
    | true => (match popH P rs o (slot F) H with | some (v, H') => some (put F o.dst v, H') | none => none)
    | false => none) (some (put F o.dst (.tup []), H))
def VCk (P : Program) (ws : List Nat) (rs : List (Nat × Nat)) (o : Oper) (F : Fr) (H : Heap) (K : Fr → Heap → Prop) : Prop :=
  match pcallee o.op (slot F) with
  | some (g, args) => ∃ v, (∀ L, Ag ws (rs.map (·.2)) H L → CallOk P g args L v L) ∧ K (put F o.dst v) H
  | none => False
def VCh (P : Program) (ws : List Nat) (rs : List (Nat × Nat)) (ds : List (Option Nat)) (o : Oper) (F : Fr) (H : Heap) (K : Fr → Heap → Prop) : Prop :=
  match asked ds F o with
  | none => False
  | some b => (b = true → VCk P ws rs o F H K) ∧ (b = false → K (put F o.dst (.tup [])) H)
def VOh (P : Program) (ws : List Nat) (rs : List (Nat × Nat)) (ds : List (Option Nat)) : List Oper → Option (Fr × Heap) → (Fr → Heap → Prop) → Prop
  | _, none, _ => False
  | [], some (F, H), K => K F H
  | o :: r, some (F, H), K => match isCall o.op with
    | false => VOh P ws rs ds r (stpH P ws rs ds o F H) K
    | true => VCh P ws rs ds o F H fun F' H' => VOh P ws rs ds r (some (F', H')) K
def VRh (P : Program) (ws : List Nat) (rs : List (Nat × Nat)) (ds : List (Option Nat)) (r : List Oper) (K : Fr → Heap → Prop) (F : Fr) (H : Heap) : Prop := VOh P ws rs ds r (some (F, H)) K
theorem VOh_nil (ws : List Nat) (rs : List (Nat × Nat)) (ds : List (Option Nat)) (K : Fr → Heap → Prop) (F : Fr) (H : Heap) : VOh P ws rs ds [] (some (F, H)) K = K F H := rfl
theorem VOh_step (ws : List Nat) (rs : List (Nat × Nat)) (ds : List (Option Nat)) (o : Oper) (r : List Oper) (K : Fr → Heap → Prop) (F : Fr) (H : Heap) :
    VOh P ws rs ds (o :: r) (some (F, H)) K = match isCall o.op with | false => VOh P ws rs ds r (stpH P ws rs ds o F H) K | true => VCh P ws rs ds o F H (VRh P ws rs ds r K) := by
  cases h : isCall o.op with
  | false => simp only [VOh, h]
  | true => simp only [VOh, h]; rfl
theorem VOh_cond {ws : List Nat} {rs : List (Nat × Nat)} {ds : List (Option Nat)} {l : List Oper} {K : Fr → Heap → Prop} {x : Bool} {A B : Option (Fr × Heap)} (h1 : x = true → VOh P ws rs ds l A K) (h2 : x = false → VOh P ws rs ds l B K) : VOh P ws rs ds l (cond x A B) K := by
  cases x with
  | true => exact h1 rfl
  | false => exact h2 rfl
theorem VCk.call {ws : List Nat} {rs : List (Nat × Nat)} {o : Oper} {K : Fr → Heap → Prop} {g : FuncId} {args : List PV} {v : PV} (h : ∀ L, Ag ws (rs.map (·.2)) H L → CallOk P g args L v L) (hc : pcallee o.op (slot F) = some (g, args)) (hk : K (put F o.dst v) H) : VCk P ws rs o F H K := by
  unfold VCk
  simp only [hc]
  exact ⟨v, h, hk⟩
/-- A place is reserved. -/
theorem Vs.place {E : Env} (e : Nat) : Vs E F H F (H ++ [⟨e, 0, []⟩]) := fun _ C a w hw hf => by
  obtain ⟨g1, g2⟩ := hw.ghost e 0
  exact ⟨_, g1.toN _, g2, hf.mono g1⟩

/-! for simp -/
theorem elem_no {i j : Nat} {l : List Nat} (h : i ≠ j) : (j :: l).elem i = l.elem i := by
  simp [List.elem_cons, h]
theorem elem_yes (i : Nat) (l : List Nat) : (i :: l).elem i = true := by simp
theorem elem_nil' (i : Nat) : ([] : List Nat).elem i = false := rfl

end Go.Proofs.YtahomnplappbpaaGreatDoor.Pm
