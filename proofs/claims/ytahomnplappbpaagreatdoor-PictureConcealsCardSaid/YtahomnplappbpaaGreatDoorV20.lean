/-
  Parts of the proof, put together in one text. No condition.
-/
import Derived.Test.YtahomnplappbpaaGreatDoorV19
import Derived.Test.YtahomnplappbpaaGreatDoorV14
namespace Go.Proofs.YtahomnplappbpaaGreatDoor.Pm
set_option linter.all false
set_option linter.unusedVariables false
set_option linter.unusedSimpArgs false
open Go.RowKit

variable {P : Program} {C : Ctx} {H K : Heap} {w : World} {F : Fr} {a : Act} {N : Nat}

/-- It may be read. -/
def okO (ids : List Nat) (pm : List (Nat × List Nat)) (f : Nat → PV) (x : Operand) : Bool := (topId (ev f x)).all fun i => !(ids.elem i) || (atP ids (posO pm x)).elem i
/-- It may be written. -/
def inO (ids : List Nat) (pm : List (Nat × List Nat)) (f : Nat → PV) (x : Operand) : Bool := match topId (ev f x) with
  | [i] => (atP ids (posO pm x)).elem i
  | _ => false
def isMsl : PV → Bool
  | .msl .. => true
  | _ => false
/-- Nothing is appended. -/
def nilApp (f : Nat → PV) (op : Op) : Bool := match op with
  | .call { args, .. } => (match args.toList.map (ev f) with | [.slice _ _ _, .slice _ 0 _] => true | _ => false)
  | _ => false
def chkI (ids : List Nat) (pm : List (Nat × List Nat)) (rs : List (Nat × Nat)) (o : Oper) (f : Nat → PV) : Bool := match resI rs o with
  | some _ => true
  | none => match kindI o.op with
    | 0 => true
    | 1 => o.op.operands.toList.all (okO ids pm f)
    | 2 => o.op.operands.toList.all (okO ids pm f)
    | 3 => (match fstO o.op with | some x => inO ids pm f x | none => false)
    | 4 => (match fstO o.op with | some x => (inO ids pm f x && isMsl (ev f x) && o.op.operands.toList.all (okO ids pm f)) || nilApp f o.op | none => false)
    | 5 => (match fstO o.op with | some x => inO ids pm f x && o.op.operands.toList.all (okO ids pm f) | none => false)
    | 6 => (match fstO o.op with | some x => inO ids pm f x && o.op.operands.toList.all (okO ids pm f) | none => false)
    | _ => false

theorem okO_of {ids : List Nat} {pm : List (Nat × List Nat)} {f : Nat → PV} {op : Op} (h : op.operands.toList.all (okO ids pm f) = true) : ∀ x ∈ op.operands.toList, ∀ i ∈ topId (ev f x), i ∉ ids ∨ i ∈ atP ids (opPos pm op) := fun x hx i hi => by
  have := List.all_eq_true.1 (List.all_eq_true.1 h x hx) i hi
  simp only [Bool.or_eq_true, Bool.not_eq_true', List.elem_eq_mem, decide_eq_true_eq, decide_eq_false_iff_not] at this
  rcases this with h | h
  · exact .inl h
  · obtain ⟨p, hp, e⟩ := atP_mem h
    exact .inr (List.mem_filterMap.2 ⟨p, List.mem_flatten.2 ⟨_, List.mem_map.2 ⟨x, hx, rfl⟩, hp⟩, e⟩)
theorem okO_ids {ids : List Nat} {pm : List (Nat × List Nat)} {f : Nat → PV} {op : Op} (h : op.operands.toList.all (okO ids pm f) = true) : ∀ i ∈ opIds op f, i ∉ ids ∨ i ∈ atP ids (opPos pm op) := fun i hi => by
  obtain ⟨l, hl, hi⟩ := List.mem_flatten.1 hi
  obtain ⟨x, hx, rfl⟩ := List.mem_map.1 hl
  exact okO_of h x hx i hi
theorem Agr.rd {ids : List Nat} {fp : Fp} {pm : List (Nat × List Nat)} {op : Op} (hA : Agr ids fp H K) (hr : fp.r = opPos pm op) {i : Nat} (h : i ∉ ids ∨ i ∈ atP ids (opPos pm op)) : K[i]? = H[i]? := by
  rcases h with h | h
  · exact hA.out i h
  · exact hA.inn i (.inl (by rw [hr]; exact h))
theorem inO_of {ids : List Nat} {pm : List (Nat × List Nat)} {f : Nat → PV} {x : Operand} {i : Nat} (h : inO ids pm f x = true) (hi : topId (ev f x) = [i]) : i ∈ atP ids (posO pm x) := by
  unfold inO at h
  rw [hi] at h
  simpa [List.elem_eq_mem] using h

theorem kind_pure {op : Op} (h : kindI op = 0) : pureOp op = true := by
  unfold kindI at h
  split at h
  · assumption
  · split at h
    · cases h
    · split at h
      · split at h <;> cases h
      · split at h <;> cases h
theorem kind_low {op : Op} (h : kindI op = 1 ∨ kindI op = 2) : eff op = false ∧ (kindI op = 1 → liveOnly op = true) := by
  unfold kindI at h ⊢
  split at h
  · rcases h with h | h <;> cases h
  · rename_i hp
    split at h
    · rcases h with h | h <;> cases h
    · rename_i hc
      split at h
      · rename_i he
        refine ⟨he, ?_⟩
        split
        · intro _; assumption
        · intro h; cases h
      · split at h <;> rcases h with h | h <;> cases h
theorem kind_eff {op : Op} {n : Nat} (h : kindI op = n + 3) (hn : n ≤ 3) : eff op = true ∧ pureOp op = false ∧ isCall op = false := by
  unfold kindI at h
  split at h
  · cases h
  · rename_i hp
    split at h
    · injection h with h; injection h with h; injection h with h; omega
    · rename_i hc
      split at h
      · split at h
        · injection h with h; cases h
        · injection h with h; injection h with h; cases h
      · rename_i he; exact ⟨he, hp, hc⟩
theorem kind_store {op : Op} (h : kindI op = 3) : ∃ t x y, op = .store t x y := by
  obtain ⟨h1, h2, h3⟩ := kind_eff (n := 0) h (by omega)
  unfold kindI at h
  rw [h1, h2, h3] at h
  dsimp only at h
  split at h <;> first | exact ⟨_, _, _, rfl⟩ | cases h
theorem kind_append {op : Op} (h : kindI op = 4) : ∃ args ts, op = .call { callee := .builtin .append, args := args, argTypes := ts } := by
  obtain ⟨h1, h2, h3⟩ := kind_eff (n := 1) h (by omega)
  unfold kindI at h
  rw [h1, h2, h3] at h
  dsimp only at h
  split at h <;> first | exact ⟨_, _, rfl⟩ | cases h
theorem kind_copy {op : Op} (h : kindI op = 5) : ∃ args ts, op = .call { callee := .builtin .copy, args := args, argTypes := ts } := by
  obtain ⟨h1, h2, h3⟩ := kind_eff (n := 2) h (by omega)
  unfold kindI at h
  rw [h1, h2, h3] at h
  dsimp only at h
  split at h <;> first | exact ⟨_, _, rfl⟩ | cases h
theorem kind_map {op : Op} (h : kindI op = 6) : ∃ t m k x, op = .mapUpdate t m k x ∨ op = .insert t m k x := by
  obtain ⟨h1, h2, h3⟩ := kind_eff (n := 3) h (by omega)
  unfold kindI at h
  rw [h1, h2, h3] at h
  dsimp only at h
  split at h <;> first | exact ⟨_, _, _, _, .inl rfl⟩ | exact ⟨_, _, _, _, .inr rfl⟩ | cases h

theorem appSrc_c {e sz tx : Nat} {x : PV} (hx : ∀ id ∈ topId x, K[id]? = H[id]?) : appSrc P K e sz tx x = appSrc P H e sz tx x := by
  unfold appSrc
  split <;> try rfl
  exact scells_c hx
theorem pmapOf_c {t : TypeId} {m : PV} (hx : ∀ id ∈ topId m, K[id]? = H[id]?) : pmapOf P K t m = pmapOf P H t m := by
  unfold pmapOf
  split <;> try rfl
  rename_i kt e id ver hu
  rw [hx id (by simp [topId])]

/-- The writes: one block, and the same in every heap that agrees. -/
theorem pstore_loc {t : TypeId} {x v : PV} {H' : Heap} (h : pstore P H t x v = some H') : ∃ id k b, topId x = [id] ∧ H[id]? = some k ∧ b.ver = k.ver ∧ H' = H.set id b ∧ ∀ K : Heap, K[id]? = H[id]? → pstore P K t x v = some (K.set id b) := by
  unfold pstore at h
  split at h
  · rename_i id ver off
    split at h
    · rename_i k hk
      split at h
      · rename_i hv
        simp only [Option.map_eq_some_iff] at h
        obtain ⟨c, hc, rfl⟩ := h
        refine ⟨id, k, ⟨k.e, k.ver, c⟩, rfl, hk, rfl, rfl, fun K hK => ?_⟩
        unfold pstore
        simp only [hK, hk, hv, if_true, hc, Option.map_some]
      · cases h
    · cases h
  · cases h
theorem pmset_loc {t : TypeId} {m k x : PV} {H' : Heap} (h : pmset P H t m k x = some H') : ∃ id b' b, topId m = [id] ∧ H[id]? = some b' ∧ b.ver = b'.ver ∧ H' = H.set id b ∧ ∀ K : Heap, K[id]? = H[id]? → pmset P K t m k x = some (K.set id b) := by
  unfold pmset at h
  split at h
  · rename_i e d id b hm
    have hq : topId m = [id] ∧ H[id]? = some b := by
      unfold pmapOf at hm
      split at hm
      · rename_i kt e' id' ver hu
        split at hm
        · rename_i d' b' hs hb
          split at hm
          · simp only [Option.some.injEq, Prod.mk.injEq] at hm
            obtain ⟨_, _, rfl, rfl⟩ := hm
            exact ⟨rfl, hb⟩
          · cases hm
        · cases hm
      · cases hm
    have key : ∀ K : Heap, K[id]? = H[id]? → pmapOf P K t m = some (e, d, id, b) := fun K hK => by
      rw [pmapOf_c (H := H) (fun i hi => by rw [hq.1] at hi; simp at hi; rw [hi]; exact hK), hm]
    split at h
    · rename_i i v hf
      simp only [Option.some.injEq] at h
      subst h
      exact ⟨id, b, ⟨b.e, b.ver, b.cells.set i (.tup [k, x])⟩, hq.1, hq.2, rfl, rfl, fun K hK => by unfold pmset; rw [key K hK]; simp only [hf]⟩
    · rename_i hf
      simp only [Option.some.injEq] at h
      subst h
      exact ⟨id, b, ⟨b.e, b.ver, b.cells ++ [.tup [k, x]]⟩, hq.1, hq.2, rfl, rfl, fun K hK => by unfold pmset; rw [key K hK]; simp only [hf]⟩
    · cases h
  · cases h
theorem pcopy_loc {t : TypeId} {d x v : PV} {H' : Heap} {id : Nat} (hd : topId d = [id]) (h : pcopy P H t d x = some (v, H')) : ∃ k b, H[id]? = some k ∧ b.ver = k.ver ∧ H' = H.set id b ∧ ∀ K : Heap, K[id]? = H[id]? → (∀ i ∈ topId x, K[i]? = H[i]?) → pcopy P K t d x = some (v, K.set id b) := by
  unfold pcopy at h
  split at h
  · rename_i e hu
    split at h
    · rename_i sz hs
      split at h
      · rename_i id' ver off len z g
        simp only [topId, List.cons.injEq, and_true] at hd
        subst hd
        split at h
        · rename_i k ys n hk hy
          split at h
          · rename_i hq
            simp only [Option.some.injEq, Prod.mk.injEq] at h
            obtain ⟨rfl, rfl⟩ := h
            refine ⟨k, ⟨k.e, ver, splice k.cells off (ys.take (min n len * sz))⟩, hk, hq.1.symm, rfl, fun K hK hx => ?_⟩
            unfold pcopy
            simp only [hu, hs, hK, hk, scells_c hx, hy]
            rw [if_pos hq]
          · cases h
        · cases h
      · simp [topId] at hd
      · cases h
    · cases h
  · cases h
theorem pappend_loc {t tx : TypeId} {s x v : PV} {H' : Heap} {id : Nat} (hm : isMsl s = true) (hd : topId s = [id]) (h : pappend P H t tx s x = some (v, H')) : ∃ k b, H[id]? = some k ∧ H' = H.set id b ∧ ∀ K : Heap, K[id]? = H[id]? → (∀ i ∈ topId x, K[i]? = H[i]?) → pappend P K t tx s x = some (v, K.set id b) := by
  unfold pappend at h
  split at h
  · rename_i e hu
    split at h
    · rename_i sz bb z hs hb hz
      split at h
      · rename_i hq0
        split at h
        · rename_i news n hsrc
          split at h
          · simp [isMsl] at hm
          · rename_i id' ver off len sz' g
            simp only [topId, List.cons.injEq, and_true] at hd
            subst hd
            split at h
            · rename_i k hk
              split at h
              · rename_i hq
                split at h
                · rename_i hn
                  simp only [Option.some.injEq, Prod.mk.injEq] at h
                  obtain ⟨rfl, rfl⟩ := h
                  have hset : ∀ K : Heap, K[id']? = some k → K.set id' k = K := fun K hK => List.ext_getElem? fun i => by
                    by_cases e : id' = i
                    · subst e; rw [List.getElem?_set_self (List.getElem?_eq_some_iff.1 hK).1, hK]
                    · rw [List.getElem?_set_ne e]
                  refine ⟨k, k, hk, (hset _ hk).symm, fun K hK hx => ?_⟩
                  unfold pappend
                  simp only [hu, hs, hb, hz, appSrc_c hx, hsrc, hK, hk]
                  rw [if_pos hq0, if_pos hq, if_pos hn, hset K (hK.trans hk)]
                · rename_i hn
                  simp only [Option.some.injEq, Prod.mk.injEq] at h
                  obtain ⟨rfl, rfl⟩ := h
                  refine ⟨k, ⟨e, (k.cells ++ news).length, k.cells ++ news⟩, hk, rfl, fun K hK hx => ?_⟩
                  unfold pappend
                  simp only [hu, hs, hb, hz, appSrc_c hx, hsrc, hK, hk]
                  rw [if_pos hq0, if_pos hq, if_neg hn]
              · cases h
            · cases h
          · cases h
        · cases h
      · cases h
    · cases h
  · cases h

theorem pappend_nil {t tx : TypeId} {xs ys : List PV} {len : Nat} {full g : Bool} {v : PV} {H' : Heap} (h : pappend P H t tx (.slice xs len full) (.slice ys 0 g) = some (v, H')) : H' = H ∧ ∀ K, pappend P K t tx (.slice xs len full) (.slice ys 0 g) = some (v, K) := by
  have hs : ∀ K : Heap, ∀ e sz, appSrc P K e sz tx (.slice ys 0 g) = appSrc P H e sz tx (.slice ys 0 g) := fun K e sz => appSrc_c fun i hi => by simp [topId] at hi
  have h0 : ∀ e sz news n, appSrc P H e sz tx (.slice ys 0 g) = some (news, n) → n = 0 := fun e sz news n h => by
    unfold appSrc at h
    split at h
    · unfold scells at h
      dsimp only at h
      split at h
      · simp only [Option.some.injEq, Prod.mk.injEq] at h; exact h.2.symm
      · cases h
    all_goals first | (rename_i hx; cases hx; done) | (cases h; done) | simp_all
  unfold pappend at h ⊢
  simp only [hs]
  split at h
  · split at h
    · split at h
      · split at h
        · rename_i news n hsrc
          have := h0 _ _ _ _ hsrc
          subst this
          simp only [if_true, Option.some.injEq, Prod.mk.injEq] at h
          obtain ⟨rfl, rfl⟩ := h
          exact ⟨rfl, fun K => by simp_all⟩
        · cases h
      · cases h
    · cases h
  · cases h

theorem popI_loc {ids : List Nat} {pm : List (Nat × List Nat)} {rs : List (Nat × Nat)} {ro : List Nat} {o : Oper} {f : Nat → PV} {v : PV} {H' : Heap} (hc : pcallee o.op f = none) (hk : chkI ids pm rs o f = true) (h : popI P ids rs o f H = some (v, H')) :
    Loc P ids rs (fpOf pm rs ro o) o f H v H' := by
  have st : ∀ {K K' : Heap}, popI P ids rs o f K = some (v, K') → StI P ids rs o f K v K' := fun {K K'} hp => by unfold StI; rw [hc]; exact hp
  unfold chkI at hk
  cases hr : resI rs o with
  | some p =>
    have hfp : fpOf pm rs ro o = ⟨[], [], [p], [p]⟩ := by unfold fpOf; rw [hr]
    unfold popI at h
    rw [hr] at h
    dsimp only at h
    split at h
    · rename_i r hrp
      split at h
      · rename_i b mk hb
        split at h
        · rename_i k hkr
          split at h
          · rename_i hq
            simp only [Option.some.injEq, Prod.mk.injEq] at h
            obtain ⟨rfl, rfl⟩ := h
            have hin : r ∈ atP ids [p] := List.mem_filterMap.2 ⟨p, by simp, hrp⟩
            refine Loc.set hkr (by rw [hfp]; exact hin) (.inr (by rw [hfp]; exact hin)) fun K hK => st ?_
            unfold popI
            rw [hr]
            simp only [hrp, hb, hK.inn r (.inr (by rw [hfp]; exact hin)), hkr]
            rw [if_pos hq]
          · cases h
        · cases h
      · cases h
    · rename_i hrp
      simp only [Option.map_eq_some_iff, Prod.mk.injEq] at h
      obtain ⟨v', hv', rfl, rfl⟩ := h
      refine Loc.read fun K hK => st ?_
      unfold popI
      rw [hr]
      simp only [hrp, hv', Option.map_some]
  | none =>
    rw [hr] at hk
    have pI : ∀ K, popI P ids rs o f K = pop P o.op f K := fun K => by unfold popI; rw [hr]
    rw [pI] at h
    have st : ∀ {K K' : Heap}, pop P o.op f K = some (v, K') → StI P ids rs o f K v K' := fun {K K'} hp => st (by rw [pI]; exact hp)
    dsimp only at hk
    split at hk
    · rename_i hkind
      obtain ⟨rfl, _⟩ := pop_pure (kind_pure hkind) h H
      exact Loc.read fun K hK => st (pop_pure (kind_pure hkind) h K).2
    · rename_i hkind
      have hfp : fpOf pm rs ro o = ⟨[], opPos pm o.op, [], []⟩ := by unfold fpOf; rw [hr, hkind]; rfl
      obtain ⟨he, hl⟩ := kind_low (.inl hkind)
      obtain rfl := pop_noeff he h
      refine Loc.read fun K hK => st (pop_live (hl hkind) (fun i hi => ?_) h)
      rcases okO_ids hk i hi with h | h
      · unfold VEq; rw [hK.out i h]
      · exact hK.liv i (by rw [hfp]; exact h)
    · rename_i hkind
      have hfp : fpOf pm rs ro o = ⟨opPos pm o.op, [], [], []⟩ := by unfold fpOf; rw [hr, hkind]; rfl
      obtain ⟨he, _⟩ := kind_low (.inr hkind)
      obtain rfl := pop_noeff he h
      exact Loc.read fun K hK => st (pop_read he (fun i hi => hK.rd (by rw [hfp]) (okO_ids hk i hi)) h)
    · rename_i hkind
      have hfp : fpOf pm rs ro o = ⟨[], [], fstP pm o.op, []⟩ := by unfold fpOf; rw [hr, hkind]; rfl
      obtain ⟨t, x, y, ho⟩ := kind_store hkind
      rw [ho] at h hk hfp
      simp only [pop, Option.map_eq_some_iff, Prod.mk.injEq] at h
      obtain ⟨H1, h, rfl, rfl⟩ := h
      obtain ⟨id, k, b, q1, q2, q3, rfl, q5⟩ := pstore_loc h
      have hin : id ∈ atP ids (posO pm x) := inO_of hk q1
      refine Loc.set q2 (by rw [hfp]; exact hin) (.inl q3) fun K hK => st ?_
      rw [ho]
      simp only [pop, q5 K (hK.inn id (.inr (by rw [hfp]; exact hin))), Option.map_some]
    · rename_i hkind
      have hfp : fpOf pm rs ro o = ⟨opPos pm o.op, [], fstP pm o.op, fstP pm o.op⟩ := by unfold fpOf; rw [hr, hkind]; rfl
      obtain ⟨args, ts, ho⟩ := kind_append hkind
      have hops : o.op.operands.toList = args.toList := by rw [ho]; simp [Op.operands, Call.operands]
      have hf1 : fstO o.op = args.toList[0]? := by rw [ho]; rfl
      split at hk
      · rename_i x hx
        simp only [Bool.or_eq_true, Bool.and_eq_true] at hk
        rcases hk with hk | hk
        rotate_left
        · unfold nilApp at hk
          rw [ho] at h hk
          dsimp only at hk
          split at hk
          · rename_i xs len full ys g hal
            have e1 : ∀ K, pop P (.call { callee := .builtin .append, args := args, argTypes := ts }) f K = pbuiltin P K .append ts.toList [.slice xs len full, .slice ys 0 g] := fun K => by simp only [pop, hal]
            rw [e1] at h
            match htl : ts.toList, h with
            | [t, tx], h =>
              simp only [pbuiltin] at h
              obtain ⟨rfl, hK⟩ := pappend_nil h
              refine Loc.read fun K _ => st ?_
              rw [ho, e1, htl]
              exact hK K
            | [], h => simp [pbuiltin] at h
            | [_], h => simp [pbuiltin] at h
            | _ :: _ :: _ :: _, h => simp [pbuiltin] at h
          · cases hk
        obtain ⟨⟨k1, k2⟩, k3⟩ := hk
        have hfs : fstP pm o.op = posO pm x := by unfold fstP; rw [hx]
        rw [hf1] at hx
        rw [ho] at h
        simp only [pop] at h
        match hal : args.toList, htl : ts.toList, hx, h with
        | [x', y], [t, tx], hx, h =>
          simp only [List.getElem?_cons_zero, Option.some.injEq] at hx
          subst hx
          simp only [List.map_cons, List.map_nil, pbuiltin] at h
          obtain ⟨id, hid⟩ : ∃ id, topId (ev f x') = [id] := by
            cases hv : ev f x' <;> rw [hv] at k2 <;> simp [isMsl] at k2
            exact ⟨_, rfl⟩
          have hin : id ∈ atP ids (posO pm x') := inO_of k1 hid
          obtain ⟨k, b, q2, rfl, q5⟩ := pappend_loc k2 hid h
          refine Loc.set q2 (by rw [hfp]; dsimp only; rw [hfs]; exact hin) (.inr (by rw [hfp]; dsimp only; rw [hfs]; exact hin)) fun K hK => st ?_
          rw [ho]
          simp only [pop, hal, htl, List.map_cons, List.map_nil, pbuiltin]
          exact q5 K (hK.inn id (.inr (by rw [hfp]; dsimp only; rw [hfs]; exact hin))) fun i hi => hK.rd (by rw [hfp]) (okO_of k3 y (by rw [hops, hal]; simp) i hi)
        | [], _, hx, h => simp at hx
        | [_], _, hx, h => simp [pbuiltin] at h
        | _ :: _ :: _ :: _, _, hx, h => simp [pbuiltin] at h
        | [_, _], [], hx, h => simp [pbuiltin] at h
        | [_, _], [_], hx, h => simp [pbuiltin] at h
        | [_, _], _ :: _ :: _ :: _, hx, h => simp [pbuiltin] at h
      · cases hk
    · rename_i hkind
      have hfp : fpOf pm rs ro o = ⟨opPos pm o.op, [], fstP pm o.op, []⟩ := by unfold fpOf; rw [hr, hkind]; rfl
      obtain ⟨args, ts, ho⟩ := kind_copy hkind
      have hops : o.op.operands.toList = args.toList := by rw [ho]; simp [Op.operands, Call.operands]
      have hf1 : fstO o.op = args.toList[0]? := by rw [ho]; rfl
      split at hk
      · rename_i x hx
        simp only [Bool.and_eq_true] at hk
        obtain ⟨k1, k3⟩ := hk
        have hfs : fstP pm o.op = posO pm x := by unfold fstP; rw [hx]
        rw [hf1] at hx
        rw [ho] at h
        simp only [pop] at h
        match hal : args.toList, htl : ts.toList, hx, h with
        | [x', y], [t, tx], hx, h =>
          simp only [List.getElem?_cons_zero, Option.some.injEq] at hx
          subst hx
          simp only [List.map_cons, List.map_nil, pbuiltin] at h
          obtain ⟨id, hid⟩ : ∃ id, topId (ev f x') = [id] := by
            unfold inO at k1
            split at k1
            · exact ⟨_, by assumption⟩
            · cases k1
          have hin : id ∈ atP ids (posO pm x') := inO_of k1 hid
          obtain ⟨k, b, q2, q3, rfl, q5⟩ := pcopy_loc hid h
          refine Loc.set q2 (by rw [hfp]; dsimp only; rw [hfs]; exact hin) (.inl q3) fun K hK => st ?_
          rw [ho]
          simp only [pop, hal, htl, List.map_cons, List.map_nil, pbuiltin]
          exact q5 K (hK.inn id (.inr (by rw [hfp]; dsimp only; rw [hfs]; exact hin))) fun i hi => hK.rd (by rw [hfp]) (okO_of k3 y (by rw [hops, hal]; simp) i hi)
        | [], _, hx, h => simp at hx
        | [_], _, hx, h => simp [pbuiltin] at h
        | _ :: _ :: _ :: _, _, hx, h => simp [pbuiltin] at h
        | [_, _], [], hx, h => simp [pbuiltin] at h
        | [_, _], [_], hx, h => simp [pbuiltin] at h
        | [_, _], _ :: _ :: _ :: _, hx, h => simp [pbuiltin] at h
      · cases hk
    · rename_i hkind
      have hfp : fpOf pm rs ro o = ⟨opPos pm o.op, [], fstP pm o.op, []⟩ := by unfold fpOf; rw [hr, hkind]; rfl
      obtain ⟨t, m, kk, x, ho⟩ := kind_map hkind
      have hp2 : ∀ K, pop P o.op f K = (pmset P K t (ev f m) (ev f kk) (ev f x)).map fun H' => (.tup [], H') := fun K => by rcases ho with ho | ho <;> rw [ho] <;> rfl
      have hf1 : fstO o.op = some m := by rcases ho with ho | ho <;> rw [ho] <;> rfl
      have hfs : fstP pm o.op = posO pm m := by unfold fstP; rw [hf1]
      rw [hf1] at hk
      simp only [Bool.and_eq_true] at hk
      obtain ⟨k1, k3⟩ := hk
      rw [hp2] at h
      simp only [Option.map_eq_some_iff, Prod.mk.injEq] at h
      obtain ⟨H1, h, rfl, rfl⟩ := h
      obtain ⟨id, k, b, q1, q2, q3, rfl, q5⟩ := pmset_loc h
      have hin : id ∈ atP ids (posO pm m) := inO_of k1 q1
      refine Loc.set q2 (by rw [hfp]; dsimp only; rw [hfs]; exact hin) (.inl q3) fun K hK => st ?_
      rw [hp2, q5 K (hK.inn id (.inr (by rw [hfp]; dsimp only; rw [hfs]; exact hin)))]
      rfl
    · cases hk

/-! ### the evaluation of such a region; 'dr': its order is drawn -/
def stpI (P : Program) (dr : Bool) (ids : List Nat) (pm : List (Nat × List Nat)) (rs : List (Nat × Nat)) (ds : List (Option Nat)) (o : Oper) (F : Fr) (H : Heap) : Option (Fr × Heap) :=
  match asked ds F o with
  | none => none
  | some b => cond b (match !dr || chkI ids pm rs o (slot F) with
    | true => (match popI P ids rs o (slot F) H with | some (v, H') => some (put F o.dst v, H') | none => none)
    | false => none) (some (put F o.dst (.tup []), H))
def VCj (P : Program) (dr : Bool) (ids : List Nat) (fp : Fp) (rs : List (Nat × Nat)) (o : Oper) (F : Fr) (H : Heap) (K : Fr → Heap → Prop) : Prop :=
  match pcallee o.op (slot F) with
  | some (g, args) => ∃ v H', (match dr with | true => Loc P ids rs fp o (slot F) H v H' | false => CallOk P g args H v H') ∧ K (put F o.dst v) H'
  | none => False
def VCi (P : Program) (dr : Bool) (ids : List Nat) (fp : Fp) (rs : List (Nat × Nat)) (ds : List (Option Nat)) (o : Oper) (F : Fr) (H : Heap) (K : Fr → Heap → Prop) : Prop :=
  match asked ds F o with
  | none => False
  | some b => (b = true → VCj P dr ids fp rs o F H K) ∧ (b = false → K (put F o.dst (.tup [])) H)
def VOi (P : Program) (dr : Bool) (ids : List Nat) (pm : List (Nat × List Nat)) (rs : List (Nat × Nat)) (ro : List Nat) (ds : List (Option Nat)) : List Oper → Option (Fr × Heap) → (Fr → Heap → Prop) → Prop
  | _, none, _ => False
  | [], some (F, H), K => K F H
  | o :: r, some (F, H), K => match isCall o.op with
    | false => VOi P dr ids pm rs ro ds r (stpI P dr ids pm rs ds o F H) K
    | true => VCi P dr ids (fpOf pm rs ro o) rs ds o F H fun F' H' => VOi P dr ids pm rs ro ds r (some (F', H')) K
def VRi (P : Program) (dr : Bool) (ids : List Nat) (pm : List (Nat × List Nat)) (rs : List (Nat × Nat)) (ro : List Nat) (ds : List (Option Nat)) (r : List Oper) (K : Fr → Heap → Prop) (F : Fr) (H : Heap) : Prop := VOi P dr ids pm rs ro ds r (some (F, H)) K
theorem VOi_nil (dr : Bool) (ids : List Nat) (pm : List (Nat × List Nat)) (rs : List (Nat × Nat)) (ro : List Nat) (ds : List (Option Nat)) (K : Fr → Heap → Prop) (F : Fr) (H : Heap) : VOi P dr ids pm rs ro ds [] (some (F, H)) K = K F H := rfl
theorem VOi_none (dr : Bool) (ids : List Nat) (pm : List (Nat × List Nat)) (rs : List (Nat × Nat)) (ro : List Nat) (ds : List (Option Nat)) (l : List Oper) (K : Fr → Heap → Prop) : VOi P dr ids pm rs ro ds l none K = False := by cases l <;> rfl
theorem VOi_step (dr : Bool) (ids : List Nat) (pm : List (Nat × List Nat)) (rs : List (Nat × Nat)) (ro : List Nat) (ds : List (Option Nat)) (o : Oper) (r : List Oper) (K : Fr → Heap → Prop) (F : Fr) (H : Heap) :
    VOi P dr ids pm rs ro ds (o :: r) (some (F, H)) K = match isCall o.op with | false => VOi P dr ids pm rs ro ds r (stpI P dr ids pm rs ds o F H) K | true => VCi P dr ids (fpOf pm rs ro o) rs ds o F H (VRi P dr ids pm rs ro ds r K) := by
  cases h : isCall o.op with
  | false => simp only [VOi, h]
  | true => simp only [VOi, h]; rfl
theorem VOi_cond {dr : Bool} {ids : List Nat} {pm : List (Nat × List Nat)} {rs : List (Nat × Nat)} {ro : List Nat} {ds : List (Option Nat)} {l : List Oper} {K : Fr → Heap → Prop} {x : Bool} {A B : Option (Fr × Heap)} (h1 : x = true → VOi P dr ids pm rs ro ds l A K) (h2 : x = false → VOi P dr ids pm rs ro ds l B K) : VOi P dr ids pm rs ro ds l (cond x A B) K := by
  cases x with
  | true => exact h1 rfl
  | false => exact h2 rfl

/-- A call that writes nothing and reads nothing of what is written. -/
theorem VCj.read {dr : Bool} {ids : List Nat} {fp : Fp} {rs : List (Nat × Nat)} {o : Oper} {K : Fr → Heap → Prop} {g : FuncId} {args : List PV} {v : PV} (h : ∀ L, Agr ids fp H L → CallOk P g args L v L) (hc : pcallee o.op (slot F) = some (g, args)) (hk : K (put F o.dst v) H) : VCj P dr ids fp rs o F H K := by
  unfold VCj
  simp only [hc]
  refine ⟨v, H, ?_, hk⟩
  cases dr with
  | false => exact h H (.refl _ _ _)
  | true => exact Loc.read fun L hL => by unfold StI; rw [hc]; exact h L hL
theorem asked_call {op : Op} (h : isCall op = false) (f : Nat → PV) : pcallee op f = none := by
  unfold pcallee
  split
  · simp [isCall] at h
  · rfl
theorem VOi_run {all : List Oper} {ids : List Nat} {pm : List (Nat × List Nat)} {rs : List (Nat × Nat)} {ro : List Nat} {K : Fr → Heap → Prop} : ∀ (l : List Oper) (F : Fr) (H : Heap), VOi P true ids pm rs ro (all.map (·.dst)) l (some (F, H)) K → RunG (ExI P all ids pm rs ro) l (slot F) H (fun f H' => ∃ F', f = slot F' ∧ K F' H')
  | [], F, H, h => ⟨F, rfl, h⟩
  | o :: r, F, H, h => by
    simp only [VOi] at h
    have go : ∀ v H', ExI P all ids pm rs ro o (slot F) H v H' → VOi P true ids pm rs ro (all.map (·.dst)) r (some (put F o.dst v, H')) K → RunG (ExI P all ids pm rs ro) (o :: r) (slot F) H (fun f H' => ∃ F', f = slot F' ∧ K F' H') := fun v H' he hr => by
      refine ⟨v, H', he, ?_⟩
      rw [← get_put]
      exact VOi_run r _ _ hr
    cases hc : isCall o.op with
    | false =>
      simp only [hc] at h
      unfold stpI at h
      split at h
      · rw [VOi_none] at h; exact h.elim
      · rename_i b hb
        cases b with
        | false => exact go _ _ (.inl ⟨asked_want all F o hb, rfl, rfl⟩) h
        | true =>
          simp only [cond_true, Bool.not_true, Bool.false_or] at h
          split at h
          · rename_i hk
            split at h
            · rename_i v H' hp
              exact go v H' (.inr ⟨asked_want all F o hb, popI_loc (asked_call hc _) hk hp⟩) h
            · rw [VOi_none] at h; exact h.elim
          · rw [VOi_none] at h; exact h.elim
    | true =>
      simp only [hc] at h
      unfold VCi at h
      split at h
      · exact h.elim
      · rename_i b hb
        cases b with
        | false => exact go _ _ (.inl ⟨asked_want all F o hb, rfl, rfl⟩) (h.2 rfl)
        | true =>
          have h := h.1 rfl
          unfold VCj at h
          split at h
          · rename_i fn args hp
            obtain ⟨v, H', h1, h2⟩ := h
            exact go v H' (.inr ⟨asked_want all F o hb, h1⟩) h2
          · exact h.elim
/-- ████ A region in any order, with footprints. ████ -/
theorem PW.drawi {E : Env} {Q : Exit → Fr → Heap → Prop} {id : Nat} {ops : Array Oper} (ids : List Nat) (pm : List (Nat × List Nat)) (rs : List (Nat × Nat)) (ro : List Nat) (hm : P.follows .mixedOrders = true) (hd : drawGs (compatI (ops.toList.map (·.dst)) pm rs ro) E.N ops.toList = true) (hnd : ids.Nodup)
    (h : ∀ K : Fr → Heap → Prop, (∀ F' H', Q .normal F' H' → K F' H') → VOi P true ids pm rs ro (ops.toList.map (·.dst)) ops.toList (some (F, H)) K) : PW P E (.region id ops true) F H Q := fun hs C a w hdf hw hf => by
  refine wp_region_any hm ?_
  have hr := VOi_run (P := P) _ _ _ (h (fun F' H' => Q .normal F' H') fun _ _ h => h)
  have hall : ∀ i, i < ops.toList.length → drawG (compatI (ops.toList.map (·.dst)) pm rs ro) (masks ops.toList) E.N ops.toList i = true := by
    intro i hi
    unfold drawGs at hd
    exact List.all_eq_true.1 hd i (List.mem_range.2 hi)
  refine any_gen (P := P) hall (swapI hnd) stepI ops.size (Array.replicate ops.size false) (slot F) H C a w.drew (by simp) ?_ (by rw [left_all]; simp) (by rw [left_all, all_ops]; exact hr) hdf hw.drew hf ?_
  · intro i o ho hl j hj
    have hi : i < ops.size := (Array.getElem?_eq_some_iff.1 ho).1
    simp [Array.getD, hi] at hl
  · rintro C' f' H' a' w' p1 p2 p3 p4 p5 ⟨F', rfl, p6⟩
    exact ⟨C', F', H', p1.toN _, p2, p3, ((Below.refl C.B w).drew).trans p4, p5, p6⟩

/-! ### in the order of the text, with reserved places -/
end Go.Proofs.YtahomnplappbpaaGreatDoor.Pm

namespace Go.Proofs.YtahomnplappbpaaGreatDoor.Pm
set_option linter.all false
set_option linter.unusedVariables false
set_option linter.unusedSimpArgs false
open Go.RowKit

attribute [go_sem] VOi_nil VOi_step VRi VCi stpI chkI popI resI grows pnew pnew0 kindI fstO fstP nilApp okO inO isMsl posOf posO opPos atP fpOf dis Call.operands List.filterMap_cons_some List.filterMap_nil List.filterMap_cons Array.toList_append

end Go.Proofs.YtahomnplappbpaaGreatDoor.Pm

namespace Go.Proofs.YtahomnplappbpaaGreatDoor.Pm
set_option linter.all false
set_option linter.unusedVariables false
set_option linter.unusedSimpArgs false
open Go.RowKit

variable {P : Program} {C : Ctx} {H K : Heap} {w : World} {F : Fr} {a : Act} {N : Nat}

def noeffT (rs : List (Nat × Nat)) (o : Oper) : Bool := match resI rs o with | some _ => false | none => !isCall o.op && !eff o.op
def compatT (ds : List (Option Nat)) (rs : List (Nat × Nat)) (x o : Oper) : Bool := clear ds x o && clear ds o x && noeffT rs x && noeffT rs o
def ExT (P : Program) (all : List Oper) (ids : List Nat) (rs : List (Nat × Nat)) (o : Oper) (f : Nat → PV) (H : Heap) (v : PV) (H' : Heap) : Prop :=
  (want all f o = some false ∧ v = .tup [] ∧ H' = H) ∨ (want all f o = some true ∧ StI P ids rs o f H v H')
theorem ExT.congr {all : List Oper} {ids : List Nat} {rs : List (Nat × Nat)} {o : Oper} {f g : Nat → PV} {v : PV} {H' : Heap} (h : ∀ t ∈ reads (all.map (·.dst)) o, f t = g t) (he : ExT P all ids rs o f H v H') : ExT P all ids rs o g H v H' := by
  have e1 : want all f o = want all g o := want_congr fun t ht => h t (List.mem_append.2 (.inr ht))
  have e2 : ∀ x ∈ o.op.operands.toList, ev f x = ev g x := fun x hx => ev_congr fun t ht => h t (List.mem_append.2 (.inl (mem_tmps (ht ▸ hx))))
  unfold ExT StI at he ⊢
  simp only [← e1, ← pcallee_congr e2, ← popI_congr e2]
  exact he
theorem ExT.same {all : List Oper} {ids : List Nat} {rs : List (Nat × Nat)} {o : Oper} {f : Nat → PV} {v : PV} {H' : Heap} (hn : noeffT rs o = true) (he : ExT P all ids rs o f H v H') : H' = H := by
  rcases he with ⟨_, _, e⟩ | ⟨_, h⟩
  · exact e
  unfold noeffT at hn
  cases hr : resI rs o with
  | some p => rw [hr] at hn; cases hn
  | none =>
    rw [hr] at hn
    simp only [Bool.and_eq_true, Bool.not_eq_true'] at hn
    unfold StI at h
    rw [asked_call hn.1] at h
    dsimp only at h
    unfold popI at h
    rw [hr] at h
    exact pop_noeff hn.2 h
theorem swapT {all : List Oper} {ids : List Nat} {rs : List (Nat × Nat)} : SwapG (ExT P all ids rs) (compatT (all.map (·.dst)) rs) := by
  intro x o f H vx Hx v H1 hc hx ho
  unfold compatT at hc
  simp only [Bool.and_eq_true] at hc
  obtain ⟨⟨⟨c1, c2⟩, c3⟩, c4⟩ := hc
  obtain rfl := hx.same c3
  obtain rfl := ho.same c4
  exact ⟨H1, ho.congr fun t ht => upd_other (clear_reads c1 t ht), hx.congr fun t ht => (upd_other (clear_reads c2 t ht)).symm, upd_comm (f := f) (u := vx) (v := v) (clear_dst c1)⟩
theorem stepT {ops : Array Oper} {ids : List Nat} {rs : List (Nat × Nat)} : StepG P N ops (ExT P ops.toList ids rs) := by
  intro o f H v H' C a w hd hw hf he
  rcases he with ⟨h1, h2, h3⟩ | ⟨h1, h2⟩
  · have hwant := want_sound hf h1
    rw [Array.toArray_toList] at hwant
    exact .inl ⟨hwant, h2, h3⟩
  · have hwant := want_sound hf h1
    rw [Array.toArray_toList] at hwant
    exact .inr ⟨hwant, fun next Q hn => stI_sound hd hw hf h2 _ _ hn⟩
theorem VOi_runT {all : List Oper} {ids : List Nat} {rs : List (Nat × Nat)} {K : Fr → Heap → Prop} : ∀ (l : List Oper) (F : Fr) (H : Heap), VOi P false ids [] rs [] (all.map (·.dst)) l (some (F, H)) K → RunG (ExT P all ids rs) l (slot F) H (fun f H' => ∃ F', f = slot F' ∧ K F' H')
  | [], F, H, h => ⟨F, rfl, h⟩
  | o :: r, F, H, h => by
    simp only [VOi] at h
    have go : ∀ v H', ExT P all ids rs o (slot F) H v H' → VOi P false ids [] rs [] (all.map (·.dst)) r (some (put F o.dst v, H')) K → RunG (ExT P all ids rs) (o :: r) (slot F) H (fun f H' => ∃ F', f = slot F' ∧ K F' H') := fun v H' he hr => by
      refine ⟨v, H', he, ?_⟩
      rw [← get_put]
      exact VOi_runT r _ _ hr
    cases hc : isCall o.op with
    | false =>
      simp only [hc] at h
      unfold stpI at h
      split at h
      · rw [VOi_none] at h; exact h.elim
      · rename_i b hb
        cases b with
        | false => exact go _ _ (.inl ⟨asked_want all F o hb, rfl, rfl⟩) h
        | true =>
          simp only [cond_true, Bool.not_false, Bool.true_or] at h
          split at h
          · rename_i v H' hp
            exact go v H' (.inr ⟨asked_want all F o hb, by unfold StI; rw [asked_call hc]; exact hp⟩) h
          · rw [VOi_none] at h; exact h.elim
    | true =>
      simp only [hc] at h
      unfold VCi at h
      split at h
      · exact h.elim
      · rename_i b hb
        cases b with
        | false => exact go _ _ (.inl ⟨asked_want all F o hb, rfl, rfl⟩) (h.2 rfl)
        | true =>
          have h := h.1 rfl
          unfold VCj at h
          split at h
          · rename_i fn args hp
            obtain ⟨v, H', h1, h2⟩ := h
            exact go v H' (.inr ⟨asked_want all F o hb, by unfold StI; rw [hp]; exact h1⟩) h2
          · exact h.elim
/-- ████ A region in any order, in which effects are ordered. ████ -/
theorem PW.drawt {E : Env} {Q : Exit → Fr → Heap → Prop} {id : Nat} {ops : Array Oper} (ids : List Nat) (rs : List (Nat × Nat)) (hm : P.follows .mixedOrders = true) (hd : drawGs (compatT (ops.toList.map (·.dst)) rs) E.N ops.toList = true)
    (h : ∀ K : Fr → Heap → Prop, (∀ F' H', Q .normal F' H' → K F' H') → VOi P false ids [] rs [] (ops.toList.map (·.dst)) ops.toList (some (F, H)) K) : PW P E (.region id ops true) F H Q := fun hs C a w hdf hw hf => by
  refine wp_region_any hm ?_
  have hr := VOi_runT (P := P) _ _ _ (h (fun F' H' => Q .normal F' H') fun _ _ h => h)
  have hall : ∀ i, i < ops.toList.length → drawG (compatT (ops.toList.map (·.dst)) rs) (masks ops.toList) E.N ops.toList i = true := by
    intro i hi
    unfold drawGs at hd
    exact List.all_eq_true.1 hd i (List.mem_range.2 hi)
  refine any_gen (P := P) hall swapT stepT ops.size (Array.replicate ops.size false) (slot F) H C a w.drew (by simp) ?_ (by rw [left_all]; simp) (by rw [left_all, all_ops]; exact hr) hdf hw.drew hf ?_
  · intro i o ho hl j hj
    have hi : i < ops.size := (Array.getElem?_eq_some_iff.1 ho).1
    simp [Array.getD, hi] at hl
  · rintro C' f' H' a' w' p1 p2 p3 p4 p5 ⟨F', rfl, p6⟩
    exact ⟨C', F', H', p1.toN _, p2, p3, ((Below.refl C.B w).drew).trans p4, p5, p6⟩
/-- A call, in the order of the text. -/
theorem VCj.now {ids : List Nat} {fp : Fp} {rs : List (Nat × Nat)} {o : Oper} {K : Fr → Heap → Prop} {g : FuncId} {args : List PV} {v : PV} {H' : Heap} (h : CallOk P g args H v H') (hc : pcallee o.op (slot F) = some (g, args)) (hk : K (put F o.dst v) H') : VCj P false ids fp rs o F H K := by
  unfold VCj
  simp only [hc]
  exact ⟨v, H', h, hk⟩

end Go.Proofs.YtahomnplappbpaaGreatDoor.Pm

namespace Go.Proofs.YtahomnplappbpaaGreatDoor.Sc
set_option linter.all false
set_option linter.unusedVariables false
set_option linter.unusedSimpArgs false
open Pm Ty Go.RowKit

/-- Counting up. -/
theorem cnt {R : Nat → Prop} (n : Nat) (hs : ∀ j, j < n → R (j + 1) → R j) (hl : R n) : ∀ j, j ≤ n → R j := fun j hj => by
  induction hd : n - j using Nat.strongRecOn generalizing j with
  | _ d ih =>
    by_cases h : j < n
    · exact hs j h (ih (n - (j + 1)) (by omega) (j + 1) (by omega) rfl)
    · rw [show j = n by omega]; exact hl
theorem lt_t {j n : Nat} (h : j < n) : decide ((j : Int) < (n : Int)) = true := decide_eq_true (by omega)
theorem lt_f (n : Nat) : decide ((n : Int) < (n : Int)) = false := decide_eq_false (by omega)

end Go.Proofs.YtahomnplappbpaaGreatDoor.Sc
