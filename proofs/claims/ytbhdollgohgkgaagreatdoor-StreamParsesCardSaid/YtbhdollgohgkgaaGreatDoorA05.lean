/-
  Parts of the proof. No condition.
-/
import Derived.Test.YtbhdollgohgkgaaGreatDoorA04
import Derived.Orders
namespace Go.Proofs.YtbhdollgohgkgaaGreatDoor.Pm
set_option linter.all false
set_option linter.unusedVariables false
set_option linter.unusedSimpArgs false
open Go.RowKit

variable {P : Program} {C : Ctx} {H : Heap} {w : World} {F : Fr} {a : Act} {N : Nat}

/-! ### what an operation reads, and what it may do to the heap -/
def tmpsOf (xs : List Operand) : List Nat := xs.filterMap fun | .tmp t => some t | _ => none
def gread (ds : List (Option Nat)) (o : Oper) : List Nat := match o.guard with | none => [] | some (j, _) => match ds[j]? with | some (some d) => [d] | _ => []
def reads (ds : List (Option Nat)) (o : Oper) : List Nat := tmpsOf o.op.operands.toList ++ gread ds o
def effB : Builtin → Bool
  | .len | .min | .max => false
  | _ => true
def eff : Op → Bool
  | .box .. | .alloc .. | .store .. | .makeSlice .. | .makeMap .. | .mapUpdate .. | .insert .. => true
  | .call { callee := .builtin b, .. } => effB b
  | _ => false
def arith : BinOp → Bool
  | .add | .sub => true
  | _ => false
def pureOp : Op → Bool
  | .move _ | .assign _ | .pick .. | .build .. | .buildSlice .. | .unOp .. | .field .. | .index .. | .extract .. => true
  | .binOp op _ _ y _ => arith op && !isNilSl y
  | _ => false
/-- A call of a named function without arguments. -/
def pureCall : Op → Bool
  | .call { callee := .value (.func _), args, .. } => args.toList.isEmpty
  | _ => false
def clear (ds : List (Option Nat)) (x y : Oper) : Bool := match x.dst with
  | none => true
  | some d => !((reads ds y).elem d) && !(y.dst == some d)
/-- It only adds a block. -/
def grow : Op → Bool
  | .alloc .. | .box .. | .makeSlice .. | .makeMap .. => true
  | _ => false
/-- May y be done ahead of x? 'g': what is read and called may stand ahead of new blocks. -/
def compat (ds : List (Option Nat)) (x y : Oper) (g : Bool := false) : Bool := clear ds x y && clear ds y x && ((!eff x.op && !eff y.op) || (pureOp x.op || pureCall x.op) || (pureOp y.op || pureCall y.op) || (g && (!eff x.op && grow y.op)))

theorem ev_congr {f g : Nat → PV} {x : Operand} (h : ∀ t, x = .tmp t → f t = g t) : ev f x = ev g x := by
  cases x <;> simp only [ev]
  simp_all
theorem evs_congr {f g : Nat → PV} {xs : List Operand} (h : ∀ x ∈ xs, ev f x = ev g x) : xs.map (ev f) = xs.map (ev g) := List.map_congr_left h
theorem pop_congr {f g : Nat → PV} {op : Op} (h : ∀ x ∈ op.operands.toList, ev f x = ev g x) : pop P op f H = pop P op g H := by
  cases op
  case build t ps =>
    have : ps.toList.map (fun p => (p.1, ev f p.2)) = ps.toList.map (fun p => (p.1, ev g p.2)) := List.map_congr_left fun p hp => by rw [h p.2 (by simp [Op.operands]; exact ⟨_, Array.mem_toList_iff.1 hp⟩)]
    simp only [pop, this]
  case buildSlice t n ps =>
    have : ps.toList.map (fun p => (p.1, ev f p.2)) = ps.toList.map (fun p => (p.1, ev g p.2)) := List.map_congr_left fun p hp => by rw [h p.2 (by simp [Op.operands]; exact ⟨_, Array.mem_toList_iff.1 hp⟩)]
    simp only [pop, this]
  case slice t x l hh m =>
    have e1 : ev f x = ev g x := h x (by simp [Op.operands])
    have e2 : l.map (ev f) = l.map (ev g) := by cases l with | none => rfl | some y => simp [h y (by simp [Op.operands])]
    have e3 : hh.map (ev f) = hh.map (ev g) := by cases hh with | none => rfl | some y => simp [h y (by simp [Op.operands])]
    have e4 : m.map (ev f) = m.map (ev g) := by cases m with | none => rfl | some y => simp [h y (by simp [Op.operands])]
    simp only [pop, e1, e2, e3, e4]
  case makeFunc fn a b =>
    have e1 : a.toList.map (ev f) = a.toList.map (ev g) := evs_congr fun x hx => h x (by simp [Op.operands]; exact .inl (Array.mem_toList_iff.1 hx))
    have e2 : b.toList.map (ev f) = b.toList.map (ev g) := evs_congr fun x hx => h x (by simp [Op.operands]; exact .inr (Array.mem_toList_iff.1 hx))
    cases fn <;> simp only [pop, e1, e2]
  case call c =>
    obtain ⟨callee, args, ts⟩ := c
    have e1 : args.toList.map (ev f) = args.toList.map (ev g) := evs_congr fun x hx => h x (by simp [Op.operands, Call.operands]; exact .inr (Array.mem_toList_iff.1 hx))
    cases callee <;> simp only [pop, e1]
  case makeMap t r => cases r <;> simp only [pop]
  all_goals simp only [pop]
  all_goals simp only [Op.operands, List.mem_cons, List.not_mem_nil, or_false, forall_eq_or_imp, forall_eq] at h
  all_goals simp_all
theorem pcallee_congr {f g : Nat → PV} {op : Op} (h : ∀ x ∈ op.operands.toList, ev f x = ev g x) : pcallee op f = pcallee op g := by
  unfold pcallee
  split
  · rename_i fn args ts
    have e1 : ev f fn = ev g fn := h fn (by simp [Op.operands, Call.operands])
    have e2 : args.toList.map (ev f) = args.toList.map (ev g) := evs_congr fun x hx => h x (by simp [Op.operands, Call.operands]; exact .inr (Array.mem_toList_iff.1 hx))
    rw [e1, e2]
  · rfl
theorem pop_noeff {f : Nat → PV} {op : Op} {v : PV} {H' : Heap} (h : eff op = false) (hp : pop P op f H = some (v, H')) : H' = H := by
  unfold pop at hp
  split at hp <;> first
    | (simp only [Option.some.injEq, Prod.mk.injEq] at hp; exact hp.2.symm)
    | (simp only [Option.map_eq_some_iff, Prod.mk.injEq] at hp; obtain ⟨_, _, _, h2⟩ := hp; exact h2.symm)
    | (simp [eff] at h; done)
    | skip
  · grind
  · grind [Option.map_eq_some_iff, Prod.mk.injEq]
  · grind
  · rename_i b args ts
    simp only [eff] at h
    unfold pbuiltin at hp
    grind [Option.map_eq_some_iff, Prod.mk.injEq, effB]
  · cases hp
theorem pbin_arith {op : BinOp} {t : TypeId} {x y v : PV} (ha : arith op = true) (h : pbin P H op t x y = some v) (K : Heap) : pbin P K op t x y = some v := by
  unfold pbin at h ⊢
  split at h <;> try (exact h)
  · split at h
    · cases op <;> first | (cases ha; done) | (cases h; done)
    · cases h
  · split at h
    · cases op <;> first | (cases ha; done) | (cases h; done)
    · cases h
theorem pop_pure {f : Nat → PV} {op : Op} {v : PV} {H' : Heap} (h : pureOp op = true) (hp : pop P op f H = some (v, H')) (K : Heap) : H' = H ∧ pop P op f K = some (v, K) := by
  cases op <;> simp only [pureOp, Bool.false_eq_true] at h <;> simp only [pop] at hp ⊢
  case move => simp at hp ⊢; exact ⟨hp.2.symm, hp.1⟩
  case assign => simp at hp ⊢; exact ⟨hp.2.symm, hp.1⟩
  case pick =>
    split at hp <;> simp at hp ⊢
    all_goals simp_all
  case extract =>
    split at hp
    all_goals grind [Option.map_eq_some_iff, Prod.mk.injEq]
  case binOp op t x y r =>
    rw [Bool.and_eq_true] at h
    have hn : isNilSl y = false := by simp_all
    simp only [hn] at hp ⊢
    split at hp
    all_goals grind [Option.map_eq_some_iff, Prod.mk.injEq, pbin_arith]
  all_goals grind [Option.map_eq_some_iff, Prod.mk.injEq]

/-! ### one operation, and a row of them, over slots as a function -/
theorem live_ext (K : Heap) {id ver : Nat} (h : live H id ver = true) : live (H ++ K) id ver = true := by
  unfold live at h ⊢
  grind
theorem scells_ext (K : Heap) {sz : Nat} {x : PV} {c : List PV × Nat} (h : scells H sz x = some c) : scells (H ++ K) sz x = some c := by
  cases x <;> simp only [scells] at h ⊢ <;> try (exact h)
  grind
theorem pload_ext (K : Heap) {t : TypeId} {x v : PV} (h : pload P H t x = some v) : pload P (H ++ K) t x = some v := by
  cases x <;> simp only [pload] at h ⊢ <;> try (exact h)
  grind
theorem pnil_ext (K : Heap) {x v : PV} (h : pnil H x = some v) : pnil (H ++ K) x = some v := by
  cases x <;> simp only [pnil] at h ⊢ <;> try (exact h)
  grind [live, live_ext]
theorem pbin_ext (K : Heap) {op : BinOp} {t : TypeId} {x y v : PV} (h : pbin P H op t x y = some v) : pbin P (H ++ K) op t x y = some v := by
  unfold pbin at h ⊢
  split at h <;> try (exact h)
  · rename_i id ver off
    cases hl : live H id ver with
    | false => rw [hl, Bool.and_false] at h; cases h
    | true => rw [hl] at h; simp only [live_ext K hl]; exact h
  · rename_i id ver off
    cases hl : live H id ver with
    | false => rw [hl, Bool.and_false] at h; cases h
    | true => rw [hl] at h; simp only [live_ext K hl]; exact h
theorem pnilcmp_ext (K : Heap) {op : BinOp} {t : TypeId} {x v : PV} (h : pnilcmp P H op t x = some v) : pnilcmp P (H ++ K) op t x = some v := by
  unfold pnilcmp at h ⊢
  grind [live_ext]
theorem pconv_ext (K : Heap) {s d : TypeId} {x v : PV} (h : pconv P H s d x = some v) : pconv P (H ++ K) s d x = some v := by
  unfold pconv at h ⊢
  grind [Option.bind_eq_some_iff, scells_ext]
theorem pslice_ext (K : Heap) {t : TypeId} {x v : PV} {lo hi mx : Option PV} (h : pslice P H t x lo hi mx = some v) : pslice P (H ++ K) t x lo hi mx = some v := by
  unfold pslice at h ⊢
  split at h <;> try (exact h)
  all_goals grind [live, live_ext]
theorem pfieldAddr_ext (K : Heap) {s : TypeId} {x v : PV} {f : Nat} (h : pfieldAddr P H s x f = some v) : pfieldAddr P (H ++ K) s x f = some v := by
  cases x <;> simp only [pfieldAddr] at h ⊢ <;> try (exact h)
  grind [live, live_ext]
theorem pindexAddr_ext (K : Heap) {t : TypeId} {x i v : PV} (h : pindexAddr P H t x i = some v) : pindexAddr P (H ++ K) t x i = some v := by
  unfold pindexAddr at h ⊢
  split at h <;> try (exact h)
  all_goals grind [live, live_ext]
theorem plook_ext (K : Heap) {t : TypeId} {m k v : PV} {ok : Bool} (h : plook P H t m k ok = some v) : plook P (H ++ K) t m k ok = some v := by
  unfold plook at h ⊢
  have key : ∀ r, pmapOf P H t m = some r → pmapOf P (H ++ K) t m = some r := fun r hr => by
    unfold pmapOf at hr ⊢
    grind
  grind
theorem plen_ext (K : Heap) {t : TypeId} {x v : PV} (h : plen P H t x = some v) : plen P (H ++ K) t x = some v := by
  unfold plen at h ⊢
  grind [live, live_ext]
theorem map_ext (K : Heap) {a b : Option PV} {v : PV} {H' : Heap} (h : (a.map fun v => (v, H)) = some (v, H')) (hab : ∀ v, a = some v → b = some v) : (b.map fun v => (v, H ++ K)) = some (v, H ++ K) := by
  grind [Option.map_eq_some_iff, Prod.mk.injEq]
/-- What only reads gives the same if there are more blocks. -/
theorem pop_ext (K : Heap) {f : Nat → PV} {op : Op} {v : PV} {H' : Heap} (h : eff op = false) (hp : pop P op f H = some (v, H')) : pop P op f (H ++ K) = some (v, H ++ K) := by
  cases op <;> try (simp [eff] at h; done)
  case move => simp only [pop, Option.some.injEq, Prod.mk.injEq] at hp ⊢; exact ⟨hp.1, trivial⟩
  case assign => simp only [pop, Option.some.injEq, Prod.mk.injEq] at hp ⊢; exact ⟨hp.1, trivial⟩
  case pick => exact (pop_pure (by rfl) hp (H ++ K)).2
  case build => exact (pop_pure (by rfl) hp (H ++ K)).2
  case buildSlice => exact (pop_pure (by rfl) hp (H ++ K)).2
  case unOp => exact (pop_pure (by rfl) hp (H ++ K)).2
  case field => exact (pop_pure (by rfl) hp (H ++ K)).2
  case index => exact (pop_pure (by rfl) hp (H ++ K)).2
  case extract => exact (pop_pure (by rfl) hp (H ++ K)).2
  case load => simp only [pop] at hp ⊢; exact map_ext K hp fun v h => pload_ext K h
  case nilCheck => simp only [pop] at hp ⊢; exact map_ext K hp fun v h => pnil_ext K h
  case binOp =>
    simp only [pop] at hp ⊢
    split at hp
    · grind [map_ext, pnilcmp_ext]
    split at hp
    all_goals grind [map_ext, pbin_ext]
  case convert => simp only [pop] at hp ⊢; exact map_ext K hp fun v h => pconv_ext K h
  case makeFunc fn a b => cases fn <;> simp only [pop, Option.some.injEq, Prod.mk.injEq] at hp ⊢ <;> first | exact ⟨hp.1, trivial⟩ | cases hp
  case slice => simp only [pop] at hp ⊢; exact map_ext K hp fun v h => pslice_ext K h
  case fieldAddr => simp only [pop] at hp ⊢; exact map_ext K hp fun v h => pfieldAddr_ext K h
  case indexAddr => simp only [pop] at hp ⊢; exact map_ext K hp fun v h => pindexAddr_ext K h
  case lookup => simp only [pop] at hp ⊢; exact map_ext K hp fun v h => plook_ext K h
  case call c =>
    obtain ⟨callee, args, ts⟩ := c
    cases callee with
    | builtin b =>
      simp only [pop] at hp ⊢
      simp only [eff] at h
      unfold pbuiltin at hp ⊢
      split at hp
      all_goals grind [map_ext, plen_ext, effB]
    | _ => simp only [pop] at hp; cases hp
  all_goals simp_all [pop]
theorem pop_grow {f : Nat → PV} {op : Op} {v : PV} {H' : Heap} (h : grow op = true) (hp : pop P op f H = some (v, H')) : ∃ K, H' = H ++ K := by
  cases op <;> try (simp [grow] at h; done)
  case alloc => simp only [pop, Option.map_eq_some_iff, Prod.mk.injEq] at hp; obtain ⟨z, _, _, h2⟩ := hp; exact ⟨_, h2.symm⟩
  case box =>
    grind [pop, Option.some.injEq, Prod.mk.injEq]
  case makeSlice =>
    simp only [pop, pmake] at hp
    grind
  case makeMap t r =>
    cases r with
    | none => simp only [pop, Option.some.injEq, Prod.mk.injEq] at hp; exact ⟨_, hp.2.symm⟩
    | some _ => simp only [pop] at hp; cases hp
theorem grow_callee {f : Nat → PV} {op : Op} (h : grow op = true) : pcallee op f = none := by
  unfold pcallee
  split
  · simp [grow] at h
  · rfl

def Ex (P : Program) (all : List Oper) (g : Bool) (o : Oper) (f : Nat → PV) (H : Heap) (v : PV) (H' : Heap) : Prop :=
  (want all f o = some false ∧ v = .tup [] ∧ H' = H) ∨
  (want all f o = some true ∧ match pcallee o.op f with | some (fn, args) => H' = H ∧ CallOk P fn args H v H ∧ (pureCall o.op = true → ∀ K, CallOk P fn args K v K) ∧ (g = true → ∀ K, CallOk P fn args (H ++ K) v (H ++ K)) | none => pop P o.op f H = some (v, H'))
def Run (P : Program) (all : List Oper) (g : Bool) : List Oper → (Nat → PV) → Heap → ((Nat → PV) → Heap → Prop) → Prop
  | [], f, H, K => K f H
  | o :: r, f, H, K => ∃ v H', Ex P all g o f H v H' ∧ Run P all g r (upd f o.dst v) H' K

theorem upd_other {f : Nat → PV} {d : Option Nat} {v : PV} {t : Nat} (h : d ≠ some t) : upd f d v t = f t := by
  cases d with
  | none => rfl
  | some d => simp only [upd]; rw [if_neg (fun e => h (by rw [e]))]
theorem upd_comm {f : Nat → PV} {d e : Option Nat} {u v : PV} (h : ∀ t, d = some t → e ≠ some t) : upd (upd f d u) e v = upd (upd f e v) d u := by
  cases d with
  | none => rfl
  | some d =>
    cases e with
    | none => rfl
    | some e =>
      grind [upd]

theorem mem_tmps {xs : List Operand} {t : Nat} (h : .tmp t ∈ xs) : t ∈ tmpsOf xs := List.mem_filterMap.2 ⟨_, h, rfl⟩
theorem want_congr {all : List Oper} {f g : Nat → PV} {o : Oper} (h : ∀ t ∈ gread (all.map (·.dst)) o, f t = g t) : want all f o = want all g o := by
  unfold want
  unfold gread at h
  cases hg : o.guard with
  | none => rfl
  | some jb =>
    grind

theorem Ex.congr {all : List Oper} {b : Bool} {o : Oper} {f g : Nat → PV} {v : PV} {H' : Heap} (h : ∀ t ∈ reads (all.map (·.dst)) o, f t = g t) (he : Ex P all b o f H v H') : Ex P all b o g H v H' := by
  have e1 : want all f o = want all g o := want_congr fun t ht => h t (List.mem_append.2 (.inr ht))
  have e2 : ∀ x ∈ o.op.operands.toList, ev f x = ev g x := fun x hx => ev_congr fun t ht => h t (List.mem_append.2 (.inl (mem_tmps (ht ▸ hx))))
  grind [Ex, pcallee_congr, pop_congr]
theorem Ex.noeff {all : List Oper} {g : Bool} {o : Oper} {f : Nat → PV} {v : PV} {H' : Heap} (h : eff o.op = false) (he : Ex P all g o f H v H') : H' = H := by
  rcases he with ⟨_, _, he⟩ | ⟨_, he⟩
  all_goals grind [pop_noeff]
theorem Ex.pure {all : List Oper} {g : Bool} {o : Oper} {f : Nat → PV} {v : PV} {H' : Heap} (h : pureOp o.op = true ∨ pureCall o.op = true) (he : Ex P all g o f H v H') (K : Heap) : H' = H ∧ Ex P all g o f K v K := by
  rcases h with h | h
  rotate_left
  · rcases he with ⟨h1, h2, h3⟩ | ⟨h1, h2⟩
    · exact ⟨h3, .inl ⟨h1, h2, rfl⟩⟩
    · have hc : ∃ fn args, pcallee o.op f = some (fn, args) := by
        unfold pureCall at h
        split at h
        · rename_i g args ts ho; rw [ho]; exact ⟨_, _, rfl⟩
        · cases h
      obtain ⟨fn, args, hc⟩ := hc
      simp only [hc] at h2
      exact ⟨h2.1, .inr ⟨h1, by rw [hc]; exact ⟨rfl, h2.2.2.1 h K, h2.2.2.1, fun _ K' => h2.2.2.1 h (K ++ K')⟩⟩⟩
  have hc : pcallee o.op f = none := by
    unfold pcallee
    grind [pureOp]
  rcases he with ⟨h1, h2, h3⟩ | ⟨h1, h2⟩
  · exact ⟨h3, .inl ⟨h1, h2, rfl⟩⟩
  · rw [hc] at h2
    obtain ⟨h3, h4⟩ := pop_pure h h2 K
    exact ⟨h3, .inr ⟨h1, by rw [hc]; exact h4⟩⟩

theorem clear_reads {ds : List (Option Nat)} {x y : Oper} (h : clear ds x y = true) : ∀ t ∈ reads ds y, x.dst ≠ some t := fun t ht he => by
  simp_all [clear, Bool.and_eq_true, Bool.not_eq_true', List.elem_eq_mem]
theorem clear_dst {ds : List (Option Nat)} {x y : Oper} (h : clear ds x y = true) : ∀ t, x.dst = some t → y.dst ≠ some t := fun t he hy => by
  simp_all [clear, Bool.and_eq_true, Bool.not_eq_true']

/-- What reads or calls, with more blocks. -/
theorem Ex.ext {all : List Oper} {o : Oper} {f : Nat → PV} {v : PV} {H' : Heap} (h : eff o.op = false) (he : Ex P all true o f H v H') (K : Heap) : Ex P all true o f (H ++ K) v (H ++ K) := by
  rcases he with ⟨h1, h2, h3⟩ | ⟨h1, h2⟩
  · exact .inl ⟨h1, h2, rfl⟩
  · refine .inr ⟨h1, ?_⟩
    grind [List.append_assoc, pop_ext]
theorem Ex.swap {all : List Oper} {g : Bool} {x o : Oper} {f : Nat → PV} {vx v : PV} {Hx H1 : Heap} (hc : compat (all.map (·.dst)) x o g = true) (hx : Ex P all g x f H vx Hx) (ho : Ex P all g o (upd f x.dst vx) Hx v H1) :
    ∃ H3, Ex P all g o f H v H3 ∧ Ex P all g x (upd f o.dst v) H3 vx H1 ∧ upd (upd f x.dst vx) o.dst v = upd (upd f o.dst v) x.dst vx := by
  unfold compat at hc
  simp only [Bool.and_eq_true, Bool.or_eq_true, Bool.not_eq_true'] at hc
  obtain ⟨⟨c1, c2⟩, c3⟩ := hc
  have ho' : Ex P all g o f Hx v H1 := ho.congr fun t ht => upd_other (clear_reads c1 t ht)
  have hx' : ∀ K K', Ex P all g x f K vx K' → Ex P all g x (upd f o.dst v) K vx K' := fun K K' h => h.congr fun t ht => (upd_other (clear_reads c2 t ht)).symm
  have hcm := upd_comm (f := f) (u := vx) (v := v) (clear_dst c1)
  rcases c3 with ((⟨e1, e2⟩ | e1) | e1) | ⟨rfl, e1, e2⟩
  · obtain rfl := hx.noeff e1
    obtain rfl := ho'.noeff e2
    exact ⟨_, ho', hx' _ _ hx, hcm⟩
  · obtain ⟨rfl, hp⟩ := hx.pure e1 H1
    exact ⟨H1, ho', hx' _ _ hp, hcm⟩
  · obtain ⟨rfl, hp⟩ := ho'.pure e1 H
    exact ⟨H, hp, hx' _ _ hx, hcm⟩
  · obtain rfl := hx.noeff e1
    have hk : ∃ K, H1 = Hx ++ K := by
      rcases ho' with ⟨_, _, h3⟩ | ⟨_, h3⟩
      · simp_all
      grind [grow_callee, pop_grow]
    obtain ⟨K, rfl⟩ := hk
    exact ⟨_, ho', hx' _ _ (hx.ext e1 K), hcm⟩

theorem Run.front {all : List Oper} {g : Bool} {K : (Nat → PV) → Heap → Prop} {o : Oper} {l2 : List Oper} : ∀ (l1 : List Oper) (f : Nat → PV) (H : Heap), Run P all g (l1 ++ o :: l2) f H K → (∀ x ∈ l1, compat (all.map (·.dst)) x o g = true) →
    ∃ v H1, Ex P all g o f H v H1 ∧ Run P all g (l1 ++ l2) (upd f o.dst v) H1 K
  | [], f, H, h, _ => h
  | x :: l1, f, H, h, hc => by
    obtain ⟨vx, Hx, hx, hr⟩ := h
    obtain ⟨v, H1, ho, hr2⟩ := Run.front l1 _ _ hr (fun y hy => hc y (List.mem_cons_of_mem _ hy))
    obtain ⟨H3, g1, g2, g3⟩ := hx.swap (hc x (List.mem_cons_self ..)) ho
    exact ⟨v, H3, g1, vx, H1, g2, g3 ▸ hr2⟩

/-! ### the orders that may be drawn -/
def bnd (o : Oper) : List Nat := (o.after.toList.filter (Region.binds .any)).map (·.on)
def maskStep (ms : List Nat) (o : Oper) : Nat := (bnd o).foldl (fun m j => m ||| ms.getD j 0 ||| 2 ^ j) 0
def masks (ops : List Oper) : List Nat := ops.foldl (fun ms o => ms ++ [maskStep ms o]) []
def drawAt (ms : List Nat) (ds : List (Option Nat)) (N : Nat) (ops : List Oper) (i : Nat) (g : Bool := false) : Bool := match ops[i]? with
  | none => false
  | some o => dstOk N o && (bnd o).all (fun j => Nat.blt j i) && (Nat.beq (ms.getD i 0) (maskStep ms o)) && (List.range i).all fun j => (ms.getD i 0).testBit j || (match ops[j]? with | some x => compat ds x o g | none => false)
def drawOk (N : Nat) (ops : List Oper) (g : Bool := false) : Bool := (List.range ops.length).all fun i => drawAt (masks ops) (ops.map (·.dst)) N ops i g

theorem fold_bits (ms : List Nat) (j : Nat) : ∀ (l : List Nat) (m : Nat), (l.foldl (fun m j => m ||| ms.getD j 0 ||| 2 ^ j) m).testBit j = true → m.testBit j = true ∨ ∃ k ∈ l, (ms.getD k 0).testBit j = true ∨ k = j
  | [], m, h => .inl h
  | k :: l, m, h => by
    rcases fold_bits ms j l _ h with h | ⟨k', hk, h⟩
    all_goals grind

theorem drawAt_of {g : Bool} {ms : List Nat} {ds : List (Option Nat)} {ops : List Oper} {i : Nat} {o : Oper} (ho : ops[i]? = some o) (h : drawAt ms ds N ops i g = true) :
    dstOk N o = true ∧ (∀ j ∈ bnd o, j < i) ∧ ms.getD i 0 = maskStep ms o ∧ ∀ j, j < i → (ms.getD i 0).testBit j = true ∨ ∃ x, ops[j]? = some x ∧ compat ds x o g = true := by
  unfold drawAt at h
  simp only [ho, Bool.and_eq_true, List.all_eq_true, List.mem_range, Bool.or_eq_true] at h
  obtain ⟨⟨⟨h1, h2⟩, h3⟩, h4⟩ := h
  refine ⟨h1, fun j hj => by simpa [Nat.blt_eq] using h2 j hj, Nat.eq_of_beq_eq_true h3, fun j hj => ?_⟩
  rcases h4 j hj with h | h
  · exact .inl h
  · split at h
    · rename_i x hx; exact .inr ⟨x, hx, h⟩
    · cases h

theorem mask_in {g : Bool} {ms : List Nat} {ds : List (Option Nat)} {ops : List Oper} (hall : ∀ i, i < ops.length → drawAt ms ds N ops i g = true) {S : Nat → Prop} (down : ∀ i o, ops[i]? = some o → S i → ∀ j ∈ bnd o, S j) :
    ∀ (i : Nat) (o : Oper), ops[i]? = some o → (∀ j ∈ bnd o, S j) → ∀ j, (ms.getD i 0).testBit j = true → S j := by
  intro i
  induction i using Nat.strongRecOn with
  | _ i ih =>
    intro o ho hp j hj
    have hi := (List.getElem?_eq_some_iff.1 ho).1
    obtain ⟨_, h2, h3, _⟩ := drawAt_of ho (hall i hi)
    rw [h3, maskStep] at hj
    rcases fold_bits ms j _ _ hj with h | ⟨k, hk, h⟩
    all_goals grind

def left (n : Nat) (listed : Array Bool) : List Nat := (List.range n).filter fun i => !listed.getD i true
theorem left_sorted (n : Nat) (listed : Array Bool) : (left n listed).Pairwise (· < ·) := List.Pairwise.filter _ List.pairwise_lt_range
theorem mem_left {n i : Nat} {listed : Array Bool} : i ∈ left n listed ↔ i < n ∧ listed.getD i true = false := by simp [left]
theorem getD_set (listed : Array Bool) (i k : Nat) (h : i < listed.size) : (listed.setIfInBounds i true).getD k true = if k = i then true else listed.getD k true := by
  rw [Array.getD_eq_getD_getElem?, Array.getElem?_setIfInBounds, Array.getD_eq_getD_getElem?]
  grind
theorem left_set {n i : Nat} {listed : Array Bool} {l1 l2 : List Nat} (h : i < listed.size) (hl : left n listed = l1 ++ i :: l2) : left n (listed.setIfInBounds i true) = l1 ++ l2 := by
  have e : left n (listed.setIfInBounds i true) = (left n listed).filter (fun k => k != i) := by
    unfold left
    rw [List.filter_filter]
    grind [List.filter_congr, getD_set]
  have hs := left_sorted n listed
  rw [hl, List.pairwise_append, List.pairwise_cons] at hs
  grind [List.filter_cons_of_neg, List.filter_eq_self.2]

theorem any_sound {g : Bool} {ops : Array Oper} {Q : Exit → Act → World → Prop} {K : (Nat → PV) → Heap → Prop} (hall : ∀ i, i < ops.toList.length → drawAt (masks ops.toList) (ops.toList.map (·.dst)) N ops.toList i g = true) :
    ∀ (fuel : Nat) (listed : Array Bool) (f : Nat → PV) (H : Heap) (C : Ctx) (a : Act) (w : World), listed.size = ops.size → (∀ i o, ops[i]? = some o → listed.getD i true = true → ∀ j ∈ bnd o, listed.getD j true = true) →
      fuel = (left ops.size listed).length → Run P ops.toList g ((left ops.size listed).filterMap fun i => ops[i]?) f H K → a.defers = [] → WRel C H w → FRel C N f a →
      (∀ C' f' H' a' w', CLe C C' → a'.defers = [] → WRel C' H' w' → Below C.B w w' → FRel C' N f' a' → K f' H' → Q .normal a' w') → wpAny P .any ops Q fuel listed a w := by
  have rdy : ∀ (listed : Array Bool) (i : Nat), i ∈ Region.ready .any ops listed ↔ i ∈ left ops.size listed ∧ ∃ o, ops[i]? = some o ∧ ∀ e ∈ o.after.toList, Region.binds .any e = true → listed.getD e.on false = true := by
    intro listed i
    unfold Region.ready
    rw [List.mem_filter, mem_left, List.mem_range]
    constructor
    · rintro ⟨h1, h2⟩
      simp only [Bool.and_eq_true, Bool.not_eq_true'] at h2
      grind [Array.getElem?_eq_getElem, Array.all_eq_true_iff_forall_mem, Array.mem_toList_iff.1]
    grind
  intro fuel
  induction fuel with
  | zero =>
    intro listed f H C a w hsz hdown hfu hr hd hw hf hQ
    have hnil : left ops.size listed = [] := List.eq_nil_of_length_eq_zero hfu.symm
    refine ⟨List.eq_nil_iff_forall_not_mem.2 fun i hi => ?_, ?_⟩
    · simp_all
    · rw [hnil] at hr
      exact hQ C f H a w (.refl _) hd hw (.refl _ _) hf hr
  | succ fuel ih =>
    intro listed f H C a w hsz hdown hfu hr hd hw hf hQ
    refine ⟨fun hnone => ?_, fun i hi => ?_⟩
    · exfalso
      obtain ⟨i, r, hl⟩ := List.exists_cons_of_length_eq_add_one hfu.symm
      have hmem : i ∈ left ops.size listed := by grind
      have hil := (mem_left.1 hmem).1
      have hs := left_sorted ops.size listed
      rw [hl, List.pairwise_cons] at hs
      have : i ∈ Region.ready .any ops listed := by
        refine (rdy listed i).2 ⟨hmem, ops[i], Array.getElem?_eq_getElem hil, fun e he hb => ?_⟩
        have hlt := (drawAt_of (by simpa using Array.getElem?_eq_getElem hil) (hall i (by simpa using hil))).2.1 e.on (List.mem_map.2 ⟨e, List.mem_filter.2 ⟨he, hb⟩, rfl⟩)
        have hnm : e.on ∉ left ops.size listed := by
          grind
        have h1 : listed.getD e.on true = true := by
          cases hg : listed.getD e.on true with
          | true => rfl
          | false => exact absurd (mem_left.2 ⟨by omega, hg⟩) hnm
        grind
      grind
    · obtain ⟨hmem, o, ho, hpre⟩ := (rdy listed i).1 hi
      have hil := (mem_left.1 hmem).1
      have hoL : ops.toList[i]? = some o := by grind
      obtain ⟨d1, d2, d3, d4⟩ := drawAt_of hoL (hall i (by simpa using hil))
      obtain ⟨l1, l2, hl⟩ := List.append_of_mem hmem
      have hs := left_sorted ops.size listed
      rw [hl, List.pairwise_append, List.pairwise_cons] at hs
      have hsz' : i < listed.size := by omega
      have getFT : ∀ j, listed.getD j false = true → listed.getD j true = true := fun j hj => by
        grind
      have hpre' : ∀ j ∈ bnd o, listed.getD j true = true := fun j hj => by
        obtain ⟨e, he, rfl⟩ := List.mem_map.1 hj
        grind
      rw [hl, List.filterMap_append, List.filterMap_cons_some ho] at hr
      have hcomp : ∀ x ∈ l1.filterMap (fun i => ops[i]?), compat (ops.toList.map (·.dst)) x o g = true := by
        intro x hx
        obtain ⟨j, hj, hjx⟩ := List.mem_filterMap.1 hx
        have hji : j < i := hs.2.2 j hj i (List.mem_cons_self ..)
        rcases d4 j hji with h | ⟨x', hx', hc⟩
        · have hS := mask_in (N := N) hall (S := fun j => listed.getD j true = true) (fun i o ho hS => hdown i o (by simpa using ho) hS) i o hoL hpre' j h
          have hjm : j ∈ left ops.size listed := by grind
          rw [(mem_left.1 hjm).2] at hS
          cases hS
        grind
      obtain ⟨v, H1, hex, hrun⟩ := Run.front _ _ _ hr hcomp
      rw [← List.filterMap_append, ← left_set hsz' hl] at hrun
      have hdown' : ∀ i' o', ops[i']? = some o' → (listed.setIfInBounds i true).getD i' true = true → ∀ j ∈ bnd o', (listed.setIfInBounds i true).getD j true = true := by
        intro i' o' ho' h j hj
        rw [getD_set _ _ _ hsz'] at h ⊢
        by_cases hi' : i' = i
        · grind
        · rw [if_neg hi'] at h
          split
          all_goals grind
      have hfu' : fuel = (left ops.size (listed.setIfInBounds i true)).length := by
        rw [left_set hsz' hl]
        grind
      have next : ∀ C' u w', CLe C C' → WRel C' H1 w' → Below C.B w w' → FRel C' N (upd f o.dst v) (a.put o.dst u) → wpAny P .any ops Q fuel (listed.setIfInBounds i true) (a.put o.dst u) w' := by
        intro C' u w' q1 q2 q3 q4
        refine ih _ _ _ C' _ w' (by simpa using hsz) hdown' hfu' hrun (by cases hod : o.dst <;> simp [Act.put, hd]) q2 q4 ?_
        intro C'' f'' H'' a'' w'' p1 p2 p3 p4 p5 p6
        exact hQ C'' f'' H'' a'' w'' (q1.trans p1) p2 p3 (q3.trans (by rw [← q1.B]; exact p4)) p5 p6
      unfold wpOp
      rw [ho]
      simp only
      rcases hex with ⟨h1, h2, h3⟩ | ⟨h1, h2⟩
      · have hwant := want_sound hf h1
        rw [Array.toArray_toList] at hwant
        rw [if_neg (by rw [hwant]; simp)]
        subst h2 h3
        exact next C _ w (.refl _) hw (.refl _ _) (hf.put o.dst (dstOk_of d1) VRel.undefV)
      · have hwant := want_sound hf h1
        rw [Array.toArray_toList] at hwant
        rw [if_pos hwant]
        left
        have hexec : Exec P o f H v H1 := by
          unfold Exec
          split at h2
          all_goals grind
        exact exec_sound d1 hw hf hexec _ _ next

/-! ### the evaluation of a region that draws -/
def VCd (P : Program) (ds : List (Option Nat)) (o : Oper) (F : Fr) (H : Heap) (K : Fr → Heap → Prop) : Prop :=
  match asked ds F o with
  | some true => match pcallee o.op (slot F) with
    | some (g, args) => ∃ v, (CallOk P g args H v H ∧ (pureCall o.op = true → ∀ K, CallOk P g args K v K)) ∧ K (put F o.dst v) H
    | none => False
  | some false => K (put F o.dst (.tup [])) H
  | none => False
def VOd (P : Program) (ds : List (Option Nat)) : List Oper → Option (Fr × Heap) → (Fr → Heap → Prop) → Prop
  | _, none, _ => False
  | [], some (F, H), K => K F H
  | o :: r, some (F, H), K => match isCall o.op with
    | false => VOd P ds r (stp P ds o F H) K
    | true => VCd P ds o F H fun F' H' => VOd P ds r (some (F', H')) K
def VRd (P : Program) (ds : List (Option Nat)) (r : List Oper) (K : Fr → Heap → Prop) (F : Fr) (H : Heap) : Prop := VOd P ds r (some (F, H)) K
theorem VOd_nil (ds : List (Option Nat)) (K : Fr → Heap → Prop) (F : Fr) (H : Heap) : VOd P ds [] (some (F, H)) K = K F H := rfl
theorem VOd_none (ds : List (Option Nat)) (l : List Oper) (K : Fr → Heap → Prop) : VOd P ds l none K = False := by cases l <;> rfl
theorem VOd_step (ds : List (Option Nat)) (o : Oper) (r : List Oper) (K : Fr → Heap → Prop) (F : Fr) (H : Heap) :
    VOd P ds (o :: r) (some (F, H)) K = match isCall o.op with | false => VOd P ds r (stp P ds o F H) K | true => VCd P ds o F H (VRd P ds r K) := by
  cases h : isCall o.op with
  | false => simp only [VOd, h]
  | true => simp only [VOd, h]; rfl
theorem VCd.call {ds : List (Option Nat)} {o : Oper} {K : Fr → Heap → Prop} {g : FuncId} {args : List PV} {v : PV} (h : CallOk P g args H v H) (hp : pureCall o.op = true → ∀ K, CallOk P g args K v K) (hw : asked ds F o = some true) (hc : pcallee o.op (slot F) = some (g, args))
    (hk : K (put F o.dst v) H) : VCd P ds o F H K := by
  unfold VCd
  rw [hw]
  simp only [hc]
  exact ⟨v, ⟨h, hp⟩, hk⟩
theorem VOd_run {all : List Oper} {K : Fr → Heap → Prop} : ∀ (l : List Oper) (F : Fr) (H : Heap), VOd P (all.map (·.dst)) l (some (F, H)) K → Run P all false l (slot F) H (fun f H' => ∃ F', f = slot F' ∧ K F' H')
  | [], F, H, h => ⟨F, rfl, h⟩
  | o :: r, F, H, h => by
    have hcl : isCall o.op = false → pcallee o.op (slot F) = none := fun hc => by
      unfold pcallee
      grind [isCall]
    rw [VOd_step] at h
    have go : ∀ v H', Ex P all false o (slot F) H v H' → VOd P (all.map (·.dst)) r (some (put F o.dst v, H')) K → Run P all false (o :: r) (slot F) H (fun f H' => ∃ F', f = slot F' ∧ K F' H') := fun v H' he hr => by
      refine ⟨v, H', he, ?_⟩
      rw [← get_put]
      exact VOd_run r _ _ hr
    cases hc : isCall o.op with
    | false =>
      simp only [hc] at h
      unfold stp at h
      split at h
      · rename_i hb
        split at h
        · rename_i v H' hp
          exact go v H' (.inr ⟨asked_want all F o hb, by rw [hcl hc]; exact hp⟩) h
        simp_all [VOd_none]
      · rename_i hb
        exact go _ _ (.inl ⟨asked_want all F o hb, rfl, rfl⟩) h
      · rw [VOd_none] at h; exact h.elim
    | true =>
      simp only [hc] at h
      unfold VCd at h
      split at h
      · rename_i hb
        split at h
        · rename_i g args hp
          obtain ⟨v, h1, h2⟩ := h
          exact go v H (.inr ⟨asked_want all F o hb, by rw [hp]; exact ⟨rfl, h1.1, h1.2, fun e => by cases e⟩⟩) h2
        simp_all
      · rename_i hb
        exact go _ _ (.inl ⟨asked_want all F o hb, rfl, rfl⟩) h
      simp_all

/-! ### the same, with new blocks -/
def VCg (P : Program) (ds : List (Option Nat)) (o : Oper) (F : Fr) (H : Heap) (K : Fr → Heap → Prop) : Prop :=
  match asked ds F o with
  | some true => match pcallee o.op (slot F) with
    | some (g, args) => ∃ v, ((∀ L, CallOk P g args (H ++ L) v (H ++ L)) ∧ (pureCall o.op = true → ∀ K, CallOk P g args K v K)) ∧ K (put F o.dst v) H
    | none => False
  | some false => K (put F o.dst (.tup [])) H
  | none => False
def VOg (P : Program) (ds : List (Option Nat)) : List Oper → Option (Fr × Heap) → (Fr → Heap → Prop) → Prop
  | _, none, _ => False
  | [], some (F, H), K => K F H
  | o :: r, some (F, H), K => match isCall o.op with
    | false => VOg P ds r (stp P ds o F H) K
    | true => VCg P ds o F H fun F' H' => VOg P ds r (some (F', H')) K
def VRg (P : Program) (ds : List (Option Nat)) (r : List Oper) (K : Fr → Heap → Prop) (F : Fr) (H : Heap) : Prop := VOg P ds r (some (F, H)) K
theorem VOg_nil (ds : List (Option Nat)) (K : Fr → Heap → Prop) (F : Fr) (H : Heap) : VOg P ds [] (some (F, H)) K = K F H := rfl
theorem VOg_none (ds : List (Option Nat)) (l : List Oper) (K : Fr → Heap → Prop) : VOg P ds l none K = False := by cases l <;> rfl
theorem VOg_step (ds : List (Option Nat)) (o : Oper) (r : List Oper) (K : Fr → Heap → Prop) (F : Fr) (H : Heap) :
    VOg P ds (o :: r) (some (F, H)) K = match isCall o.op with | false => VOg P ds r (stp P ds o F H) K | true => VCg P ds o F H (VRg P ds r K) := by
  cases h : isCall o.op with
  | false => simp only [VOg, h]
  | true => simp only [VOg, h]; rfl
theorem VOg_run {all : List Oper} {K : Fr → Heap → Prop} : ∀ (l : List Oper) (F : Fr) (H : Heap), VOg P (all.map (·.dst)) l (some (F, H)) K → Run P all true l (slot F) H (fun f H' => ∃ F', f = slot F' ∧ K F' H')
  | [], F, H, h => ⟨F, rfl, h⟩
  | o :: r, F, H, h => by
    have hcl : isCall o.op = false → pcallee o.op (slot F) = none := fun hc => by
      unfold pcallee
      grind [isCall]
    rw [VOg_step] at h
    have go : ∀ v H', Ex P all true o (slot F) H v H' → VOg P (all.map (·.dst)) r (some (put F o.dst v, H')) K → Run P all true (o :: r) (slot F) H (fun f H' => ∃ F', f = slot F' ∧ K F' H') := fun v H' he hr => by
      refine ⟨v, H', he, ?_⟩
      rw [← get_put]
      exact VOg_run r _ _ hr
    cases hc : isCall o.op with
    | false =>
      simp only [hc] at h
      unfold stp at h
      split at h
      · rename_i hb
        split at h
        · rename_i v H' hp
          exact go v H' (.inr ⟨asked_want all F o hb, by rw [hcl hc]; exact hp⟩) h
        simp_all [VOg_none]
      · rename_i hb
        exact go _ _ (.inl ⟨asked_want all F o hb, rfl, rfl⟩) h
      · rw [VOg_none] at h; exact h.elim
    | true =>
      simp only [hc] at h
      unfold VCg at h
      split at h
      · rename_i hb
        split at h
        · rename_i fn args hp
          obtain ⟨v, h1, h2⟩ := h
          exact go v H (.inr ⟨asked_want all F o hb, by rw [hp]; exact ⟨rfl, by have := h1.1 []; rwa [List.append_nil] at this, h1.2, fun _ => h1.1⟩⟩) h2
        simp_all
      · rename_i hb
        exact go _ _ (.inl ⟨asked_want all F o hb, rfl, rfl⟩) h
      simp_all

theorem left_all (n : Nat) : left n (Array.replicate n false) = List.range n := by
  simp_all [left, List.filter_eq_self.2, List.mem_range.1, Array.getD]
theorem all_ops (ops : Array Oper) : ((List.range ops.size).filterMap fun i => ops[i]?) = ops.toList := by
  have : ∀ (l : List Oper), ((List.range l.length).filterMap fun i => l[i]?) = l := by
    intro l
    induction l with
    | nil => rfl
    | cons x l ih =>
      simp_all [List.length_cons, List.range_succ_eq_map, List.filterMap_cons_some, List.filterMap_map, Function.comp_def]
  have h := this ops.toList
  simp_all

section rules
variable {E : Env} {Q : Exit → Fr → Heap → Prop}
theorem PW.drawn {id : Nat} {ops : Array Oper} (hm : P.follows .mixedOrders = true) (hd : drawOk E.N ops.toList = true) (h : VOd P (ops.toList.map (·.dst)) ops.toList (some (F, H)) (fun F' H' => Q .normal F' H')) : PW P E (.region id ops true) F H Q := fun hs C a w hdf hw hf => by
  refine wp_region_any hm ?_
  have hr := VOd_run (P := P) _ _ _ h
  have hall : ∀ i, i < ops.toList.length → drawAt (masks ops.toList) (ops.toList.map (·.dst)) E.N ops.toList i = true := by
    grind [drawOk, List.all_eq_true.1, List.mem_range.2]
  refine any_sound (P := P) hall ops.size (Array.replicate ops.size false) (slot F) H C a w.drew (by simp) ?_ (by rw [left_all]; simp) (by rw [left_all, all_ops]; exact hr) hdf hw.drew hf ?_
  · intro i o ho hl j hj
    simp_all [Array.getElem?_eq_some_iff.1, Array.getD]
  · rintro C' f' H' a' w' p1 p2 p3 p4 p5 ⟨F', rfl, p6⟩
    exact ⟨C', F', H', p1.toN _, p2, p3, ((Below.refl C.B w).drew).trans p4, p5, p6⟩
theorem PW.drawg {id : Nat} {ops : Array Oper} (hm : P.follows .mixedOrders = true) (hd : drawOk E.N ops.toList true = true) (h : ∀ K : Fr → Heap → Prop, (∀ F' H', Q .normal F' H' → K F' H') → VOg P (ops.toList.map (·.dst)) ops.toList (some (F, H)) K) :
    PW P E (.region id ops true) F H Q := fun hs C a w hdf hw hf => by
  refine wp_region_any hm ?_
  have hr := VOg_run (P := P) _ _ _ (h (fun F' H' => Q .normal F' H') fun _ _ h => h)
  have hall : ∀ i, i < ops.toList.length → drawAt (masks ops.toList) (ops.toList.map (·.dst)) E.N ops.toList i true = true := by
    grind [drawOk, List.all_eq_true.1, List.mem_range.2]
  refine any_sound (P := P) hall ops.size (Array.replicate ops.size false) (slot F) H C a w.drew (by simp) ?_ (by rw [left_all]; simp) (by rw [left_all, all_ops]; exact hr) hdf hw.drew hf ?_
  · intro i o ho hl j hj
    have hi : i < ops.size := (Array.getElem?_eq_some_iff.1 ho).1
    simp [Array.getD, hi] at hl
  · rintro C' f' H' a' w' p1 p2 p3 p4 p5 ⟨F', rfl, p6⟩
    exact ⟨C', F', H', p1.toN _, p2, p3, ((Below.refl C.B w).drew).trans p4, p5, p6⟩
theorem PW.draw {id : Nat} {ops : Array Oper} (hm : P.follows .mixedOrders = true) (hd : drawOk E.N ops.toList = true) (h : ∀ K : Fr → Heap → Prop, (∀ F' H', Q .normal F' H' → K F' H') → VOd P (ops.toList.map (·.dst)) ops.toList (some (F, H)) K) :
    PW P E (.region id ops true) F H Q := PW.drawn hm hd (h _ fun _ _ h => h)
end rules

end Go.Proofs.YtbhdollgohgkgaaGreatDoor.Pm

namespace Go.Proofs.YtbhdollgohgkgaaGreatDoor.Pm
set_option linter.all false
set_option linter.unusedVariables false
set_option linter.unusedSimpArgs false
open Go.RowKit

variable {P : Program} {C : Ctx} {H : Heap} {w : World} {F : Fr} {a : Act} {N : Nat}

theorem VRel.re {C D : Ctx} (h1 : D.M = C.M) (h2 : D.mu = C.mu) (h3 : D.vs = C.vs) (h4 : D.cp = C.cp) {x : PV} {u : Value} (h : VRel C x u) : VRel D x u := by
  induction h with
  | nl k => exact .nl k
  | yl hl _ ih => exact .yl hl ih
  | int k n => exact .int k n
  | bool b => exact .bool b
  | str s => exact .str s
  | nilp => exact .nilp
  | ptr hm hv => exact .ptr (by rw [h2]; exact hm) (by rw [h3]; exact hv)
  | ptrS v h1 hv hlt => exact .ptrS v h1 (by rw [h3]; exact hv) hlt
  | ip hl hM hc _ ih => exact .ip hl (by rw [h1]; exact hM) hc ih
  | slice hl hM hc _ hcap hmax hf ih => exact .slice hl (by rw [h1]; exact hM) hc ih hcap hmax hf
  | sliceN ad full => exact .sliceN ad full
  | msl hm hv hcap hmax hg => exact .msl (by rw [h2]; exact hm) (by rw [h3]; exact hv) hcap hmax (by rw [h4]; exact hg)
  | mslE hm hv hmax => exact .mslE (by rw [h2]; exact hm) (by rw [h3]; exact hv) hmax
  | mslG ad hm hv => exact .mslG ad (by rw [h2, h4]; exact hm) (by rw [h3]; exact hv)
  | mp hm hv hb => exact .mp (by rw [h2]; exact hm) (by rw [h3]; exact hv) (by rw [h4]; exact hb)
  | mpS v h1 hv hlt => exact .mpS v h1 (by rw [h3]; exact hv) hlt
  | mslS v h1 hv hlt => exact .mslS v h1 (by rw [h3]; exact hv) hlt
  | agg hl hc _ ih => exact .agg hl hc ih
  | tup hl _ ih => exact .tup hl ih
  | func hl hl' _ _ ih ih' => exact .func hl hl' ih ih'
  | undef v => exact .undef v

/-! ### a change of view -/
/-- Wherever (F, H) holds, (F1, H1) holds too. -/
def Vs (E : Env) (F : Fr) (H : Heap) (F1 : Fr) (H1 : Heap) : Prop :=
  HSc E.H0 → ∀ (C : Ctx) (a : Act) (w : World), WRel C H w → FRel C E.N (slot F) a → ∃ C', CLeN E.H0.length C C' ∧ WRel C' H1 w ∧ FRel C' E.N (slot F1) a

section rules
variable {E : Env} {Q : Exit → Fr → Heap → Prop} {F1 : Fr} {H1 : Heap}
theorem PW.view {c : Code} (hv : Vs E F H F1 H1) (h : PW P E c F1 H1 Q) : PW P E c F H Q := fun hs C a w hd hw hf => by
  obtain ⟨C', q1, q2, q3⟩ := hv hs C a w hw hf
  exact wp_mono (h hs C' a w hd q2 q3) fun _ _ _ hp => hp.trans q1 (.refl _ _)
theorem PL.view {c : Code} (hv : Vs E F H F1 H1) (h : PL P E c F1 H1 Q) : PL P E c F H Q := fun hs C a w hd hw hf => by
  obtain ⟨C', q1, q2, q3⟩ := hv hs C a w hw hf
  intro b k cs
  obtain ⟨e2, a2, w2, hq2, harr2⟩ := h hs C' a w hd q2 q3 b k cs
  exact ⟨e2, a2, w2, hq2.trans q1 (.refl _ _), harr2⟩
theorem Vs.trans {F2 : Fr} {H2 : Heap} (h : Vs E F H F1 H1) (k : Vs E F1 H1 F2 H2) : Vs E F H F2 H2 := fun hs C a w hw hf => by
  obtain ⟨C1, q1, q2, q3⟩ := h hs C a w hw hf
  obtain ⟨C2, r1, r2, r3⟩ := k hs C1 a w q2 q3
  exact ⟨C2, q1.trans r1, r2, r3⟩
theorem Vs.keep (ks : List Nat) : Vs E F H (kp ks F) H := fun _ C _ _ hw hf => ⟨C, .refl C, hw, hf.keep ks⟩
theorem PW.eq {c : Code} (hF : F = F1) (hH : H = H1) (h : PW P E c F1 H1 Q) : PW P E c F H Q := by simp_all
theorem PL.eq {c : Code} (hF : F = F1) (hH : H = H1) (h : PL P E c F1 H1 Q) : PL P E c F H Q := by simp_all

theorem PW.at {c : Code} (ks : List Nat) (h : PW P E c F1 H1 Q) (hF : kp ks F = F1) (hH : H = H1) : PW P E c F H Q := by subst hF hH; exact h.keep ks
theorem PL.at {c : Code} (ks : List Nat) (h : PL P E c F1 H1 Q) (hF : kp ks F = F1) (hH : H = H1) : PL P E c F H Q := by subst hF hH; exact h.keep ks
/-- The region changes slot d alone (of those that are kept). -/
theorem PW.rgv {id : Nat} {ops : Array Oper} (ks : List Nat) (d : Nat) (v : PV) (hd : ops.toList.all (dstOk E.N) = true) (h : VO P (ops.toList.map (·.dst)) ops.toList (some (F, H)) (fun F' H' => kp (d :: ks) F' = (d, v) :: kp ks F ∧ H' = H)) (hq : Q .normal ((d, v) :: kp ks F) H) :
    PW P E (.region id ops false) F H Q := PW.rg1 (d :: ks) _ H hd h hq
/-- Ways that meet again in one state. -/
theorem PW.to {x y : Code} (ks : List Nat) (F1 : Fr) (H1 : Heap) (h : PW P E x F H (thenQ (fun F' H' => kp ks F' = F1 ∧ H' = H1) Q)) (hj : PW P E y F1 H1 Q) : PW P E (.seq x y) F H Q :=
  PW.join ks (fun F' H' => F' = F1 ∧ H' = H1) h (fun F' H' e => by rw [e.1, e.2]; exact hj)

/-! ### cutting -/
/-- Of the slots of F1: what F has there, given up, is what F1 says. -/
def FzF (n : Nat) (H : Heap) (F : Fr) : Fr → Prop
  | [] => True
  | (t, v) :: r => Fz n H (slot F t) v ∧ FzF n H F r
theorem FzF.slot {n : Nat} : ∀ {F1 : Fr}, FzF n H F F1 → ∀ t, Pm.slot F1 t = .undef ∨ Fz n H (Pm.slot F t) (Pm.slot F1 t)
  | [], _, t => .inl rfl
  | (k, x) :: r, h, t => by
    show (match Nat.beq k t with | true => x | false => Pm.slot r t) = .undef ∨ Fz n H (Pm.slot F t) (match Nat.beq k t with | true => x | false => Pm.slot r t)
    cases hb : Nat.beq k t with
    | true => exact .inr (by rw [← Nat.eq_of_beq_eq_true hb]; exact h.1)
    | false => exact FzF.slot h.2 t
theorem Vs.cut (hn : E.H0.length ≤ H1.length) (hH : HSc E.H0 → CutH H H1) (hF : FzF H1.length H F F1) : Vs E F H F1 H1 := fun hs C a w hw hf => by
  obtain ⟨g1, g2⟩ := hw.cutN (hH hs)
  refine ⟨_, g1.less hn, g2, hf.1, fun t => ?_⟩
  rcases hF.slot t with h | h
  · rw [h]; exact .undef _
  · exact h.sound hw (hf.2 t)

theorem Scoped.mono {n m : Nat} (hm : n ≤ m) {x : PV} (h : Scoped n x) : Scoped m x := by
  induction h with
  | nl k => exact .nl k
  | yl _ ih => exact .yl ih
  | lp l r => exact .lp l r
  | int k m => exact .int k m
  | bool b => exact .bool b
  | str s => exact .str s
  | nilp => exact .nilp
  | undef => exact .undef
  | ptr h => exact .ptr (by omega)
  | msl h => exact .msl (by omega)
  | mp h => exact .mp (by omega)
  | ip _ ih => exact .ip ih
  | slice _ ih => exact .slice ih
  | agg _ ih => exact .agg ih
  | tup _ ih => exact .tup ih
  | func _ _ ih ih' => exact .func ih ih'

/-- Point by point, by recursion. -/
def FzC (n : Nat) (H : Heap) : List PV → List PV → Prop
  | [], [] => True
  | x :: xs, y :: ys => Fz n H x y ∧ FzC n H xs ys
  | _, _ => False
theorem FzC.pw {n : Nat} : ∀ {xs ys : List PV}, FzC n H xs ys → ys.length = xs.length ∧ ∀ (j : Nat) (x y : PV), xs[j]? = some x → ys[j]? = some y → Fz n H x y
  | [], [], _ => ⟨rfl, fun j x y hx => by simp at hx⟩
  | x :: xs, y :: ys, h => by
    obtain ⟨l, q⟩ := FzC.pw h.2
    refine ⟨by simp [l], fun j a b ha hb => ?_⟩
    cases j with
    | zero => simp at ha hb; subst ha hb; exact h.1
    | succ j => exact q j a b (by simpa using ha) (by simpa using hb)
  | [], _ :: _, h => h.elim
  | _ :: _, [], h => h.elim
theorem FzC.refl {n : Nat} : ∀ {xs : List PV}, (∀ x ∈ xs, Scoped n x) → FzC n H xs xs
  | [], _ => trivial
  | x :: xs, h => ⟨.id (h x (by simp)), FzC.refl fun y hy => h y (by simp [hy])⟩
theorem FzC.append {n : Nat} : ∀ {xs ys us vs : List PV}, FzC n H xs ys → FzC n H us vs → FzC n H (xs ++ us) (ys ++ vs)
  | [], [], _, _, _, h => h
  | x :: xs, y :: ys, _, _, h, h' => ⟨h.1, FzC.append h.2 h'⟩
  | [], _ :: _, _, _, h, _ => h.elim
  | _ :: _, [], _, _, h, _ => h.elim
theorem Fz.tupC {n : Nat} {xs ys : List PV} (h : FzC n H xs ys) : Fz n H (.tup xs) (.tup ys) := .tup h.pw.1 h.pw.2
theorem Fz.aggC {n : Nat} {xs ys : List PV} (h : FzC n H xs ys) : Fz n H (.agg xs) (.agg ys) := .agg h.pw.1 h.pw.2
theorem Fz.sliceC {n len : Nat} {f f' : Bool} {xs ys : List PV} (h : FzC n H xs ys) (hf : f' = true → f = true) : Fz n H (.slice xs len f) (.slice ys len f') := .slice h.pw.1 h.pw.2 hf
/-- A whole block, given up. -/
theorem Fz.mslC {n id ver len sz e : Nat} {g : Bool} {xs ys : List PV} (hn : n ≤ id) (hk : H[id]? = some ⟨e, ver, xs⟩) (hl : xs.length = len * sz) (h : FzC n H xs ys) : Fz n H (.msl id ver 0 len sz g) (.slice ys len false) := by
  have ht : ((xs.drop 0).take (len * sz)) = xs := by grind
  exact .msl hn hk rfl (by simp only; omega) (by simp only; rw [ht]; exact h.pw.1) (by simp only; rw [ht]; exact h.pw.2)
def FzL (n : Nat) (H : Heap) : List Blk → List Blk → Prop
  | [], [] => True
  | k :: r, k1 :: r1 => k1.e = k.e ∧ k1.ver = k.ver ∧ FzC n H k.cells k1.cells ∧ FzL n H r r1
  | _, _ => False
theorem FzL.get {n : Nat} : ∀ {L L1 : List Blk}, FzL n H L L1 → L1.length = L.length ∧ ∀ (j : Nat) (k1 : Blk), L1[j]? = some k1 → ∃ k, L[j]? = some k ∧ k1.e = k.e ∧ k1.ver = k.ver ∧ FzC n H k.cells k1.cells
  | [], [], _ => ⟨rfl, fun j k h => by simp at h⟩
  | k :: r, k1 :: r1, h => by
    obtain ⟨h1, h2, h3, h4⟩ := h
    obtain ⟨l, q⟩ := FzL.get h4
    grind
  | [], _ :: _, h => h.elim
  | _ :: _, [], h => h.elim
theorem FzL.refl {n : Nat} : ∀ {L : List Blk}, (∀ k ∈ L, ∀ x ∈ k.cells, Scoped n x) → FzL n H L L
  | [], _ => trivial
  | k :: r, h => ⟨rfl, rfl, FzC.refl (h k (by simp)), FzL.refl fun k' hk' => h k' (by simp [hk'])⟩

theorem CutH.of {A L K L1 : Heap} (hA : HSc A) (hL : FzL (A ++ L1).length (A ++ L ++ K) L L1) : CutH (A ++ L ++ K) (A ++ L1) := by
  obtain ⟨l, q⟩ := hL.get
  refine ⟨by simp [l], fun j k1 hk1 => ?_⟩
  by_cases hj : j < A.length
  · rw [List.getElem?_append_left hj] at hk1
    refine ⟨k1, by rw [List.append_assoc, List.getElem?_append_left hj]; exact hk1, rfl, rfl, rfl, fun i x y hx hy => ?_⟩
    rw [hx] at hy
    injection hy with hy
    subst hy
    exact .id ((hA j k1 hk1 x (List.mem_of_getElem? hx)).mono (by simp))
  · rw [List.getElem?_append_right (by omega)] at hk1
    obtain ⟨k, hk, h1, h2, h3⟩ := q _ k1 hk1
    have hlt := (List.getElem?_eq_some_iff.1 hk).1
    exact ⟨k, by rw [List.append_assoc, List.getElem?_append_right (by omega), List.getElem?_append_left hlt]; exact hk, h1, h2, h3.pw.1, h3.pw.2⟩
/-- All that is behind A goes. -/
theorem CutH.base {A K : Heap} (hA : HSc A) : CutH (A ++ K) A := by
  have := CutH.of (A := A) (L := []) (K := K) (L1 := []) hA trivial
  simp_all
theorem HSc.set {A : Heap} (hA : HSc A) {id : Nat} {k : Blk} (hk : ∀ x ∈ k.cells, Scoped A.length x) : HSc (A.set id k) := fun j k' hk' x hx => by
  rw [List.length_set]
  rw [List.getElem?_set] at hk'
  split at hk'
  · simp_all
  · exact hA j k' hk' x hx

theorem Vs.trim {K : Heap} (hA : HSc E.H0 → HSc H1) (hn : E.H0.length ≤ H1.length) (hH : H = H1 ++ K) (hF : FzF H1.length H F F1) : Vs E F H F1 H1 :=
  Vs.cut hn (fun hs => by rw [hH]; exact CutH.base (hA hs)) hF

/-! ### returning -/
theorem Fin.cut {A K H' : Heap} {v v' : PV} (hH : H' = A ++ K) (hl : H.length = A.length) (hA : HSc H → HSc A) (hv : Fz A.length H' v' v) : Fin H v A v' H' := by
  subst hH
  exact .inr (.inr fun hs => ⟨by omega, CutH.base (hA hs), hv⟩)
theorem Fin.base {K : Heap} {v v' : PV} (hv : Fz H.length (H ++ K) v' v) : Fin H v H v' (H ++ K) := Fin.cut rfl rfl (fun h => h) hv
/-- Returning, and some new blocks stay. -/
theorem Fin.more {A L K L1 H' : Heap} {v v' : PV} (hH : H' = A ++ L ++ K) (hl : H.length = A.length) (hA : HSc H → HSc A) (hL : FzL (A ++ L1).length H' L L1) (hv : Fz (A ++ L1).length H' v' v) : Fin H v (A ++ L1) v' H' := by
  subst hH
  exact .inr (.inr fun hs => ⟨by simp; omega, CutH.of (hA hs) hL, hv⟩)
theorem Fin.now {v : PV} {H1 : Heap} : Fin H v H1 v H1 := .inl ⟨rfl, rfl⟩

/-! ### blocks without a place -/
theorem ghost_rel {id sz : Nat} (hm : C.mu[id]? = some none ∧ C.cp[id]? = some 0) (hv : C.vs[id]? = some 0) {u : Value} (h : VRel C (.slice [] 0 true) u) : VRel C (.msl id 0 0 0 sz true) u := by
  cases h with
  | slice hl hM hc hR hcap hmax hf => rw [hf rfl]; exact .mslG _ hm hv
  | sliceN => exact .mslG _ hm hv
theorem Vs.ghost (t e sz : Nat) (hs : slot F t = .slice [] 0 true) : Vs E F H ((t, .msl H.length 0 0 0 sz true) :: F) (H ++ [⟨e, 0, []⟩]) := fun _ C a w hw hf => by
  obtain ⟨g1, g2⟩ := hw.ghost e 0
  refine ⟨_, g1.toN _, g2, hf.1, fun t' => ?_⟩
  show VRel _ (match Nat.beq t t' with | true => _ | false => slot F t') _
  cases hb : Nat.beq t t' with
  | true =>
    rw [← Nat.eq_of_beq_eq_true hb]
    have := hf.2 t
    rw [hs] at this
    exact ghost_rel ⟨by simp [Ctx.more, ← hw.len], by simp [Ctx.more, ← hw.lenc]⟩ (by simp [Ctx.more, ← hw.lenv]) (this.mono g1)
  | false => exact (hf.2 t').mono g1
theorem WRel.recell (hw : WRel C H w) {id j : Nat} {k : Blk} {x y : PV} (hk : H[id]? = some k) (hj : k.cells[j]? = some x) (hc : y.cell = true) (hlp : ∀ l r, x ≠ .lp l r) (hR : ∀ u, VRel C x u → VRel C y u) : WRel C (H.set id ⟨k.e, k.ver, k.cells.set j y⟩) w := by
  have hid : id < H.length := (List.getElem?_eq_some_iff.1 hk).1
  refine ⟨hw.gl, hw.base, hw.tople, hw.imm, by rw [hw.len]; simp, by rw [hw.lenv]; simp, by rw [hw.lenc]; simp, ?_, ?_, ?_, hw.disj, hw.inj, hw.minj⟩
  · intro i k' hk'
    rw [List.getElem?_set] at hk'
    split at hk'
    · rename_i e; subst e
      simp only [hid, if_true, Option.some.injEq] at hk'
      subst hk'
      exact hw.ver id k hk
    · exact hw.ver i k' hk'
  · intro i k' hk' hm
    rw [List.getElem?_set] at hk'
    split at hk'
    · rename_i e; subst e
      simp only [hid, if_true, Option.some.injEq] at hk'
      subst hk'
      rcases hw.gho id k hk hm with h0 | ⟨b, es, clock, q1, q2, q3, q4, q5⟩ | ⟨b, r, q1, q2, q3, q4⟩
      · simp_all
      · refine .inr (.inl ⟨b, es, clock, q1, q2, q3, by simpa using q4, fun i z e hz he => ?_⟩)
        grind
      grind
    · exact hw.gho i k' hk' hm
  · intro i k' b hk' hm
    rw [List.getElem?_set] at hk'
    split at hk'
    · rename_i e; subst e
      simp only [hid, if_true, Option.some.injEq] at hk'
      subst hk'
      obtain ⟨cur, q3, q4, q5, q6, q7, q8⟩ := hw.own id k b hk hm
      grind
    · exact hw.own i k' b hk' hm
theorem Vs.ghostH {id j : Nat} {k : Blk} (e sz : Nat) (hk : H[id]? = some k) (hj : k.cells[j]? = some (.slice [] 0 true)) :
    Vs E F H F (H.set id ⟨k.e, k.ver, k.cells.set j (.msl H.length 0 0 0 sz true)⟩ ++ [⟨e, 0, []⟩]) := fun _ C a w hw hf => by
  obtain ⟨g1, g2⟩ := hw.ghost e 0
  have hid : id < H.length := (List.getElem?_eq_some_iff.1 hk).1
  have := g2.recell (id := id) (j := j) (k := k) (y := .msl H.length 0 0 0 sz true) (by rw [List.getElem?_append_left hid]; exact hk) hj rfl (fun _ r h => by cases h) (fun u hu => ghost_rel ⟨by simp [Ctx.more, ← hw.len], by simp [Ctx.more, ← hw.lenc]⟩ (by simp [Ctx.more, ← hw.lenv]) hu)
  rw [List.set_append_left _ _ hid] at this
  exact ⟨_, g1.toN _, this, hf.mono g1⟩

end rules

/-! ### contracts at another heap -/
/-- Memory is only added to. -/
theorem WRel.grown (hw : WRel C H w) {w' : World} (hb : Below w.heap.size w w') : WRel C H w' := by
  have hcell : ∀ b o u, w.cell? ⟨b, o, none⟩ = some u → w'.cell? ⟨b, o, none⟩ = some u := fun b o u hu => by
    have hlt := World.block_lt_of_cell? w ⟨b, o, none⟩ hu
    have e := hb.block b hlt
    simp only [World.cell?] at hu ⊢
    simp_all
  have hsz := hb.size
  refine ⟨hw.gl, by have := hw.base; omega, by have := hw.tople; omega, fun b o u hu => hcell _ _ _ (hw.imm b o u hu), hw.len, hw.lenv, hw.lenc, hw.ver, fun id k hk hm => (hw.gho id k hk hm).imp_right (fun m => m.mono (.refl _) rfl (fun b es c hp h3 => by rw [hb.block b (Array.getElem?_eq_some_iff.1 h3).1]; exact h3)), fun id k b hk hm => ?_, hw.disj, hw.inj, hw.minj⟩
  obtain ⟨cur, q3, q4, q5, q6, q7, q8⟩ := hw.own id k b hk hm
  exact ⟨cur, q3, q4, by rw [hb.block b (hw.mu_lt hm)]; exact q5, q6, q7, q8⟩

/-- What is known after a call that knew nothing of the heap. -/
def Ctx.after (C C2 : Ctx) (n : Nat) : Ctx := { C with M := fun b o => if b < n then C.M b o else C2.M b o }
theorem after_le (C C2 : Ctx) (hw : WRel C H w) : CLe C (C.after C2 w.heap.size) := by
  refine ⟨rfl, fun b o u hu => ?_, rfl, fun b o u hu => ?_, fun b hb => .inl hb, fun id ver hv => ⟨ver, hv, Nat.le_refl _, fun _ => ⟨rfl, rfl⟩⟩⟩
  · have := hw.imm_lt hu
    simp_all [Ctx.after]
  · simp only [Ctx.after] at hu
    split at hu
    · simp_all
    · have := hw.tople; exact .inr (.inl (by omega))
theorem after_w {C2 : Ctx} {w' : World} (hw : WRel C H w) (hb : Below w.heap.size w w') (h2 : WRel C2 [] w') : WRel (C.after C2 w.heap.size) H w' := by
  have h := hw.grown hb
  have hle := after_le C C2 hw
  refine ⟨h.gl.mono hle.M, h.base, h.tople, fun b o u hu => ?_, h.len, h.lenv, h.lenc, h.ver, fun id k hk hm => (h.gho id k hk hm).imp_right (fun m => m.mono hle rfl (fun b es c hp h3 => h3)), fun id k b hk hm => ?_, fun id b hm o => ?_, h.inj, h.minj⟩
  · simp only [Ctx.after] at hu
    split at hu
    · exact h.imm b o u hu
    · exact h2.imm b o u hu
  · obtain ⟨cur, q3, q4, q5, q6, q7, q8⟩ := h.own id k b hk hm
    exact ⟨cur, q3, q4, q5, q6, q7, fun j x u hx hu => (q8 j x u hx hu).mono hle⟩
  · simp only [Ctx.after]
    rw [if_pos (hw.mu_lt hm)]
    exact hw.disj id b hm o
theorem after_v {n : Nat} {C2 : Ctx} (hM : ∀ b o u, C2.M b o = some u → C.M b o = some u ∨ n ≤ b) (hlt : ∀ b o u, C.M b o = some u → b < n) (hC : ∀ b o u, C.M b o = some u → C2.M b o = some u) (hv0 : C2.vs = []) {x : PV} {u : Value} (h : VRel C2 x u) : VRel (C.after C2 n) x u := by
  have key : ∀ b o u, C2.M b o = some u → (C.after C2 n).M b o = some u := fun b o u hu => by
    grind [Ctx.after]
  have no : ∀ {id ver : Nat}, C2.vs[id]? = some ver → False := fun h => by simp_all
  induction h with
  | nl k => exact .nl k
  | yl hl _ ih => exact .yl hl ih
  | int k n => exact .int k n
  | bool b => exact .bool b
  | str s => exact .str s
  | nilp => exact .nilp
  | ptr hm hv => exact (no hv).elim
  | ptrS v h1 hv hlt => exact (no hv).elim
  | ip hl hM hc _ ih => exact .ip hl (fun j u hu => key _ _ _ (hM j u hu)) hc ih
  | slice hl hM hc _ hcap hmax hf ih => exact .slice hl (fun j u hu => key _ _ _ (hM j u hu)) hc ih hcap hmax hf
  | sliceN ad full => exact .sliceN ad full
  | msl hm hv hcap hmax hg => exact (no hv).elim
  | mslE hm hv hmax => exact (no hv).elim
  | mslG ad hm hv => exact (no hv).elim
  | mslS v h1 hv hlt => exact (no hv).elim
  | mp hm hv hb => exact (no hv).elim
  | mpS v h1 hv hlt => exact (no hv).elim
  | agg hl hc _ ih => exact .agg hl hc ih
  | tup hl _ ih => exact .tup hl ih
  | func hl hl' _ _ ih ih' => exact .func hl hl' ih ih'
  | undef v => exact .undef v

/-- ████ A contract over no heap at all holds over every heap, if the arguments name no blocks. ████ -/
theorem CallEx.frame {f : FuncId} {args : List PV} {R : PV → Prop} (h : CallEx P f args [] (fun v H' => R v ∧ H' = [])) (hs : ∀ x ∈ args, Scoped 0 x) : CallEx P f args H (fun v H' => R v ∧ H' = H) := by
  refine ⟨h.1, fun C us w hw hu => ?_⟩
  have h0 : WRel { B := w.heap.size, M := C.M, mu := [], vs := [], cp := [], top := w.heap.size } [] w :=
    ⟨hw.gl, Nat.le_refl _, Nat.le_refl _, hw.imm, rfl, rfl, rfl, fun id k h => by simp at h, fun id k h => by simp at h, fun id k b h => by simp at h, fun id b h => by simp at h, fun i j b h => by simp at h, fun i j b h => by simp at h⟩
  have ha : VRels { B := w.heap.size, M := C.M, mu := [], vs := [], cp := [], top := w.heap.size } args us := ⟨hu.1, fun j x u hx hu' => by
    have := (hu.2 j x u hx hu').cut (n := 0) (M := C.M) (fun _ _ _ h => h) (hs x (List.mem_of_getElem? hx))
    refine this.re ?_ ?_ ?_ ?_ <;> simp [Ctx.cut]⟩
  refine (h.2 _ us w h0 ha).mono ?_
  rintro e w' ⟨C2, u, v, H', ⟨hR, rfl⟩, q1, q2, q3, q4, q5⟩
  refine ⟨C.after C2 w.heap.size, u, v, H, ⟨hR, rfl⟩, after_le C C2 hw, after_w hw q3 q2, q3.mono hw.base, q4, ?_⟩
  refine after_v (fun b o u hu => ?_) (fun b o u hu => hw.imm_lt hu) (fun b o u hu => q1.M b o u hu) (List.eq_nil_of_length_eq_zero q2.lenv) q5
  rcases q1.mnew b o u hu with h | h | h
  all_goals simp_all
theorem CallOk.frame {f : FuncId} {args : List PV} {v : PV} (h : CallOk P f args [] v []) (hs : ∀ x ∈ args, Scoped 0 x) : CallOk P f args H v H :=
  (CallEx.frame (R := fun v' => v' = v) h.toEx hs).one

/-- It names no memory. -/
inductive Scal : PV → Prop where
  | int (k : IntKind) (m : Int) : Scal (.int k m)
  | bool (b : Bool) : Scal (.bool b)
  | str (s : List UInt8) : Scal (.str s)
  | nilp : Scal .nilp
  | agg {xs : List PV} (h : ∀ (j : Nat) (x : PV), xs[j]? = some x → Scal x) : Scal (.agg xs)
  | tup {xs : List PV} (h : ∀ (j : Nat) (x : PV), xs[j]? = some x → Scal x) : Scal (.tup xs)
theorem Scal.any {C C' : Ctx} {x : PV} (h : Scal x) : ∀ {u : Value}, VRel C x u → VRel C' x u := by
  induction h with
  | int k m => intro u hv; cases hv; exact .int k m
  | bool b => intro u hv; cases hv; exact .bool b
  | str s => intro u hv; cases hv; exact .str _
  | nilp => intro u hv; cases hv; exact .nilp
  | agg _ ih => intro u hv; cases hv with | agg hl hc hR => exact .agg hl hc (fun j x u hx hu => ih j x hx (hR j x u hx hu))
  | tup _ ih => intro u hv; cases hv with | tup hl hR => exact .tup hl (fun j x u hx hu => ih j x hx (hR j x u hx hu))

/-! ### one block is given up where it stands -/
theorem WRel.freeze1 (hw : WRel C H w) {id : Nat} {k : Blk} (hk : H[id]? = some k) : ∃ C1, CLe C C1 ∧ WRel C1 (H.set id ⟨k.e, k.ver + 1, []⟩) w ∧
    ∀ (off len sz : Nat) (g : Bool) (u : Value), off + len * sz ≤ k.cells.length → VRel C (.msl id k.ver off len sz g) u → VRel C1 (.slice ((k.cells.drop off).take (len * sz)) len false) u := by
  have hid : id < H.length := (List.getElem?_eq_some_iff.1 hk).1
  have e1 := hw.len
  have e2 := hw.lenv
  have e3 := hw.lenc
  obtain ⟨m, hm⟩ : ∃ m, C.mu[id]? = some m := ⟨C.mu[id]'(by omega), List.getElem?_eq_getElem _⟩
  have hge : ∀ b o u, C.M b o = some u → (if m = some b then w.cell? ⟨b, o, none⟩ else C.M b o) = some u := fun b o u hu => by
    split
    · exact hw.imm b o u hu
    · exact hu
  have hle : CLe C { B := C.B, top := C.top, M := fun b o => if m = some b then w.cell? ⟨b, o, none⟩ else C.M b o, mu := C.mu.set id none, vs := C.vs.set id (k.ver + 1), cp := C.cp.set id 0 } := by
    refine ⟨rfl, hge, rfl, fun b o u hu => ?_, fun b hb => ?_, fun i ver hv => ?_⟩
    · grind
    · grind
    · by_cases hi : i = id
      · subst hi
        rw [hw.ver i k hk] at hv
        simp_all
      grind
  refine ⟨_, hle, ?_, ?_⟩
  · refine ⟨hw.gl.mono hge, hw.base, hw.tople, fun b o u hu => ?_, by simp [e1], by simp [e2], by simp [e3], ?_, ?_, ?_, ?_, ?_, ?_⟩
    · simp only at hu
      split at hu
      · exact hu
      · exact hw.imm b o u hu
    · intro i k' hk'
      by_cases hi : i = id
      · subst hi
        simp [hid] at hk'
        subst hk'
        simp [e2, hid]
      · rw [List.getElem?_set_ne (by omega)] at hk'
        rw [List.getElem?_set_ne (by omega)]
        exact hw.ver i k' hk'
    · intro i k' hk' hm'
      by_cases hi : i = id
      · subst hi
        simp [hid] at hk'
        subst hk'
        exact .inl ⟨by simp [e3, hid], rfl⟩
      · rw [List.getElem?_set_ne (by omega)] at hk' hm'
        rw [List.getElem?_set_ne (by omega)]
        exact (hw.gho i k' hk' hm').imp_right (fun m => m.mono hle rfl (fun b es c hp h3 => h3))
    · intro i k' b hk' hm'
      by_cases hi : i = id
      · subst hi
        simp [e1, hid] at hm'
      · rw [List.getElem?_set_ne (by omega)] at hk' hm'
        obtain ⟨c, q3, q4, q5, q6, q7, q8⟩ := hw.own i k' b hk' hm'
        exact ⟨c, by rw [List.getElem?_set_ne (by omega)]; exact q3, q4, q5, q6, q7, fun j x u hx hu => (q8 j x u hx hu).mono hle⟩
    · intro i b hb o
      by_cases hi : i = id
      · subst hi
        simp [e1, hid] at hb
      · simp only [List.getElem?_set_ne (by omega : id ≠ i)] at hb
        simp only
        rw [if_neg (fun e => ?_)]
        · exact hw.disj i b hb o
        · rw [e] at hm
          exact hi (hw.inj i id b hb hm)
    · intro i j b hi hj
      have ne : ∀ {i : Nat}, (C.mu.set id none)[i]? = some (some b) → i ≠ id ∧ C.mu[i]? = some (some b) := fun {i} h => by
        grind
      exact hw.inj i j b (ne hi).2 (ne hj).2
    · intro i j b mi mj ci cj
      have ne : ∀ {i : Nat}, (C.mu.set id none)[i]? = some none → (C.cp.set id 0)[i]? = some (b + 1) → C.mu[i]? = some none ∧ C.cp[i]? = some (b + 1) := fun {i} h h' => by
        grind
      exact hw.minj i j b (ne mi ci).1 (ne mj cj).1 (ne mi ci).2 (ne mj cj).2
  · intro off len sz g u ho hv
    obtain ⟨b, cap, off', q1, rfl, hc1, hc2, ho', _⟩ | ⟨ad, hgh, h0, rfl⟩ := inv_msl hw hv (hw.ver id k hk)
    · rw [hm] at q1
      injection q1 with q1
      subst q1
      obtain ⟨cur, q3, q5, q6, q7, q8, q9, q10⟩ := hw.blk hk hm
      have hlen : (((cur.toList.take k.cells.length).drop off).take (len * sz)).length = ((k.cells.drop off).take (len * sz)).length := by simp; omega
      refine .slice hlen (fun j u hu => ?_) (fun x hx => q6 x (List.mem_of_mem_drop (List.mem_of_mem_take hx))) (fun j x u hx hu => (((q9.drop off).take (len * sz)) j x u hx hu).mono hle) hc1 hc2 (fun hf => by cases hf)
      simp only [if_true]
      rcases Nat.eq_zero_or_pos len with h0 | h0
      · subst h0; simp at hu
      · obtain rfl := ho' h0
        have := ((q8.drop off').take (len * sz)) j u hu
        rwa [Nat.zero_add] at this
    · subst h0
      have e : (k.cells.drop off).take (0 * sz) = [] := by simp
      rw [e]
      exact .sliceN _ _
/-- The arguments, one block given up. -/
def Fz1 (id : Nat) (k : Blk) : List PV → List PV → Prop
  | [], [] => True
  | x :: xs, y :: ys => (x = y ∨ ∃ len sz g, x = .msl id k.ver 0 len sz g ∧ k.cells.length = len * sz ∧ y = .slice k.cells len false) ∧ Fz1 id k xs ys
  | _, _ => False
theorem Fz1.get {id : Nat} {k : Blk} : ∀ {xs ys : List PV}, Fz1 id k xs ys → ys.length = xs.length ∧ ∀ (j : Nat) (x y : PV), xs[j]? = some x → ys[j]? = some y → (x = y ∨ ∃ len sz g, x = .msl id k.ver 0 len sz g ∧ k.cells.length = len * sz ∧ y = .slice k.cells len false)
  | [], [], _ => ⟨rfl, fun j x y hx => by simp at hx⟩
  | x :: xs, y :: ys, h => by
    obtain ⟨l, q⟩ := Fz1.get h.2
    refine ⟨by simp [l], fun j a b ha hb => ?_⟩
    cases j with
    | zero => simp at ha hb; subst ha hb; exact h.1
    | succ j => exact q j a b (by simpa using ha) (by simpa using hb)
  | [], _ :: _, h => h.elim
  | _ :: _, [], h => h.elim
/-- ████ A call with a block of which nothing is written any more. ████ -/
theorem CallEx.frz1 {f : FuncId} {args args' : List PV} {R : PV → Heap → Prop} {id : Nat} {k : Blk} (hk : H[id]? = some k) (h : CallEx P f args' (H.set id ⟨k.e, k.ver + 1, []⟩) R) (hz : Fz1 id k args args') : CallEx P f args H R := by
  refine ⟨h.1, fun C us w hw hu => ?_⟩
  obtain ⟨C1, hle, hw1, hf⟩ := hw.freeze1 hk
  obtain ⟨hl, hp⟩ := hz.get
  have ha : VRels C1 args' us := ⟨by rw [hu.1, hl], fun j y u hy hu' => by
    have hj : j < args.length := by have := (List.getElem?_eq_some_iff.1 hy).1; omega
    have hv := hu.2 j _ u (List.getElem?_eq_getElem hj) hu'
    rcases hp j _ y (List.getElem?_eq_getElem hj) hy with e | ⟨len, sz, g, e1, e2, e3⟩
    · rw [← e]; exact hv.mono hle
    · rw [e1] at hv
      have := hf 0 len sz g u (by omega) hv
      rw [List.drop_zero, ← e2, List.take_length] at this
      rw [e3]; exact this⟩
  refine (h.2 C1 us w hw1 ha).mono ?_
  rintro e w' ⟨C2, u, v, H', hR, q1, q2, q3, q4, q5⟩
  exact ⟨C2, u, v, H', hR, hle.trans q1, q2, by rw [← hle.B]; exact q3, q4, q5⟩
theorem CallOk.frz1 {f : FuncId} {args args' : List PV} {v : PV} {H' : Heap} {id : Nat} {k : Blk} (hk : H[id]? = some k) (h : CallOk P f args' (H.set id ⟨k.e, k.ver + 1, []⟩) v H') (hz : Fz1 id k args args') : CallOk P f args H v H' := (CallEx.frz1 hk h.toEx hz).one

/-- A block that a cell names is given up where it stands. -/
theorem Vs.frzCell {E : Env} {id id' j len sz : Nat} {g : Bool} {k k' : Blk} (hk : H[id]? = some k) (hk' : H[id']? = some k') (hne : id ≠ id') (hj : k'.cells[j]? = some (.msl id k.ver 0 len sz g)) (hl : k.cells.length = len * sz) :
    Vs E F H F ((H.set id ⟨k.e, k.ver + 1, []⟩).set id' ⟨k'.e, k'.ver, k'.cells.set j (.slice k.cells len false)⟩) := fun _ C a w hw hf => by
  obtain ⟨C1, hle, hw1, hfz⟩ := hw.freeze1 hk
  have hid' : id' < H.length := (List.getElem?_eq_some_iff.1 hk').1
  have hid : id < H.length := (List.getElem?_eq_some_iff.1 hk).1
  -- what the cell holds is, under C1, the slice: by way of C
  obtain ⟨m, hm⟩ : ∃ m, C.mu[id']? = some m := ⟨C.mu[id']'(by rw [hw.len]; exact hid'), List.getElem?_eq_getElem _⟩
  cases m with
  | none =>
    rcases hw.gho id' k' hk' hm with h0 | ⟨b, es, clock, q1, q2, q3, q4, q5⟩ | ⟨b, r, q1, q2, q3, q4⟩
    · simp_all
    · have hj' : j < es.size := by grind
      obtain ⟨b, cap, off', _, e, _⟩ | ⟨ad, _, _, e⟩ := inv_msl hw (q5 j _ es[j] hj (Array.getElem?_eq_getElem hj')) (hw.ver id k hk) <;> cases e
    grind
  | some b =>
    obtain ⟨cur, q3, q4, q5, q6, q7, q8⟩ := hw.own id' k' b hk' hm
    have hk1 : (H.set id ⟨k.e, k.ver + 1, []⟩)[id']? = some k' := by simp_all
    refine ⟨C1, hle.toN _, ?_, hf.mono hle⟩
    have hlt : id' < (H.set id ⟨k.e, k.ver + 1, []⟩).length := by simp_all
    refine ⟨hw1.gl, hw1.base, hw1.tople, hw1.imm, by rw [hw1.len]; simp, by rw [hw1.lenv]; simp, by rw [hw1.lenc]; simp, ?_, ?_, ?_, hw1.disj, hw1.inj, hw1.minj⟩
    · intro i k2 hk2
      rw [List.getElem?_set] at hk2
      split at hk2
      · rename_i e; subst e
        simp only [hlt, if_true, Option.some.injEq] at hk2
        subst hk2
        exact hw1.ver id' k' hk1
      · exact hw1.ver i k2 hk2
    · intro i k2 hk2 hm2
      rw [List.getElem?_set] at hk2
      split at hk2
      · rename_i e; subst e
        obtain ⟨ver', e1, e2, e3⟩ := hle.ids id' k'.ver (hw.ver id' k' hk')
        have h2 := hw1.ver id' k' hk1
        simp_all
      · exact hw1.gho i k2 hk2 hm2
    · intro i k2 b2 hk2 hm2
      rw [List.getElem?_set] at hk2
      split at hk2
      · rename_i e; subst e
        simp only [hlt, if_true, Option.some.injEq] at hk2
        subst hk2
        obtain ⟨cur1, r3, r4, r5, r6, r7, r8⟩ := hw1.own id' k' b2 hk1 hm2
        -- the same place as before
        have hb : b2 = b := by
          obtain ⟨ver', e1, e2, e3⟩ := hle.ids id' k'.ver (hw.ver id' k' hk')
          have h2 := hw1.ver id' k' hk1
          simp_all
        subst hb
        rw [q5] at r5
        injection r5 with r5
        injection r5 with r5
        subst r5
        refine ⟨cur, r3, r4, q5, fun z hz => ?_, by simpa using r7, fun i z u hz hu => ?_⟩
        · rcases List.mem_or_eq_of_mem_set hz with hz | hz
          · simp_all
          · rw [hz]; rfl
        grind
      · exact hw1.own i k2 b2 hk2 hm2

end Go.Proofs.YtbhdollgohgkgaaGreatDoor.Pm

namespace Go.Proofs.YtbhdollgohgkgaaGreatDoor.Pm
set_option linter.all false
set_option linter.unusedVariables false
set_option linter.unusedSimpArgs false
open Go.RowKit

variable {P : Program} {C : Ctx} {H : Heap} {w : World} {F : Fr} {a : Act} {N : Nat}

/-! ### equality -/
def eqL {α : Type} (f : α → α → Bool) : List α → List α → Bool
  | [], [] => true
  | x :: xs, y :: ys => match f x y with | true => eqL f xs ys | false => false
  | _, _ => false
theorem eqL_sound {α : Type} {f : α → α → Bool} (hf : ∀ x y, f x y = true → x = y) : ∀ {xs ys : List α}, eqL f xs ys = true → xs = ys
  | [], [], _ => rfl
  | x :: xs, y :: ys, h => by
    simp only [eqL] at h
    split at h
    · rename_i h1; rw [hf _ _ h1, eqL_sound hf h]
    · cases h
  | [], _ :: _, h => by cases h
  | _ :: _, [], h => by cases h
def eqb : Nat → PV → PV → Bool
  | 0, _, _ => false
  | _ + 1, .int k a, .int k' b => decide (k = k') && decide (a = b)
  | _ + 1, .bool a, .bool b => a == b
  | _ + 1, .str a, .str b => decide (a = b)
  | _ + 1, .nilp, .nilp => true
  | _ + 1, .nl a, .nl b => Nat.beq a b
  | _ + 1, .undef, .undef => true
  | _ + 1, .ptr a b c, .ptr a' b' c' => Nat.beq a a' && Nat.beq b b' && Nat.beq c c'
  | n + 1, .ip xs o, .ip ys o' => Nat.beq o o' && eqL (eqb n) xs ys
  | n + 1, .slice xs l f, .slice ys l' f' => Nat.beq l l' && (f == f') && eqL (eqb n) xs ys
  | _ + 1, .msl a b c d e g, .msl a' b' c' d' e' g' => Nat.beq a a' && Nat.beq b b' && Nat.beq c c' && Nat.beq d d' && Nat.beq e e' && (g == g')
  | _ + 1, .mp a b, .mp a' b' => Nat.beq a a' && Nat.beq b b'
  | n + 1, .agg xs, .agg ys => eqL (eqb n) xs ys
  | n + 1, .tup xs, .tup ys => eqL (eqb n) xs ys
  | n + 1, .func f xs us, .func f' ys vs => Nat.beq f f' && eqL (eqb n) xs ys && eqL (eqb n) us vs
  | _ + 1, _, _ => false
theorem eqb_sound : ∀ (n : Nat) (x y : PV), eqb n x y = true → x = y
  | 0, _, _, h => by simp [eqb] at h
  | n + 1, x, y, h => by
    have ih : ∀ {xs ys : List PV}, eqL (eqb n) xs ys = true → xs = ys := fun h => eqL_sound (eqb_sound n) h
    have nb : ∀ {a b : Nat}, Nat.beq a b = true → a = b := fun h => Nat.eq_of_beq_eq_true h
    cases x <;> cases y <;> simp only [eqb, Bool.false_eq_true, Bool.and_eq_true, decide_eq_true_eq, beq_iff_eq] at h
    all_goals grind
def eqBlk (a b : Blk) : Bool := Nat.beq a.e b.e && Nat.beq a.ver b.ver && eqL (eqb 20) a.cells b.cells
theorem eqBlk_sound (a b : Blk) (h : eqBlk a b = true) : a = b := by
  simp only [eqBlk, Bool.and_eq_true] at h
  cases a; cases b
  grind [Nat.eq_of_beq_eq_true, eqL_sound, eqb_sound]
def eqH (a b : Heap) : Bool := eqL eqBlk a b
theorem eqH_sound {a b : Heap} (h : eqH a b = true) : a = b := eqL_sound eqBlk_sound h

/-! ### the evaluator -/
inductive Task where
  | code (N : Nat) (c : Code) (F : Fr) (H : Heap)
  | loop (N : Nat) (c : Code) (F : Fr) (H : Heap)
  | ops (d : Bool) (ds : List (Option Nat)) (l : List Oper) (F : Fr) (H : Heap)
  | call (f : FuncId) (args : List PV) (H : Heap)
inductive Res where
  | code (e : Exit) (F : Fr) (H : Heap)
  | val (v : PV) (H : Heap)

/-- The newest entry of each slot. -/
def newest (ks : List Nat) : Fr → List Nat
  | [] => ks
  | (t, _) :: r => match ks.any (Nat.beq t) with | true => newest ks r | false => newest (t :: ks) r

def stepE (P : Program) (ih : Task → Option Res) : Task → Option Res
  | .code N c F H => match c with
    | .skip => some (.code .normal F H)
    | .region _ ops d => match ops.toList.all (dstOk N) && (!d || (P.follows .mixedOrders && drawOk N ops.toList)) with
      | true => ih (.ops d (ops.toList.map (·.dst)) ops.toList F H)
      | false => none
    | .seq x y => match ih (.code N x F H) with
      | some (.code .normal F1 H1) => ih (.code N y F1 H1)
      | r => r
    | .cond c x y => match ev (slot F) c with
      | .bool true => ih (.code N x F H)
      | .bool false => ih (.code N y F H)
      | _ => none
    | .block id x => match ih (.code N x F H) with
      | some (.code (.exit id') F1 H1) => match Nat.beq id' id with | true => some (.code .normal F1 H1) | false => some (.code (.exit id') F1 H1)
      | r => r
    | .loop x => ih (.loop N x F H)
    | .exit id => some (.code (.exit id) F H)
    | .label _ => some (.code .normal F H)
    | .scope x => match ih (.code N x F H) with
      | some (.code (.goto _) _ _) => none
      | r => r
    | .ret => some (.code .ret F H)
    | _ => none
  | .loop N x F H => match ih (.code N x F H) with
    | some (.code .normal F1 H1) => ih (.loop N x (kp (newest [] F1) F1) H1)
    | r => r
  | .ops _ _ [] F H => some (.code .normal F H)
  | .ops d ds (o :: r) F H => match isCall o.op with
    | false => match stp P ds o F H with
      | some (F1, H1) => ih (.ops d ds r F1 H1)
      | none => none
    | true => match asked ds F o with
      | some true => match pcallee o.op (slot F) with
        | some (g, args) => match d && pureCall o.op with
          | true => match args, ih (.call g [] []) with
            | [], some (.val v []) => ih (.ops d ds r (put F o.dst v) H)
            | _, _ => none
          | false => match ih (.call g args H) with
            | some (.val v H1) => match !d || eqH H1 H with
              | true => ih (.ops d ds r (put F o.dst v) H1)
              | false => none
            | _ => none
        | none => none
      | some false => ih (.ops d ds r (put F o.dst (.tup [])) H)
      | none => none
  | .call f args H => match P.funcs[f]? with
    | some fn => match fn.body with
      | some c => match callable P f && Nat.ble args.length fn.ntmps with
        | true => match ih (.code fn.ntmps c (argFr args 0) H) with
          | some (.code e F1 H1) => match (match e with | .ret => true | .normal => true | _ => false) with
            | true => match presults P fn.results.toList (slot F1) H1 with
              | some v => match eqH (H1.take H.length) H with
                | true => match frz H.length H1 20 v with
                  | some v1 => some (.val v1 H)
                  | none => some (.val v H1)
                | false => some (.val v H1)
              | none => none
            | false => none
          | _ => none
        | false => none
      | none => none
    | none => none

noncomputable def evalN (P : Program) (n : Nat) : Task → Option Res := n.rec (fun _ => none) (fun _ ih => stepE P ih)

def Good (P : Program) : Task → Res → Prop
  | .code N c F H, .code e F1 H1 => ∀ H0, PW P ⟨N, H0⟩ c F H (fun e' F' H' => e' = e ∧ F' = F1 ∧ H' = H1)
  | .loop N c F H, .code e F1 H1 => ∀ H0, PL P ⟨N, H0⟩ c F H (fun e' F' H' => e' = e ∧ F' = F1 ∧ H' = H1)
  | .ops false ds l F H, .code .normal F1 H1 => VO P ds l (some (F, H)) (fun F' H' => F' = F1 ∧ H' = H1)
  | .ops true ds l F H, .code .normal F1 H1 => VOd P ds l (some (F, H)) (fun F' H' => F' = F1 ∧ H' = H1)
  | .call f args H, .val v H1 => CallOk P f args H v H1
  | _, _ => False

theorem VO_mono {ds : List (Option Nat)} {K K' : Fr → Heap → Prop} (hk : ∀ F H, K F H → K' F H) : ∀ {l : List Oper} {s : Option (Fr × Heap)}, VO P ds l s K → VO P ds l s K'
  | l, none, h => by rw [VO_none] at h; exact h.elim
  | [], some (F, H), h => hk F H h
  | o :: r, some (F, H), h => by
    cases hc : isCall o.op with
    | false => rw [VO_op hc] at h ⊢; exact VO_mono hk h
    | true =>
      rw [VO_call hc] at h ⊢
      unfold VC at h ⊢
      split at h
      · split at h
        · obtain ⟨R, h1, h2⟩ := h; exact ⟨R, h1, fun v H' hR => VO_mono hk (h2 v H' hR)⟩
        · exact h
      · exact VO_mono hk h
      · exact h
theorem VOd_mono {ds : List (Option Nat)} {K K' : Fr → Heap → Prop} (hk : ∀ F H, K F H → K' F H) : ∀ {l : List Oper} {s : Option (Fr × Heap)}, VOd P ds l s K → VOd P ds l s K'
  | l, none, h => by rw [VOd_none] at h; exact h.elim
  | [], some (F, H), h => hk F H h
  | o :: r, some (F, H), h => by
    rw [VOd_step] at h ⊢
    cases hc : isCall o.op with
    | false => rw [hc] at h; exact VOd_mono hk h
    | true =>
      rw [hc] at h
      simp only [VCd, VRd] at h ⊢
      split at h
      · split at h
        · obtain ⟨v, h1, h2⟩ := h; exact ⟨v, h1, VOd_mono hk h2⟩
        · exact h
      · exact VOd_mono hk h
      · exact h

theorem stepE_good {ih : Task → Option Res} (hih : ∀ t r, ih t = some r → Good P t r) : ∀ t r, stepE P ih t = some r → Good P t r := by
  intro t r h
  cases t with
  | code N c F H =>
    -- what the parts give
    have sub : ∀ {x : Code} {F : Fr} {H : Heap} {r : Res}, ih (.code N x F H) = some r → ∃ e F1 H1, r = .code e F1 H1 ∧ ∀ H0, PW P ⟨N, H0⟩ x F H (fun e' F' H' => e' = e ∧ F' = F1 ∧ H' = H1) := fun {x F H r} hx => by
      have := hih _ _ hx
      cases r with
      | code e F1 H1 => exact ⟨e, F1, H1, rfl, this⟩
      | val v H1 => exact this.elim
    cases c with
    | skip => simp only [stepE, Option.some.injEq] at h; subst h; exact fun H0 => PW.skip ⟨rfl, rfl, rfl⟩
    | exit id => simp only [stepE, Option.some.injEq] at h; subst h; exact fun H0 => PW.exit ⟨rfl, rfl, rfl⟩
    | label l => simp only [stepE, Option.some.injEq] at h; subst h; exact fun H0 => PW.label ⟨rfl, rfl, rfl⟩
    | ret => simp only [stepE, Option.some.injEq] at h; subst h; exact fun H0 => PW.ret ⟨rfl, rfl, rfl⟩
    | scope x =>
      simp only [stepE] at h
      cases hx : ih (.code N x F H) with
      | none => rw [hx] at h; cases h
      | some r1 =>
        obtain ⟨e, F1, H1, rfl, hp⟩ := sub hx
        rw [hx] at h
        cases e with
        | goto l => cases h
        | _ =>
          injection h with h
          subst h
          intro H0
          refine PW.scope ((hp H0).mono ?_)
          rintro e' F' H' ⟨rfl, rfl, rfl⟩
          exact ⟨rfl, rfl, rfl⟩
    | region id ops d =>
      simp only [stepE] at h
      split at h
      · rename_i hc
        simp only [Bool.and_eq_true, Bool.or_eq_true, Bool.not_eq_true'] at hc
        have := hih _ _ h
        cases d with
        | false =>
          cases r with
          | val v H1 => exact this.elim
          | code e F1 H1 =>
            cases e with
            | normal =>
              intro H0
              refine PW.rg hc.1 fun K hK => VO_mono (fun F' H' hq => hK _ _ ?_) this
              simp_all
            | _ => exact this.elim
        | true =>
          rcases hc.2 with h2 | h2
          · cases h2
          · cases r with
            | val v H1 => exact this.elim
            | code e F1 H1 =>
              cases e with
              | normal =>
                intro H0
                refine PW.draw h2.1 h2.2 fun K hK => VOd_mono (fun F' H' hq => hK _ _ ?_) this
                simp_all
              | _ => exact this.elim
      · cases h
    | seq x y =>
      simp only [stepE] at h
      cases hx : ih (.code N x F H) with
      | none => rw [hx] at h; cases h
      | some rx =>
        obtain ⟨e, F1, H1, rfl, hp⟩ := sub hx
        rw [hx] at h
        cases e with
        | normal =>
          obtain ⟨e2, F2, H2, rfl, hp2⟩ := sub h
          intro H0
          exact PW.seq ((hp H0).mono fun e' F' H' hq => by obtain ⟨rfl, rfl, rfl⟩ := hq; exact hp2 H0)
        | _ =>
          simp only [Option.some.injEq] at h
          subst h
          intro H0
          exact PW.seq ((hp H0).mono fun e' F' H' hq => by obtain ⟨rfl, rfl, rfl⟩ := hq; exact ⟨rfl, rfl, rfl⟩)
    | cond c x y =>
      simp only [stepE] at h
      split at h
      · rename_i hc
        obtain ⟨e2, F2, H2, rfl, hp2⟩ := sub h
        exact fun H0 => PW.cond hc (fun _ => hp2 H0) (fun e => by cases e)
      · rename_i hc
        obtain ⟨e2, F2, H2, rfl, hp2⟩ := sub h
        exact fun H0 => PW.cond hc (fun e => by cases e) (fun _ => hp2 H0)
      · cases h
    | block id x =>
      simp only [stepE] at h
      cases hx : ih (.code N x F H) with
      | none => rw [hx] at h; cases h
      | some rx =>
        obtain ⟨e, F1, H1, rfl, hp⟩ := sub hx
        rw [hx] at h
        cases e with
        | exit id' =>
          simp only at h
          split at h
          · rename_i hb
            simp only [Option.some.injEq] at h
            subst h
            intro H0
            exact PW.block ((hp H0).mono fun e' F' H' hq => by
              obtain ⟨rfl, rfl, rfl⟩ := hq
              simp only [blockQ]
              rw [if_pos (Nat.eq_of_beq_eq_true hb)]; simp)
          · rename_i hb
            simp only [Option.some.injEq] at h
            subst h
            intro H0
            exact PW.block ((hp H0).mono fun e' F' H' hq => by
              obtain ⟨rfl, rfl, rfl⟩ := hq
              simp only [blockQ]
              rw [if_neg (by intro e; rw [e, Nat.beq_refl] at hb; cases hb)]; simp)
        | _ =>
          simp only [Option.some.injEq] at h
          subst h
          intro H0
          exact PW.block ((hp H0).mono fun e' F' H' hq => by obtain ⟨rfl, rfl, rfl⟩ := hq; exact ⟨rfl, rfl, rfl⟩)
    | loop x =>
      simp only [stepE] at h
      have := hih _ _ h
      cases r with
      | val v H1 => exact this.elim
      | code e F1 H1 => exact fun H0 => PW.loop (this H0)
    | _ => simp [stepE] at h
  | loop N x F H =>
    simp only [stepE] at h
    cases hx : ih (.code N x F H) with
    | none => rw [hx] at h; cases h
    | some rx =>
      have h1 := hih _ _ hx
      cases rx with
      | val v H1 => exact h1.elim
      | code e F1 H1 =>
        rw [hx] at h
        cases e with
        | normal =>
          have h2 := hih _ _ h
          cases r with
          | val v H1 => exact h2.elim
          | code e2 F2 H2 =>
            intro H0
            refine PL.round ((h1 H0).mono fun e' F' H' hq => ?_)
            obtain ⟨rfl, rfl, rfl⟩ := hq
            exact PL.keep (newest [] F') (h2 H0)
        | _ =>
          simp only [Option.some.injEq] at h
          subst h
          intro H0
          exact PL.round ((h1 H0).mono fun e' F' H' hq => by obtain ⟨rfl, rfl, rfl⟩ := hq; exact ⟨rfl, rfl, rfl⟩)
  | ops d ds l F H =>
    cases l with
    | nil => simp only [stepE, Option.some.injEq] at h; subst h; cases d <;> exact ⟨rfl, rfl⟩
    | cons o l =>
      simp only [stepE] at h
      -- what the rest gives
      have rest : ∀ {F1 : Fr} {H1 : Heap}, ih (.ops d ds l F1 H1) = some r → ∃ F2 H2, r = .code .normal F2 H2 ∧ (d = false → VO P ds l (some (F1, H1)) (fun F' H' => F' = F2 ∧ H' = H2)) ∧ (d = true → VOd P ds l (some (F1, H1)) (fun F' H' => F' = F2 ∧ H' = H2)) := fun {F1 H1} hx => by
        have := hih _ _ hx
        cases r with
        | val v H1 => cases d <;> exact this.elim
        | code e F2 H2 =>
          cases e with
          | normal => cases d <;> exact ⟨F2, H2, rfl, fun e => (by first | exact this | cases e), fun e => (by first | exact this | cases e)⟩
          | _ => cases d <;> exact this.elim
      split at h
      · rename_i hc
        split at h
        · rename_i F1 H1 hs
          obtain ⟨F2, H2, rfl, h1, h2⟩ := rest h
          cases d with
          | false => show VO P ds (o :: l) (some (F, H)) _; rw [VO_op hc, hs]; exact h1 rfl
          | true => show VOd P ds (o :: l) (some (F, H)) _; rw [VOd_step, hc]; show VOd P ds l (stp P ds o F H) _; rw [hs]; exact h2 rfl
        · cases h
      · rename_i hc
        split at h
        · rename_i ha
          split at h
          · rename_i g args hp
            split at h
            · rename_i hpc
              simp only [Bool.and_eq_true] at hpc
              obtain ⟨rfl, hpc⟩ := hpc
              split at h
              · rename_i v hcall
                have hk : CallOk P g [] [] v [] := hih _ _ hcall
                have hall : ∀ K, CallOk P g [] K v K := fun K => hk.frame (fun x hx => by cases hx)
                obtain ⟨F2, H2, rfl, h1, h2⟩ := rest h
                show VOd P ds (o :: l) (some (F, H)) _
                rw [VOd_step, hc]
                exact VCd.call (hall H) (fun _ => hall) ha hp (h2 rfl)
              · cases h
            rename_i hpc
            split at h
            · rename_i v H1 hcall
              split at h
              · rename_i hd
                have hk := hih _ _ hcall
                obtain ⟨F2, H2, rfl, h1, h2⟩ := rest h
                cases d with
                | false =>
                  show VO P ds (o :: l) (some (F, H)) _
                  rw [VO_call hc]
                  exact VC.call hk ha hp (h1 rfl)
                | true =>
                  have he : H1 = H := eqH_sound (by simpa using hd)
                  subst he
                  show VOd P ds (o :: l) (some (F, H1)) _
                  rw [VOd_step, hc]
                  exact VCd.call hk (fun e => by rw [e] at hpc; cases hpc) ha hp (h2 rfl)
              · cases h
            · cases h
          · cases h
        · rename_i ha
          obtain ⟨F2, H2, rfl, h1, h2⟩ := rest h
          cases d with
          | false =>
            show VO P ds (o :: l) (some (F, H)) _
            rw [VO_call hc]
            unfold VC
            rw [ha]
            exact h1 rfl
          | true =>
            show VOd P ds (o :: l) (some (F, H)) _
            rw [VOd_step, hc]
            simp only [VCd, ha]
            exact h2 rfl
        · cases h
  | call f args H =>
    simp only [stepE] at h
    split at h
    · rename_i fn hf
      split at h
      · rename_i c hb
        split at h
        · rename_i hq
          simp only [Bool.and_eq_true] at hq
          split at h
          · rename_i e F1 H1 hcode
            have hg := hih _ _ hcode
            split at h
            · rename_i he
              split at h
              · rename_i v hres
                have fin : ∀ v1 H2, Fin H v1 H2 v H1 → CallOk P f args H v1 H2 := fun v1 H2 hfin => by
                  refine CallOk.body hf hb rfl rfl rfl hq.1 hq.2 ((hg H).mono fun e' F' H' hq => ?_)
                  obtain ⟨rfl, rfl, rfl⟩ := hq
                  cases e' with
                  | ret => exact ⟨v, hres, hfin⟩
                  | normal => exact ⟨v, hres, hfin⟩
                  | _ => cases he
                split at h
                · rename_i hH
                  split at h
                  · rename_i v1 hz
                    simp only [Option.some.injEq] at h
                    subst h
                    refine fin v1 H (.inr (.inl ⟨H1.drop H.length, 20, ?_, rfl, hz⟩))
                    grind [eqH_sound, List.take_append_drop]
                  · simp only [Option.some.injEq] at h
                    subst h
                    exact fin v H1 (.inl ⟨rfl, rfl⟩)
                · simp only [Option.some.injEq] at h
                  subst h
                  exact fin v H1 (.inl ⟨rfl, rfl⟩)
              · cases h
            · cases h
          · cases h
        · cases h
      · cases h
    · cases h

theorem evalN_good : ∀ (n : Nat) (t : Task) (r : Res), evalN P n t = some r → Good P t r
  | 0, t, r, h => by cases h
  | n + 1, t, r, h => stepE_good (evalN_good n) t r h
/-- ████ What the evaluator says is a contract, over every heap. ████ -/
theorem CallOk.eval (n : Nat) {f : FuncId} {args : List PV} {v : PV} (h : evalN P n (.call f args []) = some (.val v [])) (hs : ∀ x ∈ args, Scoped 0 x) : CallOk P f args H v H := (evalN_good n _ _ h).frame hs
def isTrue : Option Res → Bool
  | some (.val (.bool true) []) => true
  | _ => false
theorem CallOk.evalT (n : Nat) {f : FuncId} (h : isTrue (evalN P n (.call f [] [])) = true) : CallOk P f [] H (.bool true) H := by
  refine CallOk.eval n ?_ (fun x hx => by cases hx)
  grind [isTrue]

end Go.Proofs.YtbhdollgohgkgaaGreatDoor.Pm
