/-
  A small program logic over abstract values: each operation does in the model what 'pop' says. No condition. Program-independent. Part 1: operations that do not touch memory.
-/
import Derived.Test.YtahomnplappbpaaGreatDoorPmO
namespace Go.Proofs.YtahomnplappbpaaGreatDoor.Pm
set_option linter.all false
set_option linter.unusedVariables false
set_option linter.unusedSimpArgs false
open Go.RowKit

variable {P : Program} {C : Ctx} {H : Heap} {w : World} {F : Nat → PV} {a : Act} {N : Nat}

/-- The frame, as the abstract one has it. -/
def FRel (C : Ctx) (N : Nat) (F : Nat → PV) (a : Act) : Prop := a.tmps.size = N ∧ ∀ t, VRel C (F t) (a.tmps.getD t Go.undef)

theorem FRel.mono {C' : Ctx} (h : CLe C C') (r : FRel C N F a) : FRel C' N F a := ⟨r.1, fun t => (r.2 t).mono h⟩

theorem VRel.undefV : VRel C (.tup []) Go.undef := .tup (us := []) rfl (fun j x u hx => by simp at hx)

def upd (F : Nat → PV) (d : Option Nat) (v : PV) : Nat → PV := match d with | none => F | some d => fun t => if d = t then v else F t

theorem get_put (F : Fr) (d : Option Nat) (v : PV) : slot (put F d v) = upd (slot F) d v := by
  cases d with
  | none => rfl
  | some d =>
    funext t
    show (match Nat.beq d t with | true => v | false => slot F t) = if d = t then v else slot F t
    by_cases h : d = t
    · subst h; rw [Nat.beq_refl]; simp
    · rw [show Nat.beq d t = false from by cases hb : Nat.beq d t with | false => rfl | true => exact absurd (Nat.eq_of_beq_eq_true hb) h]; simp [h]

theorem FRel.put (r : FRel C N F a) (d : Option Nat) (hd : ∀ t, d = some t → t < N) {v : PV} {u : Value} (hv : VRel C v u) : FRel C N (upd F d v) (a.put d u) := by
  cases d with
  | none => exact r
  | some d =>
    have hlt := hd d rfl
    refine ⟨by simp [Act.put, r.1], fun t => ?_⟩
    simp only [upd, Act.put, Array.getD_eq_getD_getElem?, Array.getElem?_setIfInBounds]
    by_cases h : d = t
    · subst h
      simp [r.1, hlt, hv]
    · simp only [h, if_false]
      have := r.2 t
      rwa [Array.getD_eq_getD_getElem?] at this

theorem pv1_rel (v : Value) : VRel C (pv1 v) v := by
  unfold pv1
  split
  all_goals first | exact .int _ _ | exact .bool _ | exact .str _ | exact .nilp | exact .sliceN _ _ | exact .nl 0 | exact .nl 1 | exact .nl 2 | exact .undef _
theorem pvc_rel (v : Value) : VRel C (pvc v) v := by
  unfold pvc
  split
  · rename_i cs
    split
    · rename_i h
      have := VRel.agg (C := C) (cs := cs.toList.map pv1) (us := cs.toList) (by simp) (fun x hx => List.all_eq_true.1 h x hx) (fun j x u hx hu => by
        simp only [List.getElem?_map, hu, Option.map_some, Option.some.injEq] at hx
        subst hx
        exact pv1_rel u)
      simpa using this
    · exact .undef _
  · rename_i vs
    have := VRel.tup (C := C) (vs := vs.toList.map pv1) (us := vs.toList) (by simp) (fun j x u hx hu => by
      simp only [List.getElem?_map, hu, Option.map_some, Option.some.injEq] at hx
      subst hx
      exact pv1_rel u)
    simpa using this
  · exact pv1_rel _

theorem ev_rel (r : FRel C N F a) (x : Operand) : VRel C (ev F x) (a.eval x) := by
  cases x with
  | tmp t => exact r.2 t
  | const v => exact pvc_rel v
  | global g => exact .nl (g + 3)
  | func f => exact .func (us := []) (ws := []) rfl rfl (fun j x u hx => by simp at hx) (fun j x u hx => by simp at hx)

theorem evs_rel (r : FRel C N F a) (xs : List Operand) : VRels C (xs.map (ev F)) (xs.map a.eval) := by
  refine ⟨by simp, fun j x u hx hu => ?_⟩
  simp only [List.getElem?_map, Option.map_eq_some_iff] at hx hu
  obtain ⟨o, ho, rfl⟩ := hx
  obtain ⟨o', ho', rfl⟩ := hu
  rw [ho] at ho'
  injection ho' with ho'
  subst ho'
  exact ev_rel r o

/-- What an operation must do. -/
def OpOk (P : Program) (o : Oper) (a : Act) (w : World) (C : Ctx) (v : PV) (H' : Heap) : Prop :=
  ∃ C' u w', CLe C C' ∧ WRel C' H' w' ∧ Below C.B w w' ∧ VRel C' v u ∧ ((execOp a.eval o).run P w = .ok (.value u) w' ∨ ((execOp a.eval o).run P w = .ok .skip w' ∧ u = Go.undef))

theorem OpOk.pure {o : Oper} {v : PV} {u : Value} (hw : WRel C H w) (hv : VRel C v u) (hr : (execOp a.eval o).run P w = .ok (.value u) w) : OpOk P o a w C v H :=
  ⟨C, u, w, .refl _, hw, .refl _ _, hv, .inl hr⟩

theorem inv_int {k : IntKind} {n : Int} {v : Value} (h : VRel C (.int k n) v) : v = .int k n := by cases h; rfl
theorem inv_bool {b : Bool} {v : Value} (h : VRel C (.bool b) v) : v = .bool b := by cases h; rfl
theorem inv_nilp {v : Value} (h : VRel C .nilp v) : v = .pointer none := by cases h; rfl
theorem inv_str {s : List UInt8} {v : Value} (h : VRel C (.str s) v) : ∃ t : ByteArray, v = .string t ∧ t.data.toList = s := by cases h; exact ⟨_, rfl, rfl⟩
theorem str_mk (s : List UInt8) : VRel C (.str s) (.string ⟨s.toArray⟩) := by simpa using VRel.str (C := C) ⟨s.toArray⟩

theorem live_vs (hw : WRel C H w) {id ver : Nat} (h : live H id ver = true) : C.vs[id]? = some ver ∧ ∃ k, H[id]? = some k ∧ k.ver = ver := by
  unfold live at h
  split at h
  · rename_i k hk
    have q2 := hw.ver id k hk
    have : k.ver = ver := by simpa using h
    exact ⟨this ▸ q2, k, hk, this⟩
  · cases h

theorem inv_ptr (_hw : WRel C H w) {id ver off : Nat} {v : Value} (hv : VRel C (.ptr id ver off) v) (hl : C.vs[id]? = some ver) : ∃ b, C.mu[id]? = some (some b) ∧ v = .pointer (some ⟨b, off, none⟩) := by
  cases hv with
  | ptr hm _ => exact ⟨_, hm, rfl⟩
  | ptrS _ _ hv' hlt => rw [hl] at hv'; injection hv' with hv'; omega

theorem inv_mp (_hw : WRel C H w) {id ver : Nat} {v : Value} (hv : VRel C (.mp id ver) v) (hl : C.vs[id]? = some ver) : ∃ b, C.mu[id]? = some none ∧ C.cp[id]? = some (b + 1) ∧ v = .map (some b) := by
  cases hv with
  | mp hm _ hb => exact ⟨_, hm, hb, rfl⟩
  | mpS _ _ hv' hlt => rw [hl] at hv'; injection hv' with hv'; omega

theorem inv_msl (_hw : WRel C H w) {id ver off len sz : Nat} {g : Bool} {v : Value} (hv : VRel C (.msl id ver off len sz g) v) (hl : C.vs[id]? = some ver) :
    (∃ b cap off', C.mu[id]? = some (some b) ∧ v = .slice (some ⟨b, off', none⟩) len cap ∧ len ≤ cap ∧ cap ≤ maxLen ∧ (0 < len → off' = off) ∧ (g = true → off = 0 ∧ off' = 0 ∧ C.cp[id]? = some (cap * sz))) ∨
    (∃ ad, (C.mu[id]? = some none ∧ C.cp[id]? = some 0) ∧ len = 0 ∧ v = .slice ad 0 0) := by
  cases hv with
  | msl hm _ hcap hmax hg => exact .inl ⟨_, _, _, hm, rfl, hcap, hmax, fun _ => rfl, fun h => ⟨(hg h).1, (hg h).1, (hg h).2⟩⟩
  | mslG ad hm _ => exact .inr ⟨ad, hm, rfl, rfl⟩
  | mslE hm _ hmax => exact .inl ⟨_, _, _, hm, rfl, Nat.zero_le _, hmax, fun h => absurd h (by omega), fun h => by cases h⟩
  | mslS _ _ hv' hlt => rw [hl] at hv'; injection hv' with hv'; omega

/-! ### integers, strings, comparisons -/
theorem pint_sound {op : BinOp} {k k' : IntKind} {x y : Int} {v : PV} (t : TypeId) (h : pint op k x k' y = some v) : ∃ u, VRel C v u ∧ (binOp op t (.int k x) (.int k' y)).run P w = .ok u w := by
  cases op <;> simp only [pint] at h <;> (repeat' split at h) <;> (try (cases h; done)) <;> (injection h with h; subst h)
  all_goals first
    | (refine ⟨_, .int _ _, ?_⟩; simp_all [binOp, Op.intArith, Op.intDiv, Op.intBits]; done)
    | (refine ⟨_, .bool _, ?_⟩; simp_all [binOp, Op.intCmp]; done)
    | (refine ⟨_, .int _ _, ?_⟩; rename_i hy; simp only [binOp, Op.shift]; rw [if_neg hy]; simp; done)

theorem pint_guard {op : BinOp} {t : TypeId} {x y : Operand} {k k' : IntKind} {m n : Int} : (eqGuard op t x y (.int k m) (.int k' n)).run P w = .ok () w := by
  cases op <;> simp [eqGuard]

theorem pstr_sound {op : BinOp} {x y : ByteArray} {v : PV} (t : TypeId) (h : pstr op x.data.toList y.data.toList = some v) : ∃ u, VRel C v u ∧ (binOp op t (.string x) (.string y)).run P w = .ok u w := by
  have ex := ByteArray.toList_eq x
  have ey := ByteArray.toList_eq y
  cases op <;> simp only [pstr] at h <;> (try (cases h; done))
  case add =>
    split at h
    · rename_i hl
      injection h with h
      subst h
      refine ⟨.string (x ++ y), ?_, ?_⟩
      · have := VRel.str (C := C) (x ++ y)
        rwa [ByteArray.data_append, Array.toList_append] at this
      · have h1 : x.size = x.data.toList.length := by rw [Array.length_toList]; rfl
        have h2 : y.size = y.data.toList.length := by rw [Array.length_toList]; rfl
        simp [binOp, Op.stringOp]
        omega
    · cases h
  all_goals
    injection h with h
    subst h
    exact ⟨_, .bool _, by simp [binOp, Op.stringOp, ex, ey]⟩

theorem pstr_guard {op : BinOp} {t : TypeId} {x y : Operand} {p q : ByteArray} : (eqGuard op t x y (.string p) (.string q)).run P w = .ok () w := by
  cases op <;> simp [eqGuard]
theorem pbool_guard {op : BinOp} {t : TypeId} {x y : Operand} {p q : Bool} : (eqGuard op t x y (.bool p) (.bool q)).run P w = .ok () w := by
  cases op <;> simp [eqGuard]
theorem pptr_guard {op : BinOp} {t : TypeId} {x y : Operand} {p q : Option Addr} : (eqGuard op t x y (.pointer p) (.pointer q)).run P w = .ok () w := by
  cases op <;> simp [eqGuard]

theorem peq_sound {op : BinOp} {b : Bool} {v : PV} {t : TypeId} {x y : Value} (h : peq op b = some v) (he : (Op.equal t x y).run P w = .ok b w)
    (hop : ∀ o : BinOp, (o = .eql ∨ o = .neq) → binOp o t x y = (match o with | .eql => do pure (.bool (← Op.equal t x y)) | _ => do pure (.bool (!(← Op.equal t x y))))) :
    ∃ u, VRel C v u ∧ (binOp op t x y).run P w = .ok u w := by
  cases op <;> simp only [peq] at h <;> (try (cases h; done)) <;> (injection h with h; subst h)
  · exact ⟨_, .bool _, by rw [hop .eql (.inl rfl)]; simp [he]⟩
  · exact ⟨_, .bool _, by rw [hop .neq (.inr rfl)]; simp [he]⟩

theorem isBool_of {t : TypeId} (h : isBoolT P t = true) : P.underlying t = some .bool := by
  unfold isBoolT at h
  split at h
  · assumption
  · cases h
theorem isPtr_of {t : TypeId} (h : isPtrT P t = true) : ∃ e, P.underlying t = some (.pointer e) := by
  unfold isPtrT at h
  split at h
  · exact ⟨_, by assumption⟩
  · cases h
theorem eqIn_ptr_nil (d : Nat) {t e : TypeId} (hu : P.underlying t = some (.pointer e)) (p : Option Addr) : (Op.equalIn (d + 1) t (.pointer none) (.pointer p)).run P w = .ok p.isNone w := by
  simp [Op.equalIn, run_underlying hu]
theorem eqIn_ptr_nil' (d : Nat) {t e : TypeId} (hu : P.underlying t = some (.pointer e)) (p : Addr) : (Op.equalIn (d + 1) t (.pointer (some p)) (.pointer none)).run P w = .ok false w := by
  simp [Op.equalIn, run_underlying hu]
theorem eq_ptr_nil {t e : TypeId} (hu : P.underlying t = some (.pointer e)) (p : Option Addr) : (Op.equal t (.pointer none) (.pointer p)).run P w = .ok p.isNone w := eqIn_ptr_nil 9999 hu p
theorem eq_ptr_nil' {t e : TypeId} (hu : P.underlying t = some (.pointer e)) (p : Addr) : (Op.equal t (.pointer (some p)) (.pointer none)).run P w = .ok false w := eqIn_ptr_nil' 9999 hu p

theorem pbin_sound {op : BinOp} {t : TypeId} {x y : PV} {p q : Value} {v : PV} (X Y : Operand) (hw : WRel C H w) (hx : VRel C x p) (hy : VRel C y q) (h : pbin P H op t x y = some v) :
    ∃ u, VRel C v u ∧ (do eqGuard op t X Y p q; binOp op t p q : Sem Value).run P w = .ok u w := by
  unfold pbin at h
  split at h
  · obtain rfl := inv_int hx
    obtain rfl := inv_int hy
    obtain ⟨u, hu, hr⟩ := pint_sound (P := P) (C := C) (w := w) t h
    exact ⟨u, hu, by rw [Sem.run_bind, pint_guard, Result.andThen_ok, hr]⟩
  · obtain ⟨s, rfl, rfl⟩ := inv_str hx
    obtain ⟨s', rfl, rfl⟩ := inv_str hy
    obtain ⟨u, hu, hr⟩ := pstr_sound (P := P) (C := C) (w := w) t h
    exact ⟨u, hu, by rw [Sem.run_bind, pstr_guard, Result.andThen_ok, hr]⟩
  · obtain rfl := inv_bool hx
    obtain rfl := inv_bool hy
    split at h
    · rename_i hb
      obtain ⟨u, hu, hr⟩ := peq_sound (P := P) (C := C) (w := w) h (run_equal_bool w t _ _ (isBool_of hb)) (fun o ho => by rcases ho with rfl | rfl <;> rfl)
      exact ⟨u, hu, by rw [Sem.run_bind, pbool_guard, Result.andThen_ok, hr]⟩
    · cases h
  · obtain rfl := inv_nilp hx
    obtain rfl := inv_nilp hy
    split at h
    · rename_i hb
      obtain ⟨e, he⟩ := isPtr_of hb
      obtain ⟨u, hu, hr⟩ := peq_sound (P := P) (C := C) (w := w) h (eq_ptr_nil he none) (fun o ho => by rcases ho with rfl | rfl <;> rfl)
      exact ⟨u, hu, by rw [Sem.run_bind, pptr_guard, Result.andThen_ok, hr]⟩
    · cases h
  · split at h
    · rename_i hb
      simp only [Bool.and_eq_true] at hb
      obtain ⟨e, he⟩ := isPtr_of hb.1
      obtain ⟨b, _, rfl⟩ := inv_ptr hw hx (live_vs hw hb.2).1
      obtain rfl := inv_nilp hy
      obtain ⟨u, hu, hr⟩ := peq_sound (P := P) (C := C) (w := w) h (eq_ptr_nil' he _) (fun o ho => by rcases ho with rfl | rfl <;> rfl)
      exact ⟨u, hu, by rw [Sem.run_bind, pptr_guard, Result.andThen_ok, hr]⟩
    · cases h
  · split at h
    · rename_i hb
      simp only [Bool.and_eq_true] at hb
      obtain ⟨e, he⟩ := isPtr_of hb.1
      obtain ⟨b, _, rfl⟩ := inv_ptr hw hy (live_vs hw hb.2).1
      obtain rfl := inv_nilp hx
      obtain ⟨u, hu, hr⟩ := peq_sound (P := P) (C := C) (w := w) h (show (Op.equal t (.pointer none) (.pointer (some _))).run P w = .ok false w from eq_ptr_nil he (some _)) (fun o ho => by rcases ho with rfl | rfl <;> rfl)
      exact ⟨u, hu, by rw [Sem.run_bind, pptr_guard, Result.andThen_ok, hr]⟩
    · cases h
  · split at h
    · rename_i hb
      obtain ⟨e, he⟩ := isPtr_of hb
      obtain rfl := inv_nilp hy
      cases hx
      obtain ⟨u, hu, hr⟩ := peq_sound (P := P) (C := C) (w := w) h (eq_ptr_nil' he _) (fun o ho => by rcases ho with rfl | rfl <;> rfl)
      exact ⟨u, hu, by rw [Sem.run_bind, pptr_guard, Result.andThen_ok, hr]⟩
    · cases h
  · split at h
    · rename_i hb
      obtain ⟨e, he⟩ := isPtr_of hb
      obtain rfl := inv_nilp hx
      cases hy
      obtain ⟨u, hu, hr⟩ := peq_sound (P := P) (C := C) (w := w) h (show (Op.equal t (.pointer none) (.pointer (some _))).run P w = .ok false w from eq_ptr_nil he (some _)) (fun o ho => by rcases ho with rfl | rfl <;> rfl)
      exact ⟨u, hu, by rw [Sem.run_bind, pptr_guard, Result.andThen_ok, hr]⟩
    · cases h
  · cases h

theorem pun_sound {op : UnOp} {x v : PV} {p : Value} (hx : VRel C x p) (h : pun op x = some v) : ∃ u, VRel C v u ∧ (Op.unary op p).run P w = .ok u w := by
  unfold pun at h
  split at h
  · obtain rfl := inv_int hx
    injection h with h
    subst h
    exact ⟨_, .int _ _, by simp [Op.unary, Op.intArith]⟩
  · obtain rfl := inv_int hx
    injection h with h
    subst h
    exact ⟨_, .int _ _, by simp [Op.unary, Op.intBits]⟩
  · obtain rfl := inv_bool hx
    injection h with h
    subst h
    exact ⟨_, .bool _, by simp [Op.unary]⟩
  · cases h

end Go.Proofs.YtahomnplappbpaaGreatDoor.Pm
