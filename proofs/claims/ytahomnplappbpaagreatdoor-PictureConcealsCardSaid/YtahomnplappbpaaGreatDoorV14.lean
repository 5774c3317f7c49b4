/-
  Parts of the proof, put together in one text. No condition.
-/
import Derived.Test.YtahomnplappbpaaGreatDoorV13
namespace Go.Proofs.YtahomnplappbpaaGreatDoor.Pm
set_option linter.all false
set_option linter.unusedVariables false
set_option linter.unusedSimpArgs false
open Go.RowKit

variable {P : Program} {H : Heap} {F : Fr}

theorem stp_eq (ds : List (Option Nat)) (o : Oper) : stp P ds o F H = match asked ds F o with
    | none => none
    | some b => cond b (match pop P o.op (slot F) H with | some (v, H') => some (put F o.dst v, H') | none => none) (some (put F o.dst (.tup []), H)) := by
  unfold stp
  cases asked ds F o with
  | none => rfl
  | some b => cases b <;> rfl
/-- A test in a region. -/
theorem VO_cond {ds : List (Option Nat)} {l : List Oper} {K : Fr → Heap → Prop} {x : Bool} {A B : Option (Fr × Heap)} (h1 : x = true → VO P ds l A K) (h2 : x = false → VO P ds l B K) : VO P ds l (cond x A B) K := by
  cases x with
  | true => exact h1 rfl
  | false => exact h2 rfl
theorem VOd_cond {ds : List (Option Nat)} {l : List Oper} {K : Fr → Heap → Prop} {x : Bool} {A B : Option (Fr × Heap)} (h1 : x = true → VOd P ds l A K) (h2 : x = false → VOd P ds l B K) : VOd P ds l (cond x A B) K := by
  cases x with
  | true => exact h1 rfl
  | false => exact h2 rfl
theorem VOg_cond {ds : List (Option Nat)} {l : List Oper} {K : Fr → Heap → Prop} {x : Bool} {A B : Option (Fr × Heap)} (h1 : x = true → VOg P ds l A K) (h2 : x = false → VOg P ds l B K) : VOg P ds l (cond x A B) K := by
  cases x with
  | true => exact h1 rfl
  | false => exact h2 rfl
theorem VC.guard {ds : List (Option Nat)} {o : Oper} {K : Fr → Heap → Prop} {x : Bool} (ha : asked ds F o = some x) (h1 : x = true → VC P ds { o with guard := none } F H K) (h2 : x = false → K (put F o.dst (.tup [])) H) : VC P ds o F H K := by
  cases x with
  | true =>
    have := h1 rfl
    unfold VC at this ⊢
    rw [ha]
    exact this
  | false =>
    unfold VC
    rw [ha]
    exact h2 rfl
theorem VCd.guard {ds : List (Option Nat)} {o : Oper} {K : Fr → Heap → Prop} {x : Bool} (ha : asked ds F o = some x) (h1 : x = true → VCd P ds { o with guard := none } F H K) (h2 : x = false → K (put F o.dst (.tup [])) H) : VCd P ds o F H K := by
  cases x with
  | true =>
    have := h1 rfl
    unfold VCd at this ⊢
    rw [ha]
    exact this
  | false =>
    unfold VCd
    rw [ha]
    exact h2 rfl

/-- A call that is carried out. -/
def VCx (P : Program) (o : Oper) (F : Fr) (H : Heap) (K : Fr → Heap → Prop) : Prop :=
  match pcallee o.op (slot F) with
  | some (g, args) => ∃ R, CallEx P g args H R ∧ ∀ v H', R v H' → K (put F o.dst v) H'
  | none => False
def VCy (P : Program) (o : Oper) (F : Fr) (H : Heap) (K : Fr → Heap → Prop) : Prop :=
  match pcallee o.op (slot F) with
  | some (g, args) => ∃ v, (CallOk P g args H v H ∧ (pureCall o.op = true → ∀ K, CallOk P g args K v K)) ∧ K (put F o.dst v) H
  | none => False
theorem VC_eq (ds : List (Option Nat)) (o : Oper) (K : Fr → Heap → Prop) : VC P ds o F H K = match asked ds F o with
    | none => False
    | some b => (b = true → VCx P o F H K) ∧ (b = false → K (put F o.dst (.tup [])) H) := by
  unfold VC VCx
  cases asked ds F o with
  | none => rfl
  | some b => cases b <;> simp <;> exact Iff.rfl
theorem VCd_eq (ds : List (Option Nat)) (o : Oper) (K : Fr → Heap → Prop) : VCd P ds o F H K = match asked ds F o with
    | none => False
    | some b => (b = true → VCy P o F H K) ∧ (b = false → K (put F o.dst (.tup [])) H) := by
  unfold VCd VCy
  cases asked ds F o with
  | none => rfl
  | some b => cases b <;> simp <;> exact Iff.rfl
/-- A call in a drawn region with new blocks. -/
def VCz (P : Program) (o : Oper) (F : Fr) (H : Heap) (K : Fr → Heap → Prop) : Prop :=
  match pcallee o.op (slot F) with
  | some (g, args) => ∃ v, ((∀ L, CallOk P g args (H ++ L) v (H ++ L)) ∧ (pureCall o.op = true → ∀ K, CallOk P g args K v K)) ∧ K (put F o.dst v) H
  | none => False
theorem VCg_eq (ds : List (Option Nat)) (o : Oper) (K : Fr → Heap → Prop) : VCg P ds o F H K = match asked ds F o with
    | none => False
    | some b => (b = true → VCz P o F H K) ∧ (b = false → K (put F o.dst (.tup [])) H) := by
  unfold VCg VCz
  cases asked ds F o with
  | none => rfl
  | some b => cases b <;> simp <;> exact Iff.rfl
theorem VCz.call {o : Oper} {K : Fr → Heap → Prop} {g : FuncId} {args : List PV} {v : PV} (h : ∀ L, CallOk P g args (H ++ L) v (H ++ L)) (hc : pcallee o.op (slot F) = some (g, args)) (hk : K (put F o.dst v) H) (hp : pureCall o.op = false := by rfl) : VCz P o F H K := by
  unfold VCz
  simp only [hc]
  exact ⟨v, ⟨h, fun e => by rw [hp] at e; cases e⟩, hk⟩
theorem VCx.call {o : Oper} {K : Fr → Heap → Prop} {g : FuncId} {args : List PV} {v : PV} {H' : Heap} (h : CallOk P g args H v H') (hc : pcallee o.op (slot F) = some (g, args)) (hk : K (put F o.dst v) H') : VCx P o F H K := by
  unfold VCx
  simp only [hc]
  exact ⟨_, h.toEx, fun v' H'' e => by rw [e.1, e.2]; exact hk⟩
theorem VCy.call {o : Oper} {K : Fr → Heap → Prop} {g : FuncId} {args : List PV} {v : PV} (h : CallOk P g args H v H) (hc : pcallee o.op (slot F) = some (g, args)) (hk : K (put F o.dst v) H) (hp : pureCall o.op = false := by rfl) : VCy P o F H K := by
  unfold VCy
  simp only [hc]
  exact ⟨v, ⟨h, fun e => by rw [hp] at e; cases e⟩, hk⟩
/-- The same, of a call without arguments. -/
theorem VCy.callP {o : Oper} {K : Fr → Heap → Prop} {g : FuncId} {args : List PV} {v : PV} (h : ∀ K, CallOk P g args K v K) (hc : pcallee o.op (slot F) = some (g, args)) (hk : K (put F o.dst v) H) : VCy P o F H K := by
  unfold VCy
  simp only [hc]
  exact ⟨v, ⟨h H, fun _ => h⟩, hk⟩

/-! arithmetic; shifts and bits have laws of their own -/
theorem pint_add (k k' : IntKind) (a b : Int) : pint .add k a k' b = if k = k' then some (.int k (k.wrap (a + b))) else none := rfl
theorem pint_sub (k k' : IntKind) (a b : Int) : pint .sub k a k' b = if k = k' then some (.int k (k.wrap (a - b))) else none := rfl
theorem pint_mul (k k' : IntKind) (a b : Int) : pint .mul k a k' b = if k = k' then some (.int k (k.wrap (a * b))) else none := rfl
theorem pint_eql (k k' : IntKind) (a b : Int) : pint .eql k a k' b = if k = k' then some (.bool (a == b)) else none := rfl
theorem pint_neq (k k' : IntKind) (a b : Int) : pint .neq k a k' b = if k = k' then some (.bool (a != b)) else none := rfl
theorem pint_lss (k k' : IntKind) (a b : Int) : pint .lss k a k' b = if k = k' then some (.bool (decide (a < b))) else none := rfl
theorem pint_leq (k k' : IntKind) (a b : Int) : pint .leq k a k' b = if k = k' then some (.bool (decide (a ≤ b))) else none := rfl
theorem pint_gtr (k k' : IntKind) (a b : Int) : pint .gtr k a k' b = if k = k' then some (.bool (decide (b < a))) else none := rfl
theorem pint_geq (k k' : IntKind) (a b : Int) : pint .geq k a k' b = if k = k' then some (.bool (decide (b ≤ a))) else none := rfl
theorem pint_quo (k k' : IntKind) (a b : Int) : pint .quo k a k' b = if k = k' then (if b = 0 then none else some (.int k (k.wrap (a.tdiv b)))) else none := rfl
theorem pint_rem (k k' : IntKind) (a b : Int) : pint .rem k a k' b = if k = k' then (if b = 0 then none else some (.int k (a.tmod b))) else none := rfl
theorem hp4 (H K : Heap) (a b c d e : Blk) : (H ++ a :: b :: c :: d :: e :: K)[H.length + 4]? = some e := by rw [List.getElem?_append_right (by omega)]; simp
theorem hp5 (H K : Heap) (a b c d e f : Blk) : (H ++ a :: b :: c :: d :: e :: f :: K)[H.length + 5]? = some f := by rw [List.getElem?_append_right (by omega)]; simp
theorem hp6 (H K : Heap) (a b c d e f g : Blk) : (H ++ a :: b :: c :: d :: e :: f :: g :: K)[H.length + 6]? = some g := by rw [List.getElem?_append_right (by omega)]; simp
theorem hs3 (H K : Heap) (a b c d x : Blk) : (H ++ a :: b :: c :: d :: K).set (H.length + 3) x = H ++ a :: b :: c :: x :: K := by rw [List.set_append_right _ _ (by omega)]; simp
theorem hs4 (H K : Heap) (a b c d e x : Blk) : (H ++ a :: b :: c :: d :: e :: K).set (H.length + 4) x = H ++ a :: b :: c :: d :: x :: K := by rw [List.set_append_right _ _ (by omega)]; simp
theorem hs5 (H K : Heap) (a b c d e f x : Blk) : (H ++ a :: b :: c :: d :: e :: f :: K).set (H.length + 5) x = H ++ a :: b :: c :: d :: e :: x :: K := by rw [List.set_append_right _ _ (by omega)]; simp
theorem hs6 (H K : Heap) (a b c d e f g x : Blk) : (H ++ a :: b :: c :: d :: e :: f :: g :: K).set (H.length + 6) x = H ++ a :: b :: c :: d :: e :: f :: x :: K := by rw [List.set_append_right _ _ (by omega)]; simp
theorem hl4 (H : Heap) (a b c d : Blk) : (H ++ [a, b, c, d]).length = H.length + 4 := by simp
theorem hl5 (H : Heap) (a b c d e : Blk) : (H ++ [a, b, c, d, e]).length = H.length + 5 := by simp
theorem hl6 (H : Heap) (a b c d e f : Blk) : (H ++ [a, b, c, d, e, f]).length = H.length + 6 := by simp

attribute [go_sem] hp4 hp5 hp6 hs3 hs4 hs5 hs6 hl4 hl5 hl6 pint_add pint_sub pint_mul pint_eql pint_neq pint_lss pint_leq pint_gtr pint_geq pint_quo pint_rem VC_eq VCd_eq VCg_eq VRg VOg_nil VOg_step VOh_nil VOh_step VRh VCh stpH chkH popH palloc resv rsv isStore stId notIn opIds topId liveOnly eff effB pureOp elem_no elem_yes elem_nil' Op.operands true_implies Bool.true_eq_false Bool.false_eq_true VR VO_nil VO_step VRd VOd_nil VOd_step isCall stp_eq asked pcallee pop isNilSl isNilV pnilcmp plook pmset pmapOf ev pvc pv1 slot put Nat.beq pbin pstr peq scalT peqS peqI peqF peqA peqT peqG List.range List.range.loop pun Option.map Option.bind live scells pconv rd pload wr pstore pfieldAddr pfield pindexAddr pindex pbound pslice pfill reps pmake appSrc pcopy pmin pmax pfold pbuiltin pnil aggT isPtrT isBoolT PV.cells PV.cell pbuild pbuildSlice fieldPlaces Option.isSome_some Option.isSome_none kp hp0 hp1 hp2 hp3 hs0 hs1 hs2 hl1 hl2 hl3 List.append_assoc Nat.beq_refl List.length_cons List.length_nil List.all_cons List.all_nil splice reps List.replicate_succ List.replicate_zero List.flatten_cons List.flatten_nil List.take_succ_cons List.take_zero List.take_nil List.drop_succ_cons List.drop_zero List.drop_nil Nat.zero_mul Nat.sub_self true_implies false_implies and_true true_and false_and and_false and_self not_true_eq_false not_false_eq_true Bool.false_eq_true Bool.false_and Bool.and_false Bool.true_or Bool.or_true Bool.false_or Bool.or_false if_true if_false ite_true ite_false forall_const List.map_cons List.map_nil List.cons_append List.nil_append List.append_nil Array.toList Nat.zero_add Nat.add_zero Nat.mul_one Nat.one_mul beq_self_eq_true Bool.true_and Bool.and_true List.getElem?_cons_succ List.getElem?_cons_zero List.getElem?_toArray List.set_cons_zero List.set_cons_succ beq_true beq_false Bool.not_true Bool.not_false decide_true decide_false cond_true cond_false ite_ok ite_no w64 w8 w32 dec_t dec_f beq_t beq_f bne_t bne_f Int.toNat_natCast IntWalk.toNatUp

end Go.Proofs.YtahomnplappbpaaGreatDoor.Pm
