/-
  A small program logic over abstract values: an evaluator for a region whose operations run in any order, all orders tried. No condition. Program-independent.
-/
import Derived.Test.YtcabpncdgagihaaPmP
namespace Go.Proofs.Ytcabpncdgagihaa.Pm
set_option linter.all false
set_option linter.unusedVariables false
set_option linter.unusedSimpArgs false
open Go.RowKit

variable {P : Program} {C : Ctx} {H : Heap} {w : World} {F : Fr} {a : Act} {N : Nat}

noncomputable def opE (P : Program) (n : Nat) (ds : List (Option Nat)) (o : Oper) (F : Fr) (H : Heap) : Option (Fr × Heap) :=
  match isCall o.op with
  | false => stp P ds o F H
  | true => match asked ds F o with
    | some true => match pcallee o.op (slot F) with
      | some (g, args) => match evalN P n (.call g args H) with
        | some (.val v H1) => some (put F o.dst v, H1)
        | _ => none
      | none => none
    | some false => some (put F o.dst (.tup []), H)
    | none => none
theorem opE_sound {n : Nat} {all : List Oper} {o : Oper} {F1 : Fr} {H1 : Heap} (h : opE P n (all.map (·.dst)) o F H = some (F1, H1)) :
    (want all (slot F) o = some false ∧ F1 = put F o.dst (.tup []) ∧ H1 = H) ∨ (want all (slot F) o = some true ∧ ∃ v, Exec P o (slot F) H v H1 ∧ F1 = put F o.dst v) := by
  have hcl : isCall o.op = false → pcallee o.op (slot F) = none := fun hc => by
    unfold pcallee
    split
    · rename_i f args ts ho; rw [ho] at hc; simp [isCall] at hc
    · rfl
  unfold opE at h
  split at h
  · rename_i hc
    unfold stp at h
    split at h
    · rename_i hb
      split at h
      · rename_i v H' hp
        simp only [Option.some.injEq, Prod.mk.injEq] at h
        obtain ⟨rfl, rfl⟩ := h
        exact .inr ⟨asked_want all F o hb, v, by unfold Exec; rw [hcl hc]; exact hp, rfl⟩
      · cases h
    · rename_i hb
      simp only [Option.some.injEq, Prod.mk.injEq] at h
      obtain ⟨rfl, rfl⟩ := h
      exact .inl ⟨asked_want all F o hb, rfl, rfl⟩
    · cases h
  · split at h
    · rename_i hb
      split at h
      · rename_i g args hp
        split at h
        · rename_i v H' he
          simp only [Option.some.injEq, Prod.mk.injEq] at h
          obtain ⟨rfl, rfl⟩ := h
          exact .inr ⟨asked_want all F o hb, v, by unfold Exec; rw [hp]; exact evalN_good n _ _ he, rfl⟩
        · cases h
      · cases h
    · rename_i hb
      simp only [Option.some.injEq, Prod.mk.injEq] at h
      obtain ⟨rfl, rfl⟩ := h
      exact .inl ⟨asked_want all F o hb, rfl, rfl⟩
    · cases h

def collect {α : Type} (g : Nat → Option (List α)) : List Nat → Option (List α)
  | [] => some []
  | i :: r => match g i with
    | some x => match collect g r with
      | some y => some (x ++ y)
      | none => none
    | none => none
theorem collect_mem {α : Type} {g : Nat → Option (List α)} : ∀ {l : List Nat} {L : List α}, collect g l = some L → ∀ i ∈ l, ∃ x, g i = some x ∧ ∀ y ∈ x, y ∈ L
  | [], L, _, i, hi => by cases hi
  | j :: r, L, h, i, hi => by
    simp only [collect] at h
    split at h
    · rename_i x hx
      split at h
      · rename_i y hy
        injection h with h
        subst h
        rcases List.mem_cons.1 hi with rfl | hi
        · exact ⟨x, hx, fun z hz => List.mem_append.2 (.inl hz)⟩
        · obtain ⟨x', h1, h2⟩ := collect_mem hy i hi
          exact ⟨x', h1, fun z hz => List.mem_append.2 (.inr (h2 z hz))⟩
      · cases h
    · cases h

noncomputable def anyE (P : Program) (n N : Nat) (ops : Array Oper) : Nat → Array Bool → Fr → Heap → Option (List (Fr × Heap))
  | 0, listed, F, H => match Region.ready .any ops listed with | [] => some [(F, H)] | _ => none
  | k + 1, listed, F, H => match Region.ready .any ops listed with
    | [] => some [(F, H)]
    | r => collect (fun i => match ops[i]? with
      | some o => match dstOk N o with
        | true => match opE P n (ops.toList.map (·.dst)) o F H with
          | some (F1, H1) => anyE P n N ops k (listed.setIfInBounds i true) F1 H1
          | none => none
        | false => none
      | none => none) r

theorem anyE_sound {n : Nat} {ops : Array Oper} {Q : Exit → Act → World → Prop} : ∀ (k : Nat) (listed : Array Bool) (F : Fr) (H : Heap) (L : List (Fr × Heap)), anyE P n N ops k listed F H = some L → ∀ (C : Ctx) (a : Act) (w : World), a.defers = [] → WRel C H w → FRel C N (slot F) a →
    (∀ C' F' H' a' w', CLe C C' → a'.defers = [] → WRel C' H' w' → Below C.B w w' → FRel C' N (slot F') a' → (F', H') ∈ L → Q .normal a' w') → wpAny P .any ops Q k listed a w
  | 0, listed, F, H, L, h, C, a, w, hd, hw, hf, hQ => by
    simp only [anyE] at h
    split at h
    · rename_i hr
      injection h with h
      subst h
      exact ⟨hr, hQ C F H a w (.refl _) hd hw (.refl _ _) hf (by simp)⟩
    · cases h
  | k + 1, listed, F, H, L, h, C, a, w, hd, hw, hf, hQ => by
    simp only [anyE] at h
    split at h
    · rename_i hr
      injection h with h
      subst h
      exact ⟨fun _ => hQ C F H a w (.refl _) hd hw (.refl _ _) hf (by simp), fun i hi => by rw [hr] at hi; cases hi⟩
    · rename_i hne
      refine ⟨fun e => absurd e hne, fun i hi => ?_⟩
      obtain ⟨x, hx, hsub⟩ := collect_mem h i hi
      split at hx
      · rename_i o ho
        split at hx
        · rename_i hdst
          split at hx
          · rename_i F1 H1 hop
            unfold wpOp
            rw [ho]
            simp only
            have next : ∀ C' u w' v, F1 = put F o.dst v → CLe C C' → WRel C' H1 w' → Below C.B w w' → FRel C' N (upd (slot F) o.dst v) (a.put o.dst u) → wpAny P .any ops Q k (listed.setIfInBounds i true) (a.put o.dst u) w' := by
              intro C' u w' v hF1 q1 q2 q3 q4
              refine anyE_sound k _ F1 H1 x hx C' _ w' (by cases hod : o.dst <;> simp [Act.put, hd]) q2 (by rw [hF1, get_put]; exact q4) ?_
              intro C'' F'' H'' a'' w'' p1 p2 p3 p4 p5 p6
              exact hQ C'' F'' H'' a'' w'' (q1.trans p1) p2 p3 (q3.trans (by rw [← q1.B]; exact p4)) p5 (hsub _ p6)
            rcases opE_sound hop with ⟨h1, h2, h3⟩ | ⟨h1, v, h2, h3⟩
            · have hwant := want_sound hf h1
              rw [Array.toArray_toList] at hwant
              rw [if_neg (by rw [hwant]; simp)]
              exact next C _ w (.tup []) h2 (.refl _) (h3 ▸ hw) (.refl _ _) (hf.put o.dst (dstOk_of hdst) VRel.undefV)
            · have hwant := want_sound hf h1
              rw [Array.toArray_toList] at hwant
              rw [if_pos hwant]
              left
              exact exec_sound hdst hw hf h2 _ _ (fun C' u w' q1 q2 q3 q4 => next C' u w' v h3 q1 q2 q3 q4)
          · cases hx
        · cases hx
      · cases hx

theorem PW.any {E : Env} {Q : Exit → Fr → Heap → Prop} {id n : Nat} {ops : Array Oper} {L : List (Fr × Heap)} (hm : P.follows .mixedOrders = true) (h : anyE P n E.N ops ops.size (Array.replicate ops.size false) F H = some L) (hQ : ∀ F' H', (F', H') ∈ L → Q .normal F' H') :
    PW P E (.region id ops true) F H Q := fun hs C a w hdf hw hf => by
  refine wp_region_any hm ?_
  refine anyE_sound ops.size _ F H L h C a w.drew hdf hw.drew hf ?_
  rintro C' F' H' a' w' p1 p2 p3 p4 p5 p6
  exact ⟨C', F', H', p1.toN _, p2, p3, ((Below.refl C.B w).drew).trans p4, p5, hQ F' H' p6⟩

/-! ### a function with such regions -/
def eqFr : Fr → Fr → Bool := eqL fun x y => Nat.beq x.1 y.1 && eqb 20 x.2 y.2
def hasSt (s : Fr × Heap) : List (Fr × Heap) → Bool
  | [] => false
  | t :: r => match eqFr s.1 t.1 && eqH s.2 t.2 with | true => true | false => hasSt s r
def dedup (N : Nat) : List (Fr × Heap) → List (Fr × Heap)
  | [] => []
  | (F, H) :: r => match hasSt (kp (List.range N) F, H) (dedup N r) with
    | true => dedup N r
    | false => (kp (List.range N) F, H) :: dedup N r
theorem hasSt_mem {s : Fr × Heap} : ∀ {L : List (Fr × Heap)}, hasSt s L = true → s ∈ L
  | t :: r, h => by
    simp only [hasSt] at h
    split at h
    · rename_i he
      simp only [Bool.and_eq_true] at he
      have e1 : s.1 = t.1 := eqL_sound (fun x y hxy => by
        simp only [Bool.and_eq_true] at hxy
        exact Prod.ext (Nat.eq_of_beq_eq_true hxy.1) (eqb_sound 20 _ _ hxy.2)) he.1
      have e2 : s.2 = t.2 := eqH_sound he.2
      rw [show s = t from Prod.ext e1 e2]
      exact List.mem_cons_self ..
    · exact List.mem_cons_of_mem _ (hasSt_mem h)
theorem dedup_mem {N : Nat} : ∀ {L : List (Fr × Heap)} {F : Fr} {H : Heap}, (F, H) ∈ L → (kp (List.range N) F, H) ∈ dedup N L
  | (F', H') :: r, F, H, h => by
    simp only [dedup]
    split
    · rename_i hs
      rcases List.mem_cons.1 h with h | h
      · injection h with h1 h2; subst h1 h2; exact hasSt_mem hs
      · exact dedup_mem h
    · rcases List.mem_cons.1 h with h | h
      · injection h with h1 h2; subst h1 h2; exact List.mem_cons_self ..
      · exact List.mem_cons_of_mem _ (dedup_mem h)

/-- Do all the ends of the code give true? -/
noncomputable def endsT (P : Program) (n N : Nat) (rs : List ResultVar) : Code → Fr → Heap → Bool
  | .seq x y, F, H => match x with
    | .region _ ops true => match drawOk N ops.toList with
      | true => (match evalN P n (.code N x F H) with
        | some (.code .normal F1 H1) => endsT P n N rs y F1 H1
        | _ => false)
      | false => match P.follows .mixedOrders, anyE P n N ops ops.size (Array.replicate ops.size false) F H with
        | true, some L => (dedup N L).all fun s => endsT P n N rs y s.1 s.2
        | _, _ => false
    | x => match evalN P n (.code N x F H) with
      | some (.code .normal F1 H1) => endsT P n N rs y F1 H1
      | _ => false
  | c, F, H => match evalN P n (.code N c F H) with
    | some (.code e F1 H1) => (match e with | .ret => true | .normal => true | _ => false) && (match presults P rs (slot F1) H1 with | some (.bool true) => true | _ => false)
    | _ => false

theorem endsT_sound {n : Nat} {rs : List ResultVar} (H0 : Heap) : ∀ (c : Code) (F : Fr) (H : Heap), endsT P n N rs c F H = true → PW P ⟨N, H0⟩ c F H (retQ P rs (fun v _ => v = .bool true)) := by
  have last : ∀ (c : Code) (F : Fr) (H : Heap), (match evalN P n (.code N c F H) with
    | some (.code e F1 H1) => (match e with | .ret => true | .normal => true | _ => false) && (match presults P rs (slot F1) H1 with | some (.bool true) => true | _ => false)
    | _ => false) = true → PW P ⟨N, H0⟩ c F H (retQ P rs (fun v _ => v = .bool true)) := fun c F H h => by
    split at h
    · rename_i e F1 H1 he
      simp only [Bool.and_eq_true] at h
      have hg := evalN_good n _ _ he H0
      refine hg.mono fun e' F' H' hq => ?_
      obtain ⟨rfl, rfl, rfl⟩ := hq
      have hp : presults P rs (slot F') H' = some (.bool true) := by
        have := h.2
        split at this
        · assumption
        · cases this
      cases e' with
      | ret => exact ⟨_, hp, rfl⟩
      | normal => exact ⟨_, hp, rfl⟩
      | _ => exact absurd h.1 (by simp)
    · cases h
  have one : ∀ (x y : Code) (F : Fr) (H : Heap), (∀ F H, endsT P n N rs y F H = true → PW P ⟨N, H0⟩ y F H (retQ P rs (fun v _ => v = .bool true))) → (match evalN P n (.code N x F H) with
      | some (.code .normal F1 H1) => endsT P n N rs y F1 H1
      | _ => false) = true → PW P ⟨N, H0⟩ (.seq x y) F H (retQ P rs (fun v _ => v = .bool true)) := fun x y F H ih h => by
    split at h
    · rename_i F1 H1 he
      have hg := evalN_good n _ _ he H0
      exact PW.seq (hg.mono fun e' F' H' hq => by obtain ⟨rfl, rfl, rfl⟩ := hq; exact ih _ _ h)
    · cases h
  intro c
  induction c with
  | seq x y _ ihy =>
    intro F H h
    unfold endsT at h
    split at h
    · rename_i id ops
      split at h
      · exact one _ y F H ihy h
      · split at h
        · rename_i L hm hL
          refine PW.seq (PW.any hm hL fun F' H' hmem => ?_)
          have := List.all_eq_true.1 h _ (dedup_mem (N := N) hmem)
          exact PW.keep (List.range N) (ihy _ _ this)
        · cases h
    · exact one _ y F H ihy h
  | _ =>
    intro F H h
    unfold endsT at h
    exact last _ _ _ h

noncomputable def callT (P : Program) (n : Nat) (f : FuncId) : Bool := match P.funcs[f]? with
  | some fn => match fn.body with
    | some c => callable P f && endsT P n fn.ntmps fn.results.toList c [] []
    | none => false
  | none => false
/-- ████ A function without arguments gives true, whatever the orders. ████ -/
theorem CallOk.anyT (n : Nat) {f : FuncId} (h : callT P n f = true) : CallOk P f [] H (.bool true) H := by
  unfold callT at h
  split at h
  · rename_i fn hf
    split at h
    · rename_i c hb
      simp only [Bool.and_eq_true] at h
      have : CallOk P f [] [] (.bool true) [] := by
        refine CallOk.body hf hb rfl rfl rfl h.1 (by rfl) ((endsT_sound [] c [] [] h.2).mono fun e F' H' hq => ?_)
        cases e with
        | ret => obtain ⟨v, h1, rfl⟩ := hq; exact ⟨_, h1, by have := Fin.base (H := []) (K := H') (v := .bool true) (v' := .bool true) (.id (.bool true)); simpa using this⟩
        | normal => obtain ⟨v, h1, rfl⟩ := hq; exact ⟨_, h1, by have := Fin.base (H := []) (K := H') (v := .bool true) (v' := .bool true) (.id (.bool true)); simpa using this⟩
        | _ => exact hq
      exact this.frame (fun x hx => by cases hx)
    · cases h
  · cases h

end Go.Proofs.Ytcabpncdgagihaa.Pm
