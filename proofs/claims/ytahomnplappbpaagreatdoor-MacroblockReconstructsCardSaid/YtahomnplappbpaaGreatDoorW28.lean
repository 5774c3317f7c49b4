/-
  Parts of the proof, put together in one text. No condition.
-/
import Derived.Test.YtahomnplappbpaaGreatDoorW12
import Derived.Test.YtahomnplappbpaaGreatDoorW15
import Derived.Test.YtahomnplappbpaaGreatDoorW27
namespace Go.Proofs.YtahomnplappbpaaGreatDoor.Pm
set_option linter.all false
set_option linter.unusedVariables false
set_option linter.unusedSimpArgs false
open Go.RowKit

variable {P : Program} {C : Ctx} {H : Heap} {w : World} {F : Fr} {a : Act} {N : Nat}

noncomputable def opE (P : Program) (n : Nat) (ds : List (Option Nat)) (o : Oper) (F : Fr) (H : Heap) : Option (Fr × Heap) :=
  match isCall o.op with
  | false => stp P ds o F H
  | true => match asked ds F o with
    | some true => match pcallee o.op (slot F) with
      | some (g, args) => match evalN P n (.call g args H) with
        | some (.val v H1) => some (put F o.dst v, H1)
        | _ => none
      | none => none
    | some false => some (put F o.dst (.tup []), H)
    | none => none
theorem opE_sound {n : Nat} {all : List Oper} {o : Oper} {F1 : Fr} {H1 : Heap} (h : opE P n (all.map (·.dst)) o F H = some (F1, H1)) :
    (want all (slot F) o = some false ∧ F1 = put F o.dst (.tup []) ∧ H1 = H) ∨ (want all (slot F) o = some true ∧ ∃ v, Exec P o (slot F) H v H1 ∧ F1 = put F o.dst v) := by
  have hcl : isCall o.op = false → pcallee o.op (slot F) = none := fun hc => by
    unfold pcallee
    split
    · rename_i f args ts ho; rw [ho] at hc; simp [isCall] at hc
    · rfl
  unfold opE at h
  split at h
  · rename_i hc
    unfold stp at h
    split at h
    · rename_i hb
      split at h
      · rename_i v H' hp
        simp only [Option.some.injEq, Prod.mk.injEq] at h
        obtain ⟨rfl, rfl⟩ := h
        exact .inr ⟨asked_want all F o hb, v, by unfold Exec; rw [hcl hc]; exact hp, rfl⟩
      · cases h
    · rename_i hb
      simp only [Option.some.injEq, Prod.mk.injEq] at h
      obtain ⟨rfl, rfl⟩ := h
      exact .inl ⟨asked_want all F o hb, rfl, rfl⟩
    · cases h
  · split at h
    · rename_i hb
      split at h
      · rename_i g args hp
        split at h
        · rename_i v H' he
          simp only [Option.some.injEq, Prod.mk.injEq] at h
          obtain ⟨rfl, rfl⟩ := h
          exact .inr ⟨asked_want all F o hb, v, by unfold Exec; rw [hp]; exact evalN_good n _ _ he, rfl⟩
        · cases h
      · cases h
    · rename_i hb
      simp only [Option.some.injEq, Prod.mk.injEq] at h
      obtain ⟨rfl, rfl⟩ := h
      exact .inl ⟨asked_want all F o hb, rfl, rfl⟩
    · cases h

def collect {α : Type} (g : Nat → Option (List α)) : List Nat → Option (List α)
  | [] => some []
  | i :: r => match g i with
    | some x => match collect g r with
      | some y => some (x ++ y)
      | none => none
    | none => none
theorem collect_mem {α : Type} {g : Nat → Option (List α)} : ∀ {l : List Nat} {L : List α}, collect g l = some L → ∀ i ∈ l, ∃ x, g i = some x ∧ ∀ y ∈ x, y ∈ L
  | [], L, _, i, hi => by cases hi
  | j :: r, L, h, i, hi => by
    simp only [collect] at h
    split at h
    · rename_i x hx
      split at h
      · rename_i y hy
        injection h with h
        subst h
        rcases List.mem_cons.1 hi with rfl | hi
        · exact ⟨x, hx, fun z hz => List.mem_append.2 (.inl hz)⟩
        · obtain ⟨x', h1, h2⟩ := collect_mem hy i hi
          exact ⟨x', h1, fun z hz => List.mem_append.2 (.inr (h2 z hz))⟩
      · cases h
    · cases h

noncomputable def anyE (P : Program) (n N : Nat) (ops : Array Oper) : Nat → Array Bool → Fr → Heap → Option (List (Fr × Heap))
  | 0, listed, F, H => match Region.ready .any ops listed with | [] => some [(F, H)] | _ => none
  | k + 1, listed, F, H => match Region.ready .any ops listed with
    | [] => some [(F, H)]
    | r => collect (fun i => match ops[i]? with
      | some o => match dstOk N o with
        | true => match opE P n (ops.toList.map (·.dst)) o F H with
          | some (F1, H1) => anyE P n N ops k (listed.setIfInBounds i true) F1 H1
          | none => none
        | false => none
      | none => none) r

theorem anyE_sound {n : Nat} {ops : Array Oper} {Q : Exit → Act → World → Prop} : ∀ (k : Nat) (listed : Array Bool) (F : Fr) (H : Heap) (L : List (Fr × Heap)), anyE P n N ops k listed F H = some L → ∀ (C : Ctx) (a : Act) (w : World), a.defers = [] → WRel C H w → FRel C N (slot F) a →
    (∀ C' F' H' a' w', CLe C C' → a'.defers = [] → WRel C' H' w' → Below C.B w w' → FRel C' N (slot F') a' → (F', H') ∈ L → Q .normal a' w') → wpAny P .any ops Q k listed a w
  | 0, listed, F, H, L, h, C, a, w, hd, hw, hf, hQ => by
    simp only [anyE] at h
    split at h
    · rename_i hr
      injection h with h
      subst h
      exact ⟨hr, hQ C F H a w (.refl _) hd hw (.refl _ _) hf (by simp)⟩
    · cases h
  | k + 1, listed, F, H, L, h, C, a, w, hd, hw, hf, hQ => by
    simp only [anyE] at h
    split at h
    · rename_i hr
      injection h with h
      subst h
      exact ⟨fun _ => hQ C F H a w (.refl _) hd hw (.refl _ _) hf (by simp), fun i hi => by rw [hr] at hi; cases hi⟩
    · rename_i hne
      refine ⟨fun e => absurd e hne, fun i hi => ?_⟩
      obtain ⟨x, hx, hsub⟩ := collect_mem h i hi
      split at hx
      · rename_i o ho
        split at hx
        · rename_i hdst
          split at hx
          · rename_i F1 H1 hop
            unfold wpOp
            rw [ho]
            simp only
            have next : ∀ C' u w' v, F1 = put F o.dst v → CLe C C' → WRel C' H1 w' → Below C.B w w' → FRel C' N (upd (slot F) o.dst v) (a.put o.dst u) → wpAny P .any ops Q k (listed.setIfInBounds i true) (a.put o.dst u) w' := by
              intro C' u w' v hF1 q1 q2 q3 q4
              refine anyE_sound k _ F1 H1 x hx C' _ w' (by cases hod : o.dst <;> simp [Act.put, hd]) q2 (by rw [hF1, get_put]; exact q4) ?_
              intro C'' F'' H'' a'' w'' p1 p2 p3 p4 p5 p6
              exact hQ C'' F'' H'' a'' w'' (q1.trans p1) p2 p3 (q3.trans (by rw [← q1.B]; exact p4)) p5 (hsub _ p6)
            rcases opE_sound hop with ⟨h1, h2, h3⟩ | ⟨h1, v, h2, h3⟩
            · have hwant := want_sound hf h1
              rw [Array.toArray_toList] at hwant
              rw [if_neg (by rw [hwant]; simp)]
              exact next C _ w (.tup []) h2 (.refl _) (h3 ▸ hw) (.refl _ _) (hf.put o.dst (dstOk_of hdst) VRel.undefV)
            · have hwant := want_sound hf h1
              rw [Array.toArray_toList] at hwant
              rw [if_pos hwant]
              left
              exact exec_sound hdst hw hf h2 _ _ (fun C' u w' q1 q2 q3 q4 => next C' u w' v h3 q1 q2 q3 q4)
          · cases hx
        · cases hx
      · cases hx

theorem PW.any {E : Env} {Q : Exit → Fr → Heap → Prop} {id n : Nat} {ops : Array Oper} {L : List (Fr × Heap)} (hm : P.follows .mixedOrders = true) (h : anyE P n E.N ops ops.size (Array.replicate ops.size false) F H = some L) (hQ : ∀ F' H', (F', H') ∈ L → Q .normal F' H') :
    PW P E (.region id ops true) F H Q := fun hs C a w hdf hw hf => by
  refine wp_region_any hm ?_
  refine anyE_sound ops.size _ F H L h C a w.drew hdf hw.drew hf ?_
  rintro C' F' H' a' w' p1 p2 p3 p4 p5 p6
  exact ⟨C', F', H', p1.toN _, p2, p3, ((Below.refl C.B w).drew).trans p4, p5, hQ F' H' p6⟩

/-! ### a function with such regions -/
def eqFr : Fr → Fr → Bool := eqL fun x y => Nat.beq x.1 y.1 && eqb 20 x.2 y.2
def hasSt (s : Fr × Heap) : List (Fr × Heap) → Bool
  | [] => false
  | t :: r => match eqFr s.1 t.1 && eqH s.2 t.2 with | true => true | false => hasSt s r
def dedup (N : Nat) : List (Fr × Heap) → List (Fr × Heap)
  | [] => []
  | (F, H) :: r => match hasSt (kp (List.range N) F, H) (dedup N r) with
    | true => dedup N r
    | false => (kp (List.range N) F, H) :: dedup N r
theorem hasSt_mem {s : Fr × Heap} : ∀ {L : List (Fr × Heap)}, hasSt s L = true → s ∈ L
  | t :: r, h => by
    simp only [hasSt] at h
    split at h
    · rename_i he
      simp only [Bool.and_eq_true] at he
      have e1 : s.1 = t.1 := eqL_sound (fun x y hxy => by
        simp only [Bool.and_eq_true] at hxy
        exact Prod.ext (Nat.eq_of_beq_eq_true hxy.1) (eqb_sound 20 _ _ hxy.2)) he.1
      have e2 : s.2 = t.2 := eqH_sound he.2
      rw [show s = t from Prod.ext e1 e2]
      exact List.mem_cons_self ..
    · exact List.mem_cons_of_mem _ (hasSt_mem h)
theorem dedup_mem {N : Nat} : ∀ {L : List (Fr × Heap)} {F : Fr} {H : Heap}, (F, H) ∈ L → (kp (List.range N) F, H) ∈ dedup N L
  | (F', H') :: r, F, H, h => by
    simp only [dedup]
    split
    · rename_i hs
      rcases List.mem_cons.1 h with h | h
      · injection h with h1 h2; subst h1 h2; exact hasSt_mem hs
      · exact dedup_mem h
    · rcases List.mem_cons.1 h with h | h
      · injection h with h1 h2; subst h1 h2; exact List.mem_cons_self ..
      · exact List.mem_cons_of_mem _ (dedup_mem h)

/-- Do all the ends of the code give true? -/
noncomputable def endsT (P : Program) (n N : Nat) (rs : List ResultVar) : Code → Fr → Heap → Bool
  | .seq x y, F, H => match x with
    | .region _ ops true => match drawOk N ops.toList with
      | true => (match evalN P n (.code N x F H) with
        | some (.code .normal F1 H1) => endsT P n N rs y F1 H1
        | _ => false)
      | false => match P.follows .mixedOrders, anyE P n N ops ops.size (Array.replicate ops.size false) F H with
        | true, some L => (dedup N L).all fun s => endsT P n N rs y s.1 s.2
        | _, _ => false
    | x => match evalN P n (.code N x F H) with
      | some (.code .normal F1 H1) => endsT P n N rs y F1 H1
      | _ => false
  | c, F, H => match evalN P n (.code N c F H) with
    | some (.code e F1 H1) => (match e with | .ret => true | .normal => true | _ => false) && (match presults P rs (slot F1) H1 with | some (.bool true) => true | _ => false)
    | _ => false

theorem endsT_sound {n : Nat} {rs : List ResultVar} (H0 : Heap) : ∀ (c : Code) (F : Fr) (H : Heap), endsT P n N rs c F H = true → PW P ⟨N, H0⟩ c F H (retQ P rs (fun v _ => v = .bool true)) := by
  have last : ∀ (c : Code) (F : Fr) (H : Heap), (match evalN P n (.code N c F H) with
    | some (.code e F1 H1) => (match e with | .ret => true | .normal => true | _ => false) && (match presults P rs (slot F1) H1 with | some (.bool true) => true | _ => false)
    | _ => false) = true → PW P ⟨N, H0⟩ c F H (retQ P rs (fun v _ => v = .bool true)) := fun c F H h => by
    split at h
    · rename_i e F1 H1 he
      simp only [Bool.and_eq_true] at h
      have hg := evalN_good n _ _ he H0
      refine hg.mono fun e' F' H' hq => ?_
      obtain ⟨rfl, rfl, rfl⟩ := hq
      have hp : presults P rs (slot F') H' = some (.bool true) := by
        have := h.2
        split at this
        · assumption
        · cases this
      cases e' with
      | ret => exact ⟨_, hp, rfl⟩
      | normal => exact ⟨_, hp, rfl⟩
      | _ => exact absurd h.1 (by simp)
    · cases h
  have one : ∀ (x y : Code) (F : Fr) (H : Heap), (∀ F H, endsT P n N rs y F H = true → PW P ⟨N, H0⟩ y F H (retQ P rs (fun v _ => v = .bool true))) → (match evalN P n (.code N x F H) with
      | some (.code .normal F1 H1) => endsT P n N rs y F1 H1
      | _ => false) = true → PW P ⟨N, H0⟩ (.seq x y) F H (retQ P rs (fun v _ => v = .bool true)) := fun x y F H ih h => by
    split at h
    · rename_i F1 H1 he
      have hg := evalN_good n _ _ he H0
      exact PW.seq (hg.mono fun e' F' H' hq => by obtain ⟨rfl, rfl, rfl⟩ := hq; exact ih _ _ h)
    · cases h
  intro c
  induction c with
  | seq x y _ ihy =>
    intro F H h
    unfold endsT at h
    split at h
    · rename_i id ops
      split at h
      · exact one _ y F H ihy h
      · split at h
        · rename_i L hm hL
          refine PW.seq (PW.any hm hL fun F' H' hmem => ?_)
          have := List.all_eq_true.1 h _ (dedup_mem (N := N) hmem)
          exact PW.keep (List.range N) (ihy _ _ this)
        · cases h
    · exact one _ y F H ihy h
  | _ =>
    intro F H h
    unfold endsT at h
    exact last _ _ _ h

noncomputable def callT (P : Program) (n : Nat) (f : FuncId) : Bool := match P.funcs[f]? with
  | some fn => match fn.body with
    | some c => callable P f && endsT P n fn.ntmps fn.results.toList c [] []
    | none => false
  | none => false
/-- ████ A function without arguments gives true, whatever the orders. ████ -/
theorem CallOk.anyT (n : Nat) {f : FuncId} (h : callT P n f = true) : CallOk P f [] H (.bool true) H := by
  unfold callT at h
  split at h
  · rename_i fn hf
    split at h
    · rename_i c hb
      simp only [Bool.and_eq_true] at h
      have : CallOk P f [] [] (.bool true) [] := by
        refine CallOk.body hf hb rfl rfl rfl h.1 (by rfl) ((endsT_sound [] c [] [] h.2).mono fun e F' H' hq => ?_)
        cases e with
        | ret => obtain ⟨v, h1, rfl⟩ := hq; exact ⟨_, h1, by have := Fin.base (H := []) (K := H') (v := .bool true) (v' := .bool true) (.id (.bool true)); simpa using this⟩
        | normal => obtain ⟨v, h1, rfl⟩ := hq; exact ⟨_, h1, by have := Fin.base (H := []) (K := H') (v := .bool true) (v' := .bool true) (.id (.bool true)); simpa using this⟩
        | _ => exact hq
      exact this.frame (fun x hx => by cases hx)
    · cases h
  · cases h

end Go.Proofs.YtahomnplappbpaaGreatDoor.Pm

namespace Go.Proofs.YtahomnplappbpaaGreatDoor.Sc
set_option linter.all false
set_option linter.unusedVariables false
set_option linter.unusedSimpArgs false
open Pm Ty Go.RowKit

theorem awake10 (H : Heap) : CallOk Tryz.prog 16 [] H (.bool true) H := CallOk.anyT 100000 (by kernel_rfl)

end Go.Proofs.YtahomnplappbpaaGreatDoor.Sc

namespace Go.Proofs.YtahomnplappbpaaGreatDoor.Sc
set_option linter.all false
set_option linter.unusedVariables false
set_option linter.unusedSimpArgs false
open Pm Ty Go.RowKit

theorem pick_sel {c : Cx} {pa fu fi : Fm} {dir sel : Int} (hb : badA c dir sel = false) (hw : (pickF c pa fu fi dir sel).2 = false) : sel = 0 ∨ sel = 1 := by
  have hf : fcx c = true := by
    unfold pickF at hw
    split at hw
    · simpa using hw
    · split at hw
      · cases hw
      · simpa using hw
  rw [badA, hf] at hb
  simp at hb
  omega
end Go.Proofs.YtahomnplappbpaaGreatDoor.Sc

namespace Go.Proofs.YtahomnplappbpaaGreatDoor.Sc
set_option linter.all false
set_option linter.unusedVariables false
set_option linter.unusedSimpArgs false
open Pm Ty Go.RowKit

def fstF (c : Cx) (dir sel : Int) : Bool := fcx c && (c.n && (decide (c.t = 2) && (decide (dir = 0) && decide (sel ≠ pcx c))))
theorem vcx_n {c : Cx} (h : vcx c = true) (hn : c.n = true) : fcx c = true := by
  simp only [vcx, Bool.and_eq_true, decide_eq_true_eq] at h
  have h5 := h.2.2.2.2
  unfold fcx
  by_cases hs : c.s = 3
  · rw [if_pos hs, hn] at h5; cases h5
  · simpa using hs
theorem pick_fst {c : Cx} {pa fu fi : Fm} {dir sel : Int} (hb : badA c dir sel = false) :
    pickF c pa fu fi dir sel = (if dir = 1 then fu else if fstF c dir sel = true then fi else pa, !(fcx c) || fstF c dir sel) ∧ (dir = 1 → fstF c dir sel = false) := by
  have hv : vcx c = true := by
    cases h : vcx c with
    | true => rfl
    | false => rw [badA, h] at hb; simp at hb
  have hd : dir = 0 ∨ dir = 1 := by
    rw [badA, hv] at hb
    simp at hb
    omega
  rcases hd with rfl | rfl
  · refine ⟨?_, fun e => by omega⟩
    unfold pickF fstF
    cases hn : c.n
    · simp
    · have := vcx_n hv hn
      by_cases h2 : c.t = 2 <;> by_cases h3 : sel = pcx c <;> simp [this, h2, h3]
  · unfold pickF fstF
    simp

set_option maxHeartbeats 3200000 in
set_option maxRecDepth 10000 in
theorem Reference_ref (c : Cx) (pa fu fi : Fm) (dir sel : Int) (H : Heap) : CallOk Tryz.prog 88 [.agg (cxc c), .agg (fmc pa ++ (fmc fu ++ fmc fi)), .int .i64 dir, .int .i64 sel] H (.tup [.agg (fmc (refS c pa fu fi dir sel).1), .int .i64 (refS c pa fu fi dir sel).2]) H := by
  generalize hr : refS c pa fu fi dir sel = r
  have vc := fun H => vcx_ref c H
  have fc := fun H => fcx_ref c H
  have pc := fun H => pcx_ref c H
  have hps := @pick_sel c pa fu fi dir sel
  have hpf := @pick_fst c pa fu fi dir sel
  obtain ⟨t, s, i, n⟩ := c
  obtain ⟨w1, h1, y1, u1, v1⟩ := pa
  obtain ⟨w2, h2, y2, u2, v2⟩ := fu
  obtain ⟨w3, h3, y3, u3, v3⟩ := fi
  simp only [fmc, List.cons_append, List.nil_append]
  refine CallOk.body (F0 := [(0, .agg [.int .i64 t, .int .i64 s, .bool i, .bool n]), (1, .agg [.int .i64 w1, .int .i64 h1, .slice (bs y1) y1.length false, .slice (bs u1) u1.length false, .slice (bs v1) v1.length false, .int .i64 w2, .int .i64 h2, .slice (bs y2) y2.length false, .slice (bs u2) u2.length false, .slice (bs v2) v2.length false, .int .i64 w3, .int .i64 h3, .slice (bs y3) y3.length false, .slice (bs u3) u3.length false, .slice (bs v3) v3.length false]), (2, .int .i64 dir), (3, .int .i64 sel)]) Tryz.func88 rfl Tryz.ntmps88 Tryz.results88 rfl (by kernel_rfl) rfl ?_
  (repeat refine PW.seq ?_); refine PW.rg rfl fun K hK => ?_; simp (disch := omega) only [go_sem, ↓reduceIte, reduceCtorEq, pappend, plen]; refine hK _ _ ?_; clear hK K
  (repeat refine PW.seq ?_)
  refine PW.rgv (P := Tryz.prog) [2, 3, 4, 5, 8] 34 (.bool (badA ⟨t, s, i, n⟩ dir sel)) ?_ ?_ ?_
  · rfl
  · cases hv : vcx ⟨t, s, i, n⟩ <;> cases hf : fcx ⟨t, s, i, n⟩
    all_goals (rw [hv] at vc; rw [hf] at fc; simp (disch := omega) only [go_sem, ↓reduceIte, reduceCtorEq, pappend, plen]; (repeat' (first | ((first | refine VO_cond ?_ ?_ | refine VOd_cond ?_ ?_ | refine VOg_cond ?_ ?_ | refine VOh_cond ?_ ?_ | refine VOi_cond ?_ ?_ | refine And.intro ?_ ?_) <;> intro h <;> (try simp only [Bool.not_eq_true', Bool.not_eq_false', decide_eq_true_eq, decide_eq_false_iff_not] at h) <;> simp (disch := omega) only [go_sem, ↓reduceIte, reduceCtorEq, pappend, plen, h]) | ((first | refine VCx.call (vc _) rfl ?_ | refine VCx.call (fc _) rfl ?_ | refine VCy.call (vc _) rfl ?_ | refine VCy.call (fc _) rfl ?_ | refine VCz.call (fun _ => vc _) rfl ?_ | refine VCz.call (fun _ => fc _) rfl ?_ | refine VCk.call (fun _ _ => vc _) rfl ?_ | refine VCk.call (fun _ _ => fc _) rfl ?_ | refine VCj.now (vc _) rfl ?_ | refine VCj.now (fc _) rfl ?_); simp (disch := omega) only [go_sem, ↓reduceIte, reduceCtorEq, pappend, plen]))))
    all_goals (clear vc fc pc hr hps hpf; (simp_all [badA, slot, Nat.beq] <;> first | rfl | omega | (rw [Bool.eq_iff_iff]; simp; done) | (rw [Bool.eq_iff_iff]; simp; omega)))
  (repeat refine PW.seq ?_); refine PW.cond (t := _) rfl (fun h => ?_) (fun h => ?_)
  · have hb : badA ⟨t, s, i, n⟩ dir sel = true := h
    (repeat refine PW.seq ?_); refine PW.rg rfl fun K hK => ?_; simp (disch := omega) only [go_sem, ↓reduceIte, reduceCtorEq, pappend, plen]; refine hK _ _ ?_; clear hK K
    refine PW.ret ⟨.tup [.agg [.int .i64 0, .int .i64 0, .slice [] 0 true, .slice [] 0 true, .slice [] 0 true], .int .i64 1], by simp (disch := omega) only [go_sem, ↓reduceIte, reduceCtorEq, pappend, plen, presults, presult, List.mapM_cons, List.mapM_nil, Option.pure_def, Option.bind_eq_bind, Option.bind_some, Array.toList], ?_⟩
    rw [← hr, refS, if_pos hb]
    exact Fin.base (fz0 _ _ _)
  have hb : badA ⟨t, s, i, n⟩ dir sel = false := h
  have hsl := hps hb
  obtain ⟨hp1', hp2'⟩ := hpf hb
  rw [refS, if_neg (by rw [hb]; simp), hp1'] at hr
  rw [hp1'] at hsl
  clear hps hpf hp1'
  refine PW.skip ?_
  (repeat refine PW.seq ?_); refine PW.rg rfl fun K hK => ?_; simp (disch := omega) only [go_sem, ↓reduceIte, reduceCtorEq, pappend, plen]; refine hK _ _ ?_; clear hK K
  generalize hfs : fstF ⟨t, s, i, n⟩ dir sel = fst at *
  generalize hff : fcx ⟨t, s, i, n⟩ = ff at *
  suffices hrest : ∀ (w ht : Int) (y u v : List UInt8), (if dir = 1 then (⟨w2, h2, y2, u2, v2⟩ : Fm) else if fst = true then ⟨w3, h3, y3, u3, v3⟩ else ⟨w1, h1, y1, u1, v1⟩) = ⟨w, ht, y, u, v⟩ → PW Tryz.prog _ _ [(3, .int .i64 sel), (4, .ptr H.length 0 0), (8, .ptr (H.length + 2) 0 0), (10, .ptr (H.length + 3) 0 0), (11, .bool fst)] (H ++ [⟨33, 0, [.int .i64 t, .int .i64 s, .bool i, .bool n]⟩, ⟨55, 0, [.int .i64 w1, .int .i64 h1, .slice (bs y1) y1.length false, .slice (bs u1) u1.length false, .slice (bs v1) v1.length false, .int .i64 w2, .int .i64 h2, .slice (bs y2) y2.length false, .slice (bs u2) u2.length false, .slice (bs v2) v2.length false, .int .i64 w3, .int .i64 h3, .slice (bs y3) y3.length false, .slice (bs u3) u3.length false, .slice (bs v3) v3.length false]⟩, ⟨53, 0, [.int .i64 0, .int .i64 0, .slice [] 0 true, .slice [] 0 true, .slice [] 0 true]⟩, ⟨53, 0, [.int .i64 w, .int .i64 ht, .slice (bs y) y.length false, .slice (bs u) u.length false, .slice (bs v) v.length false]⟩]) _ by
    (repeat refine PW.seq ?_); refine PW.rg rfl fun K hK => ?_; simp (disch := omega) only [go_sem, ↓reduceIte, reduceCtorEq, pappend, plen]; refine hK _ _ ?_; clear hK K
    (repeat refine PW.seq ?_); refine PW.cond (t := _) rfl (fun h => ?_) (fun h => ?_)
    · have hd : dir = 1 := by simpa using h
      have hfst := hp2' hd
      subst hfst
      (repeat refine PW.seq ?_); refine PW.rg rfl fun K hK => ?_; simp (disch := omega) only [go_sem, ↓reduceIte, reduceCtorEq, pappend, plen]; refine hK _ _ ?_; clear hK K
      (repeat refine PW.seq ?_)
      refine PW.rgv (P := Tryz.prog) [3, 4, 5, 8, 10] 11 (.bool false) ?_ ?_ ?_
      · rfl
      rotate_left
      · (repeat refine PW.seq ?_); refine PW.rg rfl fun K hK => ?_; simp (disch := omega) only [go_sem, ↓reduceIte, reduceCtorEq, pappend, plen]; refine hK _ _ ?_; clear hK K
        (repeat refine PW.seq ?_); refine PW.cond (t := _) rfl (fun h => ?_) (fun h => ?_)
        · cases h
        refine PW.skip ?_
        exact PW.at [3, 4, 8, 10, 11] (hrest w2 h2 y2 u2 v2 (if_pos hd)) rfl rfl
      · clear hrest hr hsl
        subst hd
        cases ff <;> simp (disch := omega) only [go_sem, ↓reduceIte, reduceCtorEq, pappend, plen] <;> (repeat' (first | ((first | refine VO_cond ?_ ?_ | refine VOd_cond ?_ ?_ | refine VOg_cond ?_ ?_ | refine VOh_cond ?_ ?_ | refine VOi_cond ?_ ?_ | refine And.intro ?_ ?_) <;> intro h <;> (try simp only [Bool.not_eq_true', Bool.not_eq_false', decide_eq_true_eq, decide_eq_false_iff_not] at h) <;> simp (disch := omega) only [go_sem, ↓reduceIte, reduceCtorEq, pappend, plen, h]) | ((first | refine VCx.call (fc _) rfl ?_ | refine VCx.call (pcx_ref ⟨_, _, _, _⟩ _) rfl ?_ | refine VCy.call (fc _) rfl ?_ | refine VCy.call (pcx_ref ⟨_, _, _, _⟩ _) rfl ?_ | refine VCz.call (fun _ => fc _) rfl ?_ | refine VCz.call (fun _ => pcx_ref ⟨_, _, _, _⟩ _) rfl ?_ | refine VCk.call (fun _ _ => fc _) rfl ?_ | refine VCk.call (fun _ _ => pcx_ref ⟨_, _, _, _⟩ _) rfl ?_ | refine VCj.now (fc _) rfl ?_ | refine VCj.now (pcx_ref ⟨_, _, _, _⟩ _) rfl ?_); simp (disch := omega) only [go_sem, ↓reduceIte, reduceCtorEq, pappend, plen])))
        all_goals (clear vc fc pc; (simp_all [slot, Nat.beq] <;> first | rfl | omega | (rw [Bool.eq_iff_iff]; simp; done) | (rw [Bool.eq_iff_iff]; simp; omega)))
    · have hd : dir ≠ 1 := by simpa using h
      refine PW.skip ?_
      (repeat refine PW.seq ?_)
      refine PW.rgv (P := Tryz.prog) [3, 4, 5, 8, 10] 11 (.bool fst) ?_ ?_ ?_
      · rfl
      · clear hrest hr hsl
        rw [← hfs]
        cases ff <;> simp (disch := omega) only [go_sem, ↓reduceIte, reduceCtorEq, pappend, plen] <;> (repeat' (first | ((first | refine VO_cond ?_ ?_ | refine VOd_cond ?_ ?_ | refine VOg_cond ?_ ?_ | refine VOh_cond ?_ ?_ | refine VOi_cond ?_ ?_ | refine And.intro ?_ ?_) <;> intro h <;> (try simp only [Bool.not_eq_true', Bool.not_eq_false', decide_eq_true_eq, decide_eq_false_iff_not] at h) <;> simp (disch := omega) only [go_sem, ↓reduceIte, reduceCtorEq, pappend, plen, h]) | ((first | refine VCx.call (fc _) rfl ?_ | refine VCx.call (pcx_ref ⟨_, _, _, _⟩ _) rfl ?_ | refine VCy.call (fc _) rfl ?_ | refine VCy.call (pcx_ref ⟨_, _, _, _⟩ _) rfl ?_ | refine VCz.call (fun _ => fc _) rfl ?_ | refine VCz.call (fun _ => pcx_ref ⟨_, _, _, _⟩ _) rfl ?_ | refine VCk.call (fun _ _ => fc _) rfl ?_ | refine VCk.call (fun _ _ => pcx_ref ⟨_, _, _, _⟩ _) rfl ?_ | refine VCj.now (fc _) rfl ?_ | refine VCj.now (pcx_ref ⟨_, _, _, _⟩ _) rfl ?_); simp (disch := omega) only [go_sem, ↓reduceIte, reduceCtorEq, pappend, plen])))
        all_goals (clear vc fc pc hfs hp2' hb; first | (simp_all [fstF, fcx, slot, Nat.beq] <;> first | rfl | omega | (rw [Bool.eq_iff_iff]; simp; done) | (rw [Bool.eq_iff_iff]; simp; omega)) | (simp_all [fstF, fcx, pcx, slot, Nat.beq] <;> first | rfl | omega | (rw [Bool.eq_iff_iff]; simp; done) | (rw [Bool.eq_iff_iff]; simp; omega)))
      (repeat refine PW.seq ?_); refine PW.rg rfl fun K hK => ?_; simp (disch := omega) only [go_sem, ↓reduceIte, reduceCtorEq, pappend, plen]; refine hK _ _ ?_; clear hK K
      (repeat refine PW.seq ?_); refine PW.cond (t := _) rfl (fun h => ?_) (fun h => ?_)
      · subst h
        (repeat refine PW.seq ?_); refine PW.rg rfl fun K hK => ?_; simp (disch := omega) only [go_sem, ↓reduceIte, reduceCtorEq, pappend, plen]; refine hK _ _ ?_; clear hK K
        exact PW.at [3, 4, 8, 10, 11] (hrest w3 h3 y3 u3 v3 (by rw [if_neg hd, if_pos rfl])) rfl rfl
      · subst h
        refine PW.skip ?_
        exact PW.at [3, 4, 8, 10, 11] (hrest w1 h1 y1 u1 v1 (by rw [if_neg hd, if_neg (by simp)])) rfl rfl
  intro w ht y u v hpk
  rw [hpk] at hr
  simp only at hr hsl
  clear hpk hb vc pc hfs hp2'
  (repeat refine PW.seq ?_); refine PW.rg rfl fun K hK => ?_; simp (disch := omega) only [go_sem, ↓reduceIte, reduceCtorEq, pappend, plen]; refine hK _ _ ?_; clear hK K
  (repeat refine PW.seq ?_); refine PW.cond (t := _) rfl (fun h => ?_) (fun h => ?_)
  · have hw0 : w = 0 := by simpa using h
    (repeat refine PW.seq ?_); refine PW.rg rfl fun K hK => ?_; simp (disch := omega) only [go_sem, ↓reduceIte, reduceCtorEq, pappend, plen]; refine hK _ _ ?_; clear hK K
    refine PW.ret ⟨.tup [.agg [.int .i64 0, .int .i64 0, .slice [] 0 true, .slice [] 0 true, .slice [] 0 true], .int .i64 6], by simp (disch := omega) only [go_sem, ↓reduceIte, reduceCtorEq, pappend, plen, presults, presult, List.mapM_cons, List.mapM_nil, Option.pure_def, Option.bind_eq_bind, Option.bind_some, Array.toList], ?_⟩
    rw [← hr, lastF, if_pos hw0]
    exact Fin.base (fz0 _ _ _)
  have hw0 : w ≠ 0 := by simpa using h
  rw [lastF, if_neg (by exact hw0)] at hr
  refine PW.skip ?_
  have va := fun H => valid_ref ⟨w, ht, y, u, v⟩ H
  (repeat refine PW.seq ?_)
  refine PW.rgv (P := Tryz.prog) [3, 4, 8, 10, 11] 86 (.bool (!(fvd ⟨w, ht, y, u, v⟩) || (!(!ff || fst) && decide (ht % 32 ≠ 0)))) ?_ ?_ ?_
  · rfl
  · clear hr hsl
    cases hv : fvd ⟨w, ht, y, u, v⟩
    · rw [hv] at va
      simp (disch := omega) only [go_sem, ↓reduceIte, reduceCtorEq, pappend, plen]; (repeat' (first | ((first | refine VO_cond ?_ ?_ | refine VOd_cond ?_ ?_ | refine VOg_cond ?_ ?_ | refine VOh_cond ?_ ?_ | refine VOi_cond ?_ ?_ | refine And.intro ?_ ?_) <;> intro h <;> (try simp only [Bool.not_eq_true', Bool.not_eq_false', decide_eq_true_eq, decide_eq_false_iff_not] at h) <;> simp (disch := omega) only [go_sem, ↓reduceIte, reduceCtorEq, pappend, plen, h]) | ((first | refine VCx.call (va _) rfl ?_ | refine VCy.call (va _) rfl ?_ | refine VCz.call (fun _ => va _) rfl ?_ | refine VCk.call (fun _ _ => va _) rfl ?_ | refine VCj.now (va _) rfl ?_); simp (disch := omega) only [go_sem, ↓reduceIte, reduceCtorEq, pappend, plen])))
      all_goals (clear va fc; (simp_all [slot, Nat.beq] <;> first | rfl | omega | (rw [Bool.eq_iff_iff]; simp; done) | (rw [Bool.eq_iff_iff]; simp; omega)))
    · rw [hv] at va
      have hpos : 0 ≤ ht := by
        simp only [fvd, fmd, Bool.and_eq_true] at hv
        have := fsz_of hv.1.1
        omega
      cases ff <;> cases fst <;> simp (disch := omega) only [go_sem, ↓reduceIte, reduceCtorEq, pappend, plen] <;> (repeat' (first | ((first | refine VO_cond ?_ ?_ | refine VOd_cond ?_ ?_ | refine VOg_cond ?_ ?_ | refine VOh_cond ?_ ?_ | refine VOi_cond ?_ ?_ | refine And.intro ?_ ?_) <;> intro h <;> (try simp only [Bool.not_eq_true', Bool.not_eq_false', decide_eq_true_eq, decide_eq_false_iff_not] at h) <;> simp (disch := omega) only [go_sem, ↓reduceIte, reduceCtorEq, pappend, plen, tmod_pos, h]) | ((first | refine VCx.call (va _) rfl ?_ | refine VCx.call (fc _) rfl ?_ | refine VCy.call (va _) rfl ?_ | refine VCy.call (fc _) rfl ?_ | refine VCz.call (fun _ => va _) rfl ?_ | refine VCz.call (fun _ => fc _) rfl ?_ | refine VCk.call (fun _ _ => va _) rfl ?_ | refine VCk.call (fun _ _ => fc _) rfl ?_ | refine VCj.now (va _) rfl ?_ | refine VCj.now (fc _) rfl ?_); simp (disch := omega) only [go_sem, ↓reduceIte, reduceCtorEq, pappend, plen, tmod_pos])))
      all_goals (clear va fc; (simp_all [slot, Nat.beq] <;> first | rfl | omega | (rw [Bool.eq_iff_iff]; simp; done) | (rw [Bool.eq_iff_iff]; simp; omega)))
  (repeat refine PW.seq ?_); refine PW.cond (t := _) rfl (fun h => ?_) (fun h => ?_)
  · have hq : (!(fvd ⟨w, ht, y, u, v⟩) || (!(!ff || fst) && decide (ht % 32 ≠ 0))) = true := h
    (repeat refine PW.seq ?_); refine PW.rg rfl fun K hK => ?_; simp (disch := omega) only [go_sem, ↓reduceIte, reduceCtorEq, pappend, plen]; refine hK _ _ ?_; clear hK K
    refine PW.ret ⟨.tup [.agg [.int .i64 0, .int .i64 0, .slice [] 0 true, .slice [] 0 true, .slice [] 0 true], .int .i64 1], by simp (disch := omega) only [go_sem, ↓reduceIte, reduceCtorEq, pappend, plen, presults, presult, List.mapM_cons, List.mapM_nil, Option.pure_def, Option.bind_eq_bind, Option.bind_some, Array.toList], ?_⟩
    rw [if_pos hq] at hr
    rw [← hr]
    exact Fin.base (fz0 _ _ _)
  have hq : (!(fvd ⟨w, ht, y, u, v⟩) || (!(!ff || fst) && decide (ht % 32 ≠ 0))) = false := h
  rw [if_neg (by rw [hq]; simp)] at hr
  refine PW.skip ?_
  (repeat refine PW.seq ?_)
  refine PW.rgv (P := Tryz.prog) [3, 8, 10] 93 (.bool (!ff || fst)) ?_ ?_ ?_
  · rfl
  · clear hr hsl hq
    cases ff <;> simp (disch := omega) only [go_sem, ↓reduceIte, reduceCtorEq, pappend, plen] <;> (repeat' (first | ((first | refine VO_cond ?_ ?_ | refine VOd_cond ?_ ?_ | refine VOg_cond ?_ ?_ | refine VOh_cond ?_ ?_ | refine VOi_cond ?_ ?_ | refine And.intro ?_ ?_) <;> intro h <;> (try simp only [Bool.not_eq_true', Bool.not_eq_false', decide_eq_true_eq, decide_eq_false_iff_not] at h) <;> simp (disch := omega) only [go_sem, ↓reduceIte, reduceCtorEq, pappend, plen, h]) | ((first | refine VCx.call (fc _) rfl ?_ | refine VCy.call (fc _) rfl ?_ | refine VCz.call (fun _ => fc _) rfl ?_ | refine VCk.call (fun _ _ => fc _) rfl ?_ | refine VCj.now (fc _) rfl ?_); simp (disch := omega) only [go_sem, ↓reduceIte, reduceCtorEq, pappend, plen])))
    all_goals (clear va fc; (simp_all [slot, Nat.beq] <;> first | rfl | omega | (rw [Bool.eq_iff_iff]; simp; done) | (rw [Bool.eq_iff_iff]; simp; omega)))
  generalize hwh : (!ff || fst) = wh at *
  (repeat refine PW.seq ?_); refine PW.cond (t := _) rfl (fun h => ?_) (fun h => ?_)
  · subst h
    (repeat refine PW.seq ?_); refine PW.rg rfl fun K hK => ?_; simp (disch := omega) only [go_sem, ↓reduceIte, reduceCtorEq, pappend, plen]; refine hK _ _ ?_; clear hK K
    refine PW.ret ⟨.tup [.agg [.int .i64 w, .int .i64 ht, .slice (bs y) y.length false, .slice (bs u) u.length false, .slice (bs v) v.length false], .int .i64 0], by simp (disch := omega) only [go_sem, ↓reduceIte, reduceCtorEq, pappend, plen, presults, presult, List.mapM_cons, List.mapM_nil, Option.pure_def, Option.bind_eq_bind, Option.bind_some, Array.toList], ?_⟩
    rw [if_pos rfl] at hr
    rw [← hr]
    exact Fin.base (.id (fe_scoped _ _ _ _ _ _ _ _ _ _))
  · subst h
    refine PW.skip ?_
    have hq1 : fvd ⟨w, ht, y, u, v⟩ = true := by
      cases hv : fvd ⟨w, ht, y, u, v⟩ with
      | true => rfl
      | false => rw [hv] at hq; cases hq
    have hq2 : ht % 32 = 0 := by rw [hq1] at hq; simp at hq; omega
    obtain ⟨V, K, rfl, rfl, hok⟩ := fvd_fr4 hq1 hq2
    obtain ⟨P, hP, rfl⟩ : ∃ P : Nat, P ≤ 1 ∧ sel = (P : Int) := by
      rcases hsl rfl with e | e
      · exact ⟨0, by omega, by omega⟩
      · exact ⟨1, by omega, by omega⟩
    have fo := fun H => field_ref V K P y u v H hok hP
    have e1 := fieldOf_fr4 V K P y u v
    rw [if_neg (by simp)] at hr
    have hr3 : r = (fld V K P y u v, 0) := by rw [← hr, ← e1]; rfl
    rw [hr3]
    obtain ⟨g, hg⟩ : ∃ g, fld V K P y u v = g := ⟨_, rfl⟩
    rw [hg] at fo ⊢
    obtain ⟨a1, a2, a3, a4, a5⟩ := g
    simp only [fmc, fr4] at fo ⊢
    (repeat refine PW.seq ?_); refine PW.rg rfl fun K hK => ?_; simp (disch := omega) only [go_sem, ↓reduceIte, reduceCtorEq, pappend, plen]; refine VCx.call (fo _) rfl ?_; simp (disch := omega) only [go_sem, ↓reduceIte, reduceCtorEq, pappend, plen]; refine hK _ _ ?_; clear hK K
    refine PW.ret ⟨.tup [.agg [.int .i64 a1, .int .i64 a2, .slice (bs a3) a3.length false, .slice (bs a4) a4.length false, .slice (bs a5) a5.length false], .int .i64 0], by simp (disch := omega) only [go_sem, ↓reduceIte, reduceCtorEq, pappend, plen, presults, presult, List.mapM_cons, List.mapM_nil, Option.pure_def, Option.bind_eq_bind, Option.bind_some, Array.toList], ?_⟩
    exact Fin.base (.id (fe_scoped _ _ _ _ _ _ _ _ _ _))

def mx3 (a b c : Int) : Int := if c > (if b > a then b else a) then c else (if b > a then b else a)
theorem pmax3 (k : IntKind) (a b c : Int) : pfold pmax (.int k a) [.int k b, .int k c] = some (.int k (mx3 a b c)) := rfl
def mx6 (a b c d e f : Int) : Int := (fun x => if f > x then f else x) ((fun x => if e > x then e else x) ((fun x => if d > x then d else x) (mx3 a b c)))
theorem pmax6 (k : IntKind) (a b c d e f : Int) : pfold pmax (.int k a) [.int k b, .int k c, .int k d, .int k e, .int k f] = some (.int k (mx6 a b c d e f)) := rfl
attribute [go_sem high] pmax3 pmax6
def lightB (pa fu fi : Fm) : Bool := decide (mx3 pa.y.length fu.y.length fi.y.length ≤ 5000) && decide (mx6 pa.u.length fu.u.length fi.u.length pa.v.length fu.v.length fi.v.length ≤ 2000)
set_option maxHeartbeats 1600000 in
theorem light_ok (pa fu fi : Fm) (H : Heap) : CallOk Tryz.prog 13 [.agg (fmc pa ++ (fmc fu ++ fmc fi))] H (.bool (lightB pa fu fi)) H := by
  obtain ⟨w1, h1, y1, u1, v1⟩ := pa
  obtain ⟨w2, h2, y2, u2, v2⟩ := fu
  obtain ⟨w3, h3, y3, u3, v3⟩ := fi
  simp only [fmc, List.cons_append, List.nil_append]
  refine CallOk.body (F0 := [(0, .agg [.int .i64 w1, .int .i64 h1, .slice (bs y1) y1.length false, .slice (bs u1) u1.length false, .slice (bs v1) v1.length false, .int .i64 w2, .int .i64 h2, .slice (bs y2) y2.length false, .slice (bs u2) u2.length false, .slice (bs v2) v2.length false, .int .i64 w3, .int .i64 h3, .slice (bs y3) y3.length false, .slice (bs u3) u3.length false, .slice (bs v3) v3.length false])]) Tryz.func13 rfl Tryz.ntmps13 Tryz.results13 rfl (by kernel_rfl) rfl ?_
  (repeat refine PW.seq ?_); refine PW.rg rfl fun K hK => ?_; simp (disch := omega) only [go_sem, ↓reduceIte, reduceCtorEq, pappend, plen]; refine hK _ _ ?_; clear hK K
  (repeat refine PW.seq ?_); refine PW.rg rfl fun K hK => ?_; simp (disch := omega) only [go_sem, ↓reduceIte, reduceCtorEq, pappend, plen]; refine hK _ _ ?_; clear hK K
  (repeat refine PW.seq ?_); refine PW.rg rfl fun K hK => ?_; simp (maxSteps := 2000000) (disch := omega) only [go_sem, ↓reduceIte, reduceCtorEq, pappend, plen]; refine hK _ _ ?_; clear hK K
  (repeat refine PW.seq ?_)
  refine PW.at [3, 4] (F1 := [(3, .int .i64 (mx3 y1.length y2.length y3.length)), (4, .int .i64 (mx6 u1.length u2.length u3.length v1.length v2.length v3.length))]) ?_ rfl rfl
  unfold lightB
  simp only
  generalize mx3 y1.length y2.length y3.length = m3
  generalize mx6 u1.length u2.length u3.length v1.length v2.length v3.length = m6
  (repeat refine PW.seq ?_); refine PW.rg rfl fun K hK => ?_; simp (disch := omega) only [go_sem, ↓reduceIte, reduceCtorEq, pappend, plen]; (repeat' ((first | refine VO_cond ?_ ?_ | refine VOd_cond ?_ ?_ | refine VOg_cond ?_ ?_ | refine VOh_cond ?_ ?_ | refine VOi_cond ?_ ?_ | refine And.intro ?_ ?_) <;> intro h <;> (try simp only [Bool.not_eq_true', Bool.not_eq_false', decide_eq_true_eq, decide_eq_false_iff_not] at h) <;> simp (disch := omega) only [go_sem, ↓reduceIte, reduceCtorEq, pappend, plen, h]))
  all_goals (refine hK _ _ ?_; clear hK; (refine PW.ret ⟨_, rfl, ?_⟩; first | refine .inl ⟨?_, rfl⟩ | refine Fin.base (.id' ?_ (.bool _)) | refine Fin.base (.id' ?_ (.int _ _))); (simp_all [slot, Nat.beq] <;> first | rfl | omega | (rw [Bool.eq_iff_iff]; simp; done) | (rw [Bool.eq_iff_iff]; simp; omega)))

end Go.Proofs.YtahomnplappbpaaGreatDoor.Sc
