/-
  Parts of the proof, put together in one text. No condition.
-/
import Derived.Test.YtahomnplappbpaaGreatDoorV11
namespace Go.Proofs.YtahomnplappbpaaGreatDoor.Pm
set_option linter.all false
set_option linter.unusedVariables false
set_option linter.unusedSimpArgs false
open Go.RowKit

variable {P : Program} {C : Ctx} {H : Heap} {w : World} {F : Fr} {a : Act} {N : Nat}

theorem VRel.re {C D : Ctx} (h1 : D.M = C.M) (h2 : D.mu = C.mu) (h3 : D.vs = C.vs) (h4 : D.cp = C.cp) {x : PV} {u : Value} (h : VRel C x u) : VRel D x u := by
  induction h with
  | nl k => exact .nl k
  | yl hl _ ih => exact .yl hl ih
  | int k n => exact .int k n
  | bool b => exact .bool b
  | str s => exact .str s
  | nilp => exact .nilp
  | ptr hm hv => exact .ptr (by rw [h2]; exact hm) (by rw [h3]; exact hv)
  | ptrS v h1 hv hlt => exact .ptrS v h1 (by rw [h3]; exact hv) hlt
  | ip hl hM hc _ ih => exact .ip hl (by rw [h1]; exact hM) hc ih
  | slice hl hM hc _ hcap hmax hf ih => exact .slice hl (by rw [h1]; exact hM) hc ih hcap hmax hf
  | sliceN ad full => exact .sliceN ad full
  | msl hm hv hcap hmax hg => exact .msl (by rw [h2]; exact hm) (by rw [h3]; exact hv) hcap hmax (by rw [h4]; exact hg)
  | mslE hm hv hmax => exact .mslE (by rw [h2]; exact hm) (by rw [h3]; exact hv) hmax
  | mslG ad hm hv => exact .mslG ad (by rw [h2, h4]; exact hm) (by rw [h3]; exact hv)
  | mp hm hv hb => exact .mp (by rw [h2]; exact hm) (by rw [h3]; exact hv) (by rw [h4]; exact hb)
  | mpS v h1 hv hlt => exact .mpS v h1 (by rw [h3]; exact hv) hlt
  | mslS v h1 hv hlt => exact .mslS v h1 (by rw [h3]; exact hv) hlt
  | agg hl hc _ ih => exact .agg hl hc ih
  | tup hl _ ih => exact .tup hl ih
  | func hl hl' _ _ ih ih' => exact .func hl hl' ih ih'
  | undef v => exact .undef v

/-! ### a change of view -/
/-- Wherever (F, H) holds, (F1, H1) holds too. -/
def Vs (E : Env) (F : Fr) (H : Heap) (F1 : Fr) (H1 : Heap) : Prop :=
  HSc E.H0 → ∀ (C : Ctx) (a : Act) (w : World), WRel C H w → FRel C E.N (slot F) a → ∃ C', CLeN E.H0.length C C' ∧ WRel C' H1 w ∧ FRel C' E.N (slot F1) a

section rules
variable {E : Env} {Q : Exit → Fr → Heap → Prop} {F1 : Fr} {H1 : Heap}
theorem PW.view {c : Code} (hv : Vs E F H F1 H1) (h : PW P E c F1 H1 Q) : PW P E c F H Q := fun hs C a w hd hw hf => by
  obtain ⟨C', q1, q2, q3⟩ := hv hs C a w hw hf
  exact wp_mono (h hs C' a w hd q2 q3) fun _ _ _ hp => hp.trans q1 (.refl _ _)
theorem PL.view {c : Code} (hv : Vs E F H F1 H1) (h : PL P E c F1 H1 Q) : PL P E c F H Q := fun hs C a w hd hw hf => by
  obtain ⟨C', q1, q2, q3⟩ := hv hs C a w hw hf
  intro b k cs
  obtain ⟨e2, a2, w2, hq2, harr2⟩ := h hs C' a w hd q2 q3 b k cs
  exact ⟨e2, a2, w2, hq2.trans q1 (.refl _ _), harr2⟩
theorem Vs.trans {F2 : Fr} {H2 : Heap} (h : Vs E F H F1 H1) (k : Vs E F1 H1 F2 H2) : Vs E F H F2 H2 := fun hs C a w hw hf => by
  obtain ⟨C1, q1, q2, q3⟩ := h hs C a w hw hf
  obtain ⟨C2, r1, r2, r3⟩ := k hs C1 a w q2 q3
  exact ⟨C2, q1.trans r1, r2, r3⟩
theorem Vs.keep (ks : List Nat) : Vs E F H (kp ks F) H := fun _ C _ _ hw hf => ⟨C, .refl C, hw, hf.keep ks⟩
theorem PW.eq {c : Code} (hF : F = F1) (hH : H = H1) (h : PW P E c F1 H1 Q) : PW P E c F H Q := by subst hF hH; exact h
theorem PL.eq {c : Code} (hF : F = F1) (hH : H = H1) (h : PL P E c F1 H1 Q) : PL P E c F H Q := by subst hF hH; exact h

theorem PW.at {c : Code} (ks : List Nat) (h : PW P E c F1 H1 Q) (hF : kp ks F = F1) (hH : H = H1) : PW P E c F H Q := by subst hF hH; exact h.keep ks
theorem PL.at {c : Code} (ks : List Nat) (h : PL P E c F1 H1 Q) (hF : kp ks F = F1) (hH : H = H1) : PL P E c F H Q := by subst hF hH; exact h.keep ks
/-- The region changes slot d alone (of those that are kept). -/
theorem PW.rgv {id : Nat} {ops : Array Oper} (ks : List Nat) (d : Nat) (v : PV) (hd : ops.toList.all (dstOk E.N) = true) (h : VO P (ops.toList.map (·.dst)) ops.toList (some (F, H)) (fun F' H' => kp (d :: ks) F' = (d, v) :: kp ks F ∧ H' = H)) (hq : Q .normal ((d, v) :: kp ks F) H) :
    PW P E (.region id ops false) F H Q := PW.rg1 (d :: ks) _ H hd h hq
/-! ### cutting -/
/-- Of the slots of F1: what F has there, given up, is what F1 says. -/
def FzF (n : Nat) (H : Heap) (F : Fr) : Fr → Prop
  | [] => True
  | (t, v) :: r => Fz n H (slot F t) v ∧ FzF n H F r
theorem FzF.slot {n : Nat} : ∀ {F1 : Fr}, FzF n H F F1 → ∀ t, Pm.slot F1 t = .undef ∨ Fz n H (Pm.slot F t) (Pm.slot F1 t)
  | [], _, t => .inl rfl
  | (k, x) :: r, h, t => by
    show (match Nat.beq k t with | true => x | false => Pm.slot r t) = .undef ∨ Fz n H (Pm.slot F t) (match Nat.beq k t with | true => x | false => Pm.slot r t)
    cases hb : Nat.beq k t with
    | true => exact .inr (by rw [← Nat.eq_of_beq_eq_true hb]; exact h.1)
    | false => exact FzF.slot h.2 t
theorem Vs.cut (hn : E.H0.length ≤ H1.length) (hH : HSc E.H0 → CutH H H1) (hF : FzF H1.length H F F1) : Vs E F H F1 H1 := fun hs C a w hw hf => by
  obtain ⟨g1, g2⟩ := hw.cutN (hH hs)
  refine ⟨_, g1.less hn, g2, hf.1, fun t => ?_⟩
  rcases hF.slot t with h | h
  · rw [h]; exact .undef _
  · exact h.sound hw (hf.2 t)

theorem Scoped.mono {n m : Nat} (hm : n ≤ m) {x : PV} (h : Scoped n x) : Scoped m x := by
  induction h with
  | nl k => exact .nl k
  | yl _ ih => exact .yl ih
  | lp l r => exact .lp l r
  | int k m => exact .int k m
  | bool b => exact .bool b
  | str s => exact .str s
  | nilp => exact .nilp
  | undef => exact .undef
  | ptr h => exact .ptr (by omega)
  | msl h => exact .msl (by omega)
  | mp h => exact .mp (by omega)
  | ip _ ih => exact .ip ih
  | slice _ ih => exact .slice ih
  | agg _ ih => exact .agg ih
  | tup _ ih => exact .tup ih
  | func _ _ ih ih' => exact .func ih ih'

/-- Point by point, by recursion. -/
def FzC (n : Nat) (H : Heap) : List PV → List PV → Prop
  | [], [] => True
  | x :: xs, y :: ys => Fz n H x y ∧ FzC n H xs ys
  | _, _ => False
theorem FzC.pw {n : Nat} : ∀ {xs ys : List PV}, FzC n H xs ys → ys.length = xs.length ∧ ∀ (j : Nat) (x y : PV), xs[j]? = some x → ys[j]? = some y → Fz n H x y
  | [], [], _ => ⟨rfl, fun j x y hx => by simp at hx⟩
  | x :: xs, y :: ys, h => by
    obtain ⟨l, q⟩ := FzC.pw h.2
    refine ⟨by simp [l], fun j a b ha hb => ?_⟩
    cases j with
    | zero => simp at ha hb; subst ha hb; exact h.1
    | succ j => exact q j a b (by simpa using ha) (by simpa using hb)
  | [], _ :: _, h => h.elim
  | _ :: _, [], h => h.elim
theorem FzC.refl {n : Nat} : ∀ {xs : List PV}, (∀ x ∈ xs, Scoped n x) → FzC n H xs xs
  | [], _ => trivial
  | x :: xs, h => ⟨.id (h x (by simp)), FzC.refl fun y hy => h y (by simp [hy])⟩
theorem FzC.append {n : Nat} : ∀ {xs ys us vs : List PV}, FzC n H xs ys → FzC n H us vs → FzC n H (xs ++ us) (ys ++ vs)
  | [], [], _, _, _, h => h
  | x :: xs, y :: ys, _, _, h, h' => ⟨h.1, FzC.append h.2 h'⟩
  | [], _ :: _, _, _, h, _ => h.elim
  | _ :: _, [], _, _, h, _ => h.elim
theorem Fz.tupC {n : Nat} {xs ys : List PV} (h : FzC n H xs ys) : Fz n H (.tup xs) (.tup ys) := .tup h.pw.1 h.pw.2
theorem Fz.aggC {n : Nat} {xs ys : List PV} (h : FzC n H xs ys) : Fz n H (.agg xs) (.agg ys) := .agg h.pw.1 h.pw.2
/-- A whole block, given up. -/
theorem Fz.mslC {n id ver len sz e : Nat} {g : Bool} {xs ys : List PV} (hn : n ≤ id) (hk : H[id]? = some ⟨e, ver, xs⟩) (hl : xs.length = len * sz) (h : FzC n H xs ys) : Fz n H (.msl id ver 0 len sz g) (.slice ys len false) := by
  have ht : ((xs.drop 0).take (len * sz)) = xs := by rw [List.drop_zero, ← hl, List.take_length]
  exact .msl hn hk rfl (by simp only; omega) (by simp only; rw [ht]; exact h.pw.1) (by simp only; rw [ht]; exact h.pw.2)
def FzL (n : Nat) (H : Heap) : List Blk → List Blk → Prop
  | [], [] => True
  | k :: r, k1 :: r1 => k1.e = k.e ∧ k1.ver = k.ver ∧ FzC n H k.cells k1.cells ∧ FzL n H r r1
  | _, _ => False
theorem FzL.get {n : Nat} : ∀ {L L1 : List Blk}, FzL n H L L1 → L1.length = L.length ∧ ∀ (j : Nat) (k1 : Blk), L1[j]? = some k1 → ∃ k, L[j]? = some k ∧ k1.e = k.e ∧ k1.ver = k.ver ∧ FzC n H k.cells k1.cells
  | [], [], _ => ⟨rfl, fun j k h => by simp at h⟩
  | k :: r, k1 :: r1, h => by
    obtain ⟨h1, h2, h3, h4⟩ := h
    obtain ⟨l, q⟩ := FzL.get h4
    refine ⟨by simp [l], fun j k' hk' => ?_⟩
    cases j with
    | zero => simp at hk'; subst hk'; exact ⟨k, rfl, h1, h2, h3⟩
    | succ j => exact q j k' (by simpa using hk')
  | [], _ :: _, h => h.elim
  | _ :: _, [], h => h.elim
theorem FzL.refl {n : Nat} : ∀ {L : List Blk}, (∀ k ∈ L, ∀ x ∈ k.cells, Scoped n x) → FzL n H L L
  | [], _ => trivial
  | k :: r, h => ⟨rfl, rfl, FzC.refl (h k (by simp)), FzL.refl fun k' hk' => h k' (by simp [hk'])⟩

theorem CutH.of {A L K L1 : Heap} (hA : HSc A) (hL : FzL (A ++ L1).length (A ++ L ++ K) L L1) : CutH (A ++ L ++ K) (A ++ L1) := by
  obtain ⟨l, q⟩ := hL.get
  refine ⟨by simp [l], fun j k1 hk1 => ?_⟩
  by_cases hj : j < A.length
  · rw [List.getElem?_append_left hj] at hk1
    refine ⟨k1, by rw [List.append_assoc, List.getElem?_append_left hj]; exact hk1, rfl, rfl, rfl, fun i x y hx hy => ?_⟩
    rw [hx] at hy
    injection hy with hy
    subst hy
    exact .id ((hA j k1 hk1 x (List.mem_of_getElem? hx)).mono (by simp))
  · rw [List.getElem?_append_right (by omega)] at hk1
    obtain ⟨k, hk, h1, h2, h3⟩ := q _ k1 hk1
    have hlt := (List.getElem?_eq_some_iff.1 hk).1
    exact ⟨k, by rw [List.append_assoc, List.getElem?_append_right (by omega), List.getElem?_append_left hlt]; exact hk, h1, h2, h3.pw.1, h3.pw.2⟩
/-- All that is behind A goes. -/
theorem CutH.base {A K : Heap} (hA : HSc A) : CutH (A ++ K) A := by
  have := CutH.of (A := A) (L := []) (K := K) (L1 := []) hA trivial
  simpa using this
theorem HSc.set {A : Heap} (hA : HSc A) {id : Nat} {k : Blk} (hk : ∀ x ∈ k.cells, Scoped A.length x) : HSc (A.set id k) := fun j k' hk' x hx => by
  rw [List.length_set]
  rw [List.getElem?_set] at hk'
  split at hk'
  · split at hk'
    · injection hk' with hk'; subst hk'; exact hk x hx
    · cases hk'
  · exact hA j k' hk' x hx

theorem Vs.trim {K : Heap} (hA : HSc E.H0 → HSc H1) (hn : E.H0.length ≤ H1.length) (hH : H = H1 ++ K) (hF : FzF H1.length H F F1) : Vs E F H F1 H1 :=
  Vs.cut hn (fun hs => by rw [hH]; exact CutH.base (hA hs)) hF

/-! ### returning -/
theorem Fin.cut {A K H' : Heap} {v v' : PV} (hH : H' = A ++ K) (hl : H.length = A.length) (hA : HSc H → HSc A) (hv : Fz A.length H' v' v) : Fin H v A v' H' := by
  subst hH
  exact .inr (.inr fun hs => ⟨by omega, CutH.base (hA hs), hv⟩)
theorem Fin.base {K : Heap} {v v' : PV} (hv : Fz H.length (H ++ K) v' v) : Fin H v H v' (H ++ K) := Fin.cut rfl rfl (fun h => h) hv
/-- Returning, and some new blocks stay. -/
theorem Fin.more {A L K L1 H' : Heap} {v v' : PV} (hH : H' = A ++ L ++ K) (hl : H.length = A.length) (hA : HSc H → HSc A) (hL : FzL (A ++ L1).length H' L L1) (hv : Fz (A ++ L1).length H' v' v) : Fin H v (A ++ L1) v' H' := by
  subst hH
  exact .inr (.inr fun hs => ⟨by simp; omega, CutH.of (hA hs) hL, hv⟩)
theorem Fin.now {v : PV} {H1 : Heap} : Fin H v H1 v H1 := .inl ⟨rfl, rfl⟩

/-! ### blocks without a place -/
theorem ghost_rel {id sz : Nat} (hm : C.mu[id]? = some none ∧ C.cp[id]? = some 0) (hv : C.vs[id]? = some 0) {u : Value} (h : VRel C (.slice [] 0 true) u) : VRel C (.msl id 0 0 0 sz true) u := by
  cases h with
  | slice hl hM hc hR hcap hmax hf => rw [hf rfl]; exact .mslG _ hm hv
  | sliceN => exact .mslG _ hm hv
theorem Vs.ghost (t e sz : Nat) (hs : slot F t = .slice [] 0 true) : Vs E F H ((t, .msl H.length 0 0 0 sz true) :: F) (H ++ [⟨e, 0, []⟩]) := fun _ C a w hw hf => by
  obtain ⟨g1, g2⟩ := hw.ghost e 0
  refine ⟨_, g1.toN _, g2, hf.1, fun t' => ?_⟩
  show VRel _ (match Nat.beq t t' with | true => _ | false => slot F t') _
  cases hb : Nat.beq t t' with
  | true =>
    rw [← Nat.eq_of_beq_eq_true hb]
    have := hf.2 t
    rw [hs] at this
    exact ghost_rel ⟨by simp [Ctx.more, ← hw.len], by simp [Ctx.more, ← hw.lenc]⟩ (by simp [Ctx.more, ← hw.lenv]) (this.mono g1)
  | false => exact (hf.2 t').mono g1
end rules

/-! ### contracts at another heap -/
/-- Memory is only added to. -/
theorem WRel.grown (hw : WRel C H w) {w' : World} (hb : Below w.heap.size w w') : WRel C H w' := by
  have hcell : ∀ b o u, w.cell? ⟨b, o, none⟩ = some u → w'.cell? ⟨b, o, none⟩ = some u := fun b o u hu => by
    have hlt := World.block_lt_of_cell? w ⟨b, o, none⟩ hu
    have e := hb.block b hlt
    simp only [World.cell?] at hu ⊢
    rw [e]; exact hu
  have hsz := hb.size
  refine ⟨hw.gl, by have := hw.base; omega, by have := hw.tople; omega, fun b o u hu => hcell _ _ _ (hw.imm b o u hu), hw.len, hw.lenv, hw.lenc, hw.ver, fun id k hk hm => (hw.gho id k hk hm).imp_right (fun m => m.mono (.refl _) rfl (fun b es c hp h3 => by rw [hb.block b (Array.getElem?_eq_some_iff.1 h3).1]; exact h3)), fun id k b hk hm => ?_, hw.disj, hw.inj, hw.minj⟩
  obtain ⟨cur, q3, q4, q5, q6, q7, q8⟩ := hw.own id k b hk hm
  exact ⟨cur, q3, q4, by rw [hb.block b (hw.mu_lt hm)]; exact q5, q6, q7, q8⟩

/-- What is known after a call that knew nothing of the heap. -/
def Ctx.after (C C2 : Ctx) (n : Nat) : Ctx := { C with M := fun b o => if b < n then C.M b o else C2.M b o }
theorem after_le (C C2 : Ctx) (hw : WRel C H w) : CLe C (C.after C2 w.heap.size) := by
  refine ⟨rfl, fun b o u hu => ?_, rfl, fun b o u hu => ?_, fun b hb => .inl hb, fun id ver hv => ⟨ver, hv, Nat.le_refl _, fun _ => ⟨rfl, rfl⟩⟩⟩
  · have := hw.imm_lt hu
    simp only [Ctx.after]
    rw [if_pos this]; exact hu
  · simp only [Ctx.after] at hu
    split at hu
    · exact .inl hu
    · have := hw.tople; exact .inr (.inl (by omega))
theorem after_w {C2 : Ctx} {w' : World} (hw : WRel C H w) (hb : Below w.heap.size w w') (h2 : WRel C2 [] w') : WRel (C.after C2 w.heap.size) H w' := by
  have h := hw.grown hb
  have hle := after_le C C2 hw
  refine ⟨h.gl.mono hle.M, h.base, h.tople, fun b o u hu => ?_, h.len, h.lenv, h.lenc, h.ver, fun id k hk hm => (h.gho id k hk hm).imp_right (fun m => m.mono hle rfl (fun b es c hp h3 => h3)), fun id k b hk hm => ?_, fun id b hm o => ?_, h.inj, h.minj⟩
  · simp only [Ctx.after] at hu
    split at hu
    · exact h.imm b o u hu
    · exact h2.imm b o u hu
  · obtain ⟨cur, q3, q4, q5, q6, q7, q8⟩ := h.own id k b hk hm
    exact ⟨cur, q3, q4, q5, q6, q7, fun j x u hx hu => (q8 j x u hx hu).mono hle⟩
  · simp only [Ctx.after]
    rw [if_pos (hw.mu_lt hm)]
    exact hw.disj id b hm o
theorem after_v {n : Nat} {C2 : Ctx} (hM : ∀ b o u, C2.M b o = some u → C.M b o = some u ∨ n ≤ b) (hlt : ∀ b o u, C.M b o = some u → b < n) (hC : ∀ b o u, C.M b o = some u → C2.M b o = some u) (hv0 : C2.vs = []) {x : PV} {u : Value} (h : VRel C2 x u) : VRel (C.after C2 n) x u := by
  have key : ∀ b o u, C2.M b o = some u → (C.after C2 n).M b o = some u := fun b o u hu => by
    simp only [Ctx.after]
    rcases hM b o u hu with h | h
    · rw [if_pos (hlt b o u h)]; exact h
    · rw [if_neg (by omega)]; exact hu
  have no : ∀ {id ver : Nat}, C2.vs[id]? = some ver → False := fun h => by rw [hv0] at h; simp at h
  induction h with
  | nl k => exact .nl k
  | yl hl _ ih => exact .yl hl ih
  | int k n => exact .int k n
  | bool b => exact .bool b
  | str s => exact .str s
  | nilp => exact .nilp
  | ptr hm hv => exact (no hv).elim
  | ptrS v h1 hv hlt => exact (no hv).elim
  | ip hl hM hc _ ih => exact .ip hl (fun j u hu => key _ _ _ (hM j u hu)) hc ih
  | slice hl hM hc _ hcap hmax hf ih => exact .slice hl (fun j u hu => key _ _ _ (hM j u hu)) hc ih hcap hmax hf
  | sliceN ad full => exact .sliceN ad full
  | msl hm hv hcap hmax hg => exact (no hv).elim
  | mslE hm hv hmax => exact (no hv).elim
  | mslG ad hm hv => exact (no hv).elim
  | mslS v h1 hv hlt => exact (no hv).elim
  | mp hm hv hb => exact (no hv).elim
  | mpS v h1 hv hlt => exact (no hv).elim
  | agg hl hc _ ih => exact .agg hl hc ih
  | tup hl _ ih => exact .tup hl ih
  | func hl hl' _ _ ih ih' => exact .func hl hl' ih ih'
  | undef v => exact .undef v

/-- ████ A contract over no heap at all holds over every heap, if the arguments name no blocks. ████ -/
theorem CallEx.frame {f : FuncId} {args : List PV} {R : PV → Prop} (h : CallEx P f args [] (fun v H' => R v ∧ H' = [])) (hs : ∀ x ∈ args, Scoped 0 x) : CallEx P f args H (fun v H' => R v ∧ H' = H) := by
  refine ⟨h.1, fun C us w hw hu => ?_⟩
  have h0 : WRel { B := w.heap.size, M := C.M, mu := [], vs := [], cp := [], top := w.heap.size } [] w :=
    ⟨hw.gl, Nat.le_refl _, Nat.le_refl _, hw.imm, rfl, rfl, rfl, fun id k h => by simp at h, fun id k h => by simp at h, fun id k b h => by simp at h, fun id b h => by simp at h, fun i j b h => by simp at h, fun i j b h => by simp at h⟩
  have ha : VRels { B := w.heap.size, M := C.M, mu := [], vs := [], cp := [], top := w.heap.size } args us := ⟨hu.1, fun j x u hx hu' => by
    have := (hu.2 j x u hx hu').cut (n := 0) (M := C.M) (fun _ _ _ h => h) (hs x (List.mem_of_getElem? hx))
    refine this.re ?_ ?_ ?_ ?_ <;> simp [Ctx.cut]⟩
  refine (h.2 _ us w h0 ha).mono ?_
  rintro e w' ⟨C2, u, v, H', ⟨hR, rfl⟩, q1, q2, q3, q4, q5⟩
  refine ⟨C.after C2 w.heap.size, u, v, H, ⟨hR, rfl⟩, after_le C C2 hw, after_w hw q3 q2, q3.mono hw.base, q4, ?_⟩
  refine after_v (fun b o u hu => ?_) (fun b o u hu => hw.imm_lt hu) (fun b o u hu => q1.M b o u hu) (List.eq_nil_of_length_eq_zero q2.lenv) q5
  rcases q1.mnew b o u hu with h | h | h
  · exact .inl h
  · exact .inr h
  · simp at h
theorem CallOk.frame {f : FuncId} {args : List PV} {v : PV} (h : CallOk P f args [] v []) (hs : ∀ x ∈ args, Scoped 0 x) : CallOk P f args H v H :=
  (CallEx.frame (R := fun v' => v' = v) h.toEx hs).one

/-- It names no memory. -/
inductive Scal : PV → Prop where
  | int (k : IntKind) (m : Int) : Scal (.int k m)
  | bool (b : Bool) : Scal (.bool b)
  | str (s : List UInt8) : Scal (.str s)
  | nilp : Scal .nilp
  | agg {xs : List PV} (h : ∀ (j : Nat) (x : PV), xs[j]? = some x → Scal x) : Scal (.agg xs)
  | tup {xs : List PV} (h : ∀ (j : Nat) (x : PV), xs[j]? = some x → Scal x) : Scal (.tup xs)
theorem Scal.any {C C' : Ctx} {x : PV} (h : Scal x) : ∀ {u : Value}, VRel C x u → VRel C' x u := by
  induction h with
  | int k m => intro u hv; cases hv; exact .int k m
  | bool b => intro u hv; cases hv; exact .bool b
  | str s => intro u hv; cases hv; exact .str _
  | nilp => intro u hv; cases hv; exact .nilp
  | agg _ ih => intro u hv; cases hv with | agg hl hc hR => exact .agg hl hc (fun j x u hx hu => ih j x hx (hR j x u hx hu))
  | tup _ ih => intro u hv; cases hv with | tup hl hR => exact .tup hl (fun j x u hx hu => ih j x hx (hR j x u hx hu))

/-! ### one block is given up where it stands -/
/-- The arguments, one block given up. -/
def Fz1 (id : Nat) (k : Blk) : List PV → List PV → Prop
  | [], [] => True
  | x :: xs, y :: ys => (x = y ∨ ∃ len sz g, x = .msl id k.ver 0 len sz g ∧ k.cells.length = len * sz ∧ y = .slice k.cells len false) ∧ Fz1 id k xs ys
  | _, _ => False
theorem Fz1.get {id : Nat} {k : Blk} : ∀ {xs ys : List PV}, Fz1 id k xs ys → ys.length = xs.length ∧ ∀ (j : Nat) (x y : PV), xs[j]? = some x → ys[j]? = some y → (x = y ∨ ∃ len sz g, x = .msl id k.ver 0 len sz g ∧ k.cells.length = len * sz ∧ y = .slice k.cells len false)
  | [], [], _ => ⟨rfl, fun j x y hx => by simp at hx⟩
  | x :: xs, y :: ys, h => by
    obtain ⟨l, q⟩ := Fz1.get h.2
    refine ⟨by simp [l], fun j a b ha hb => ?_⟩
    cases j with
    | zero => simp at ha hb; subst ha hb; exact h.1
    | succ j => exact q j a b (by simpa using ha) (by simpa using hb)
  | [], _ :: _, h => h.elim
  | _ :: _, [], h => h.elim
end Go.Proofs.YtahomnplappbpaaGreatDoor.Pm

namespace Go.Proofs.YtahomnplappbpaaGreatDoor.Pm
set_option linter.all false
set_option linter.unusedVariables false
set_option linter.unusedSimpArgs false
open Go.RowKit

variable {P : Program} {C : Ctx} {H : Heap} {w : World} {F : Fr} {a : Act} {N : Nat}

/-! ### equality -/
def eqL {α : Type} (f : α → α → Bool) : List α → List α → Bool
  | [], [] => true
  | x :: xs, y :: ys => match f x y with | true => eqL f xs ys | false => false
  | _, _ => false
theorem eqL_sound {α : Type} {f : α → α → Bool} (hf : ∀ x y, f x y = true → x = y) : ∀ {xs ys : List α}, eqL f xs ys = true → xs = ys
  | [], [], _ => rfl
  | x :: xs, y :: ys, h => by
    simp only [eqL] at h
    split at h
    · rename_i h1; rw [hf _ _ h1, eqL_sound hf h]
    · cases h
  | [], _ :: _, h => by cases h
  | _ :: _, [], h => by cases h
def eqb : Nat → PV → PV → Bool
  | 0, _, _ => false
  | _ + 1, .int k a, .int k' b => decide (k = k') && decide (a = b)
  | _ + 1, .bool a, .bool b => a == b
  | _ + 1, .str a, .str b => decide (a = b)
  | _ + 1, .nilp, .nilp => true
  | _ + 1, .nl a, .nl b => Nat.beq a b
  | _ + 1, .undef, .undef => true
  | _ + 1, .ptr a b c, .ptr a' b' c' => Nat.beq a a' && Nat.beq b b' && Nat.beq c c'
  | n + 1, .ip xs o, .ip ys o' => Nat.beq o o' && eqL (eqb n) xs ys
  | n + 1, .slice xs l f, .slice ys l' f' => Nat.beq l l' && (f == f') && eqL (eqb n) xs ys
  | _ + 1, .msl a b c d e g, .msl a' b' c' d' e' g' => Nat.beq a a' && Nat.beq b b' && Nat.beq c c' && Nat.beq d d' && Nat.beq e e' && (g == g')
  | _ + 1, .mp a b, .mp a' b' => Nat.beq a a' && Nat.beq b b'
  | n + 1, .agg xs, .agg ys => eqL (eqb n) xs ys
  | n + 1, .tup xs, .tup ys => eqL (eqb n) xs ys
  | n + 1, .func f xs us, .func f' ys vs => Nat.beq f f' && eqL (eqb n) xs ys && eqL (eqb n) us vs
  | _ + 1, _, _ => false
theorem eqb_sound : ∀ (n : Nat) (x y : PV), eqb n x y = true → x = y
  | 0, _, _, h => by simp [eqb] at h
  | n + 1, x, y, h => by
    have ih : ∀ {xs ys : List PV}, eqL (eqb n) xs ys = true → xs = ys := fun h => eqL_sound (eqb_sound n) h
    have nb : ∀ {a b : Nat}, Nat.beq a b = true → a = b := fun h => Nat.eq_of_beq_eq_true h
    cases x <;> cases y <;> simp only [eqb, Bool.false_eq_true, Bool.and_eq_true, decide_eq_true_eq, beq_iff_eq] at h
    case int => rw [h.1, h.2]
    case bool => rw [h]
    case str => rw [h]
    case nilp => rfl
    case nl => rw [nb h]
    case ptr => rw [nb h.1.1, nb h.1.2, nb h.2]
    case ip => rw [nb h.1, ih h.2]
    case slice => rw [nb h.1.1, ih h.2, h.1.2]
    case msl => rw [nb h.1.1.1.1.1, nb h.1.1.1.1.2, nb h.1.1.1.2, nb h.1.1.2, nb h.1.2, h.2]
    case mp => rw [nb h.1, nb h.2]
    case agg => rw [ih h]
    case tup => rw [ih h]
    case func => rw [nb h.1.1, ih h.1.2, ih h.2]
    case undef => rfl
def eqBlk (a b : Blk) : Bool := Nat.beq a.e b.e && Nat.beq a.ver b.ver && eqL (eqb 20) a.cells b.cells
theorem eqBlk_sound (a b : Blk) (h : eqBlk a b = true) : a = b := by
  simp only [eqBlk, Bool.and_eq_true] at h
  cases a; cases b
  simp only [Blk.mk.injEq]
  exact ⟨Nat.eq_of_beq_eq_true h.1.1, Nat.eq_of_beq_eq_true h.1.2, eqL_sound (eqb_sound 20) h.2⟩
def eqH (a b : Heap) : Bool := eqL eqBlk a b
theorem eqH_sound {a b : Heap} (h : eqH a b = true) : a = b := eqL_sound eqBlk_sound h

/-! ### the evaluator -/
inductive Task where
  | code (N : Nat) (c : Code) (F : Fr) (H : Heap)
  | loop (N : Nat) (c : Code) (F : Fr) (H : Heap)
  | ops (d : Bool) (ds : List (Option Nat)) (l : List Oper) (F : Fr) (H : Heap)
  | call (f : FuncId) (args : List PV) (H : Heap)
inductive Res where
  | code (e : Exit) (F : Fr) (H : Heap)
  | val (v : PV) (H : Heap)

/-- The newest entry of each slot. -/
def newest (ks : List Nat) : Fr → List Nat
  | [] => ks
  | (t, _) :: r => match ks.any (Nat.beq t) with | true => newest ks r | false => newest (t :: ks) r

def stepE (P : Program) (ih : Task → Option Res) : Task → Option Res
  | .code N c F H => match c with
    | .skip => some (.code .normal F H)
    | .region _ ops d => match ops.toList.all (dstOk N) && (!d || (P.follows .mixedOrders && drawOk N ops.toList)) with
      | true => ih (.ops d (ops.toList.map (·.dst)) ops.toList F H)
      | false => none
    | .seq x y => match ih (.code N x F H) with
      | some (.code .normal F1 H1) => ih (.code N y F1 H1)
      | r => r
    | .cond c x y => match ev (slot F) c with
      | .bool true => ih (.code N x F H)
      | .bool false => ih (.code N y F H)
      | _ => none
    | .block id x => match ih (.code N x F H) with
      | some (.code (.exit id') F1 H1) => match Nat.beq id' id with | true => some (.code .normal F1 H1) | false => some (.code (.exit id') F1 H1)
      | r => r
    | .loop x => ih (.loop N x F H)
    | .exit id => some (.code (.exit id) F H)
    | .label _ => some (.code .normal F H)
    | .scope x => match ih (.code N x F H) with
      | some (.code (.goto _) _ _) => none
      | r => r
    | .ret => some (.code .ret F H)
    | _ => none
  | .loop N x F H => match ih (.code N x F H) with
    | some (.code .normal F1 H1) => ih (.loop N x (kp (newest [] F1) F1) H1)
    | r => r
  | .ops _ _ [] F H => some (.code .normal F H)
  | .ops d ds (o :: r) F H => match isCall o.op with
    | false => match stp P ds o F H with
      | some (F1, H1) => ih (.ops d ds r F1 H1)
      | none => none
    | true => match asked ds F o with
      | some true => match pcallee o.op (slot F) with
        | some (g, args) => match d && pureCall o.op with
          | true => match args, ih (.call g [] []) with
            | [], some (.val v []) => ih (.ops d ds r (put F o.dst v) H)
            | _, _ => none
          | false => match ih (.call g args H) with
            | some (.val v H1) => match !d || eqH H1 H with
              | true => ih (.ops d ds r (put F o.dst v) H1)
              | false => none
            | _ => none
        | none => none
      | some false => ih (.ops d ds r (put F o.dst (.tup [])) H)
      | none => none
  | .call f args H => match P.funcs[f]? with
    | some fn => match fn.body with
      | some c => match callable P f && Nat.ble args.length fn.ntmps with
        | true => match ih (.code fn.ntmps c (argFr args 0) H) with
          | some (.code e F1 H1) => match (match e with | .ret => true | .normal => true | _ => false) with
            | true => match presults P fn.results.toList (slot F1) H1 with
              | some v => match eqH (H1.take H.length) H with
                | true => match frz H.length H1 20 v with
                  | some v1 => some (.val v1 H)
                  | none => some (.val v H1)
                | false => some (.val v H1)
              | none => none
            | false => none
          | _ => none
        | false => none
      | none => none
    | none => none

noncomputable def evalN (P : Program) (n : Nat) : Task → Option Res := n.rec (fun _ => none) (fun _ ih => stepE P ih)

def Good (P : Program) : Task → Res → Prop
  | .code N c F H, .code e F1 H1 => ∀ H0, PW P ⟨N, H0⟩ c F H (fun e' F' H' => e' = e ∧ F' = F1 ∧ H' = H1)
  | .loop N c F H, .code e F1 H1 => ∀ H0, PL P ⟨N, H0⟩ c F H (fun e' F' H' => e' = e ∧ F' = F1 ∧ H' = H1)
  | .ops false ds l F H, .code .normal F1 H1 => VO P ds l (some (F, H)) (fun F' H' => F' = F1 ∧ H' = H1)
  | .ops true ds l F H, .code .normal F1 H1 => VOd P ds l (some (F, H)) (fun F' H' => F' = F1 ∧ H' = H1)
  | .call f args H, .val v H1 => CallOk P f args H v H1
  | _, _ => False

theorem VO_mono {ds : List (Option Nat)} {K K' : Fr → Heap → Prop} (hk : ∀ F H, K F H → K' F H) : ∀ {l : List Oper} {s : Option (Fr × Heap)}, VO P ds l s K → VO P ds l s K'
  | l, none, h => by rw [VO_none] at h; exact h.elim
  | [], some (F, H), h => hk F H h
  | o :: r, some (F, H), h => by
    cases hc : isCall o.op with
    | false => rw [VO_op hc] at h ⊢; exact VO_mono hk h
    | true =>
      rw [VO_call hc] at h ⊢
      unfold VC at h ⊢
      split at h
      · split at h
        · obtain ⟨R, h1, h2⟩ := h; exact ⟨R, h1, fun v H' hR => VO_mono hk (h2 v H' hR)⟩
        · exact h
      · exact VO_mono hk h
      · exact h
theorem VOd_mono {ds : List (Option Nat)} {K K' : Fr → Heap → Prop} (hk : ∀ F H, K F H → K' F H) : ∀ {l : List Oper} {s : Option (Fr × Heap)}, VOd P ds l s K → VOd P ds l s K'
  | l, none, h => by rw [VOd_none] at h; exact h.elim
  | [], some (F, H), h => hk F H h
  | o :: r, some (F, H), h => by
    rw [VOd_step] at h ⊢
    cases hc : isCall o.op with
    | false => rw [hc] at h; exact VOd_mono hk h
    | true =>
      rw [hc] at h
      simp only [VCd, VRd] at h ⊢
      split at h
      · split at h
        · obtain ⟨v, h1, h2⟩ := h; exact ⟨v, h1, VOd_mono hk h2⟩
        · exact h
      · exact VOd_mono hk h
      · exact h

theorem stepE_good {ih : Task → Option Res} (hih : ∀ t r, ih t = some r → Good P t r) : ∀ t r, stepE P ih t = some r → Good P t r := by
  intro t r h
  cases t with
  | code N c F H =>
    -- what the parts give
    have sub : ∀ {x : Code} {F : Fr} {H : Heap} {r : Res}, ih (.code N x F H) = some r → ∃ e F1 H1, r = .code e F1 H1 ∧ ∀ H0, PW P ⟨N, H0⟩ x F H (fun e' F' H' => e' = e ∧ F' = F1 ∧ H' = H1) := fun {x F H r} hx => by
      have := hih _ _ hx
      cases r with
      | code e F1 H1 => exact ⟨e, F1, H1, rfl, this⟩
      | val v H1 => exact this.elim
    cases c with
    | skip => simp only [stepE, Option.some.injEq] at h; subst h; exact fun H0 => PW.skip ⟨rfl, rfl, rfl⟩
    | exit id => simp only [stepE, Option.some.injEq] at h; subst h; exact fun H0 => PW.exit ⟨rfl, rfl, rfl⟩
    | label l => simp only [stepE, Option.some.injEq] at h; subst h; exact fun H0 => PW.label ⟨rfl, rfl, rfl⟩
    | ret => simp only [stepE, Option.some.injEq] at h; subst h; exact fun H0 => PW.ret ⟨rfl, rfl, rfl⟩
    | scope x =>
      simp only [stepE] at h
      cases hx : ih (.code N x F H) with
      | none => rw [hx] at h; cases h
      | some r1 =>
        obtain ⟨e, F1, H1, rfl, hp⟩ := sub hx
        rw [hx] at h
        cases e with
        | goto l => cases h
        | _ =>
          injection h with h
          subst h
          intro H0
          refine PW.scope ((hp H0).mono ?_)
          rintro e' F' H' ⟨rfl, rfl, rfl⟩
          exact ⟨rfl, rfl, rfl⟩
    | region id ops d =>
      simp only [stepE] at h
      split at h
      · rename_i hc
        simp only [Bool.and_eq_true, Bool.or_eq_true, Bool.not_eq_true'] at hc
        have := hih _ _ h
        cases d with
        | false =>
          cases r with
          | val v H1 => exact this.elim
          | code e F1 H1 =>
            cases e with
            | normal =>
              intro H0
              refine PW.rg hc.1 fun K hK => VO_mono (fun F' H' hq => hK _ _ ?_) this
              exact ⟨rfl, hq⟩
            | _ => exact this.elim
        | true =>
          rcases hc.2 with h2 | h2
          · cases h2
          · cases r with
            | val v H1 => exact this.elim
            | code e F1 H1 =>
              cases e with
              | normal =>
                intro H0
                refine PW.draw h2.1 h2.2 fun K hK => VOd_mono (fun F' H' hq => hK _ _ ?_) this
                exact ⟨rfl, hq⟩
              | _ => exact this.elim
      · cases h
    | seq x y =>
      simp only [stepE] at h
      cases hx : ih (.code N x F H) with
      | none => rw [hx] at h; cases h
      | some rx =>
        obtain ⟨e, F1, H1, rfl, hp⟩ := sub hx
        rw [hx] at h
        cases e with
        | normal =>
          obtain ⟨e2, F2, H2, rfl, hp2⟩ := sub h
          intro H0
          exact PW.seq ((hp H0).mono fun e' F' H' hq => by obtain ⟨rfl, rfl, rfl⟩ := hq; exact hp2 H0)
        | _ =>
          simp only [Option.some.injEq] at h
          subst h
          intro H0
          exact PW.seq ((hp H0).mono fun e' F' H' hq => by obtain ⟨rfl, rfl, rfl⟩ := hq; exact ⟨rfl, rfl, rfl⟩)
    | cond c x y =>
      simp only [stepE] at h
      split at h
      · rename_i hc
        obtain ⟨e2, F2, H2, rfl, hp2⟩ := sub h
        exact fun H0 => PW.cond hc (fun _ => hp2 H0) (fun e => by cases e)
      · rename_i hc
        obtain ⟨e2, F2, H2, rfl, hp2⟩ := sub h
        exact fun H0 => PW.cond hc (fun e => by cases e) (fun _ => hp2 H0)
      · cases h
    | block id x =>
      simp only [stepE] at h
      cases hx : ih (.code N x F H) with
      | none => rw [hx] at h; cases h
      | some rx =>
        obtain ⟨e, F1, H1, rfl, hp⟩ := sub hx
        rw [hx] at h
        cases e with
        | exit id' =>
          simp only at h
          split at h
          · rename_i hb
            simp only [Option.some.injEq] at h
            subst h
            intro H0
            exact PW.block ((hp H0).mono fun e' F' H' hq => by
              obtain ⟨rfl, rfl, rfl⟩ := hq
              simp only [blockQ]
              rw [if_pos (Nat.eq_of_beq_eq_true hb)]; simp)
          · rename_i hb
            simp only [Option.some.injEq] at h
            subst h
            intro H0
            exact PW.block ((hp H0).mono fun e' F' H' hq => by
              obtain ⟨rfl, rfl, rfl⟩ := hq
              simp only [blockQ]
              rw [if_neg (by intro e; rw [e, Nat.beq_refl] at hb; cases hb)]; simp)
        | _ =>
          simp only [Option.some.injEq] at h
          subst h
          intro H0
          exact PW.block ((hp H0).mono fun e' F' H' hq => by obtain ⟨rfl, rfl, rfl⟩ := hq; exact ⟨rfl, rfl, rfl⟩)
    | loop x =>
      simp only [stepE] at h
      have := hih _ _ h
      cases r with
      | val v H1 => exact this.elim
      | code e F1 H1 => exact fun H0 => PW.loop (this H0)
    | _ => simp [stepE] at h
  | loop N x F H =>
    simp only [stepE] at h
    cases hx : ih (.code N x F H) with
    | none => rw [hx] at h; cases h
    | some rx =>
      have h1 := hih _ _ hx
      cases rx with
      | val v H1 => exact h1.elim
      | code e F1 H1 =>
        rw [hx] at h
        cases e with
        | normal =>
          have h2 := hih _ _ h
          cases r with
          | val v H1 => exact h2.elim
          | code e2 F2 H2 =>
            intro H0
            refine PL.round ((h1 H0).mono fun e' F' H' hq => ?_)
            obtain ⟨rfl, rfl, rfl⟩ := hq
            exact PL.keep (newest [] F') (h2 H0)
        | _ =>
          simp only [Option.some.injEq] at h
          subst h
          intro H0
          exact PL.round ((h1 H0).mono fun e' F' H' hq => by obtain ⟨rfl, rfl, rfl⟩ := hq; exact ⟨rfl, rfl, rfl⟩)
  | ops d ds l F H =>
    cases l with
    | nil => simp only [stepE, Option.some.injEq] at h; subst h; cases d <;> exact ⟨rfl, rfl⟩
    | cons o l =>
      simp only [stepE] at h
      -- what the rest gives
      have rest : ∀ {F1 : Fr} {H1 : Heap}, ih (.ops d ds l F1 H1) = some r → ∃ F2 H2, r = .code .normal F2 H2 ∧ (d = false → VO P ds l (some (F1, H1)) (fun F' H' => F' = F2 ∧ H' = H2)) ∧ (d = true → VOd P ds l (some (F1, H1)) (fun F' H' => F' = F2 ∧ H' = H2)) := fun {F1 H1} hx => by
        have := hih _ _ hx
        cases r with
        | val v H1 => cases d <;> exact this.elim
        | code e F2 H2 =>
          cases e with
          | normal => cases d <;> exact ⟨F2, H2, rfl, fun e => (by first | exact this | cases e), fun e => (by first | exact this | cases e)⟩
          | _ => cases d <;> exact this.elim
      split at h
      · rename_i hc
        split at h
        · rename_i F1 H1 hs
          obtain ⟨F2, H2, rfl, h1, h2⟩ := rest h
          cases d with
          | false => show VO P ds (o :: l) (some (F, H)) _; rw [VO_op hc, hs]; exact h1 rfl
          | true => show VOd P ds (o :: l) (some (F, H)) _; rw [VOd_step, hc]; show VOd P ds l (stp P ds o F H) _; rw [hs]; exact h2 rfl
        · cases h
      · rename_i hc
        split at h
        · rename_i ha
          split at h
          · rename_i g args hp
            split at h
            · rename_i hpc
              simp only [Bool.and_eq_true] at hpc
              obtain ⟨rfl, hpc⟩ := hpc
              split at h
              · rename_i v hcall
                have hk : CallOk P g [] [] v [] := hih _ _ hcall
                have hall : ∀ K, CallOk P g [] K v K := fun K => hk.frame (fun x hx => by cases hx)
                obtain ⟨F2, H2, rfl, h1, h2⟩ := rest h
                show VOd P ds (o :: l) (some (F, H)) _
                rw [VOd_step, hc]
                exact VCd.call (hall H) (fun _ => hall) ha hp (h2 rfl)
              · cases h
            rename_i hpc
            split at h
            · rename_i v H1 hcall
              split at h
              · rename_i hd
                have hk := hih _ _ hcall
                obtain ⟨F2, H2, rfl, h1, h2⟩ := rest h
                cases d with
                | false =>
                  show VO P ds (o :: l) (some (F, H)) _
                  rw [VO_call hc]
                  exact VC.call hk ha hp (h1 rfl)
                | true =>
                  have he : H1 = H := eqH_sound (by simpa using hd)
                  subst he
                  show VOd P ds (o :: l) (some (F, H1)) _
                  rw [VOd_step, hc]
                  exact VCd.call hk (fun e => by rw [e] at hpc; cases hpc) ha hp (h2 rfl)
              · cases h
            · cases h
          · cases h
        · rename_i ha
          obtain ⟨F2, H2, rfl, h1, h2⟩ := rest h
          cases d with
          | false =>
            show VO P ds (o :: l) (some (F, H)) _
            rw [VO_call hc]
            unfold VC
            rw [ha]
            exact h1 rfl
          | true =>
            show VOd P ds (o :: l) (some (F, H)) _
            rw [VOd_step, hc]
            simp only [VCd, ha]
            exact h2 rfl
        · cases h
  | call f args H =>
    simp only [stepE] at h
    split at h
    · rename_i fn hf
      split at h
      · rename_i c hb
        split at h
        · rename_i hq
          simp only [Bool.and_eq_true] at hq
          split at h
          · rename_i e F1 H1 hcode
            have hg := hih _ _ hcode
            split at h
            · rename_i he
              split at h
              · rename_i v hres
                have fin : ∀ v1 H2, Fin H v1 H2 v H1 → CallOk P f args H v1 H2 := fun v1 H2 hfin => by
                  refine CallOk.body hf hb rfl rfl rfl hq.1 hq.2 ((hg H).mono fun e' F' H' hq => ?_)
                  obtain ⟨rfl, rfl, rfl⟩ := hq
                  cases e' with
                  | ret => exact ⟨v, hres, hfin⟩
                  | normal => exact ⟨v, hres, hfin⟩
                  | _ => cases he
                split at h
                · rename_i hH
                  split at h
                  · rename_i v1 hz
                    simp only [Option.some.injEq] at h
                    subst h
                    refine fin v1 H (.inr (.inl ⟨H1.drop H.length, 20, ?_, rfl, hz⟩))
                    have := eqH_sound hH
                    conv => lhs; rw [← List.take_append_drop H.length H1, this]
                  · simp only [Option.some.injEq] at h
                    subst h
                    exact fin v H1 (.inl ⟨rfl, rfl⟩)
                · simp only [Option.some.injEq] at h
                  subst h
                  exact fin v H1 (.inl ⟨rfl, rfl⟩)
              · cases h
            · cases h
          · cases h
        · cases h
      · cases h
    · cases h

theorem evalN_good : ∀ (n : Nat) (t : Task) (r : Res), evalN P n t = some r → Good P t r
  | 0, t, r, h => by cases h
  | n + 1, t, r, h => stepE_good (evalN_good n) t r h
/-- ████ What the evaluator says is a contract, over every heap. ████ -/
theorem CallOk.eval (n : Nat) {f : FuncId} {args : List PV} {v : PV} (h : evalN P n (.call f args []) = some (.val v [])) (hs : ∀ x ∈ args, Scoped 0 x) : CallOk P f args H v H := (evalN_good n _ _ h).frame hs
def isTrue : Option Res → Bool
  | some (.val (.bool true) []) => true
  | _ => false
theorem CallOk.evalT (n : Nat) {f : FuncId} (h : isTrue (evalN P n (.call f [] [])) = true) : CallOk P f [] H (.bool true) H := by
  refine CallOk.eval n ?_ (fun x hx => by cases hx)
  unfold isTrue at h
  split at h
  · rename_i he; exact he
  · cases h

end Go.Proofs.YtahomnplappbpaaGreatDoor.Pm
