/-
  Contracts of chapter 31: the frames of a film, runs, and the plan of a run.
-/
import Derived.Test.YtnjnikafhbholaaQh
import Derived.Test.YtnjnikafhbholaaPn
namespace Go.Proofs.Ytnjnikafhbholaa.Sc
set_option linter.all false
set_option linter.unusedVariables false
set_option linter.unusedSimpArgs false
open Pm Ty Go.RowKit
open Pl (Pa Sh bump lastC bump_snoc lastC_snoc arr sh kd adj st en)

theorem VCj.wr2 {P : Program} {F : Fr} {H : Heap} {dr : Bool} {ids : List Nat} {fp : Fp} {rs : List (Nat × Nat)} {o : Oper} {K : Fr → Heap → Prop} {g : FuncId} {args : List PV} {v : PV} {i j : Nat} {k l A B : Blk} (hi : H[i]? = some k) (hj : H[j]? = some l) (hne : i ≠ j)
    (h : ∀ L : Heap, L[i]? = some k → L[j]? = some l → CallOk P g args L v (tw L i j A B)) (hwi : (atP ids fp.w).elem i = true) (hwj : (atP ids fp.w).elem j = true) (hvi : (atP ids fp.v).elem i = true) (hvj : (atP ids fp.v).elem j = true)
    (hc : pcallee o.op (slot F) = some (g, args)) (hk : K (put F o.dst v) (tw H i j A B)) : VCj P dr ids fp rs o F H K := by
  unfold VCj
  simp only [hc]
  refine ⟨v, tw H i j A B, ?_, hk⟩
  have wi : i ∈ atP ids fp.w := by simpa [List.elem_eq_mem] using hwi
  have wj : j ∈ atP ids fp.w := by simpa [List.elem_eq_mem] using hwj
  have vi : i ∈ atP ids fp.v := by simpa [List.elem_eq_mem] using hvi
  have vj : j ∈ atP ids fp.v := by simpa [List.elem_eq_mem] using hvj
  have upd : ∀ L : Heap, L[i]? = some k → L[j]? = some l → Upd ids fp L (tw L i j A B) := fun L hi hj => by
    have u1 : Upd ids fp L (L.set i A) := Upd.set hi wi (.inr vi)
    have u2 : Upd ids fp (L.set i A) ((L.set i A).set j B) := Upd.set (k := l) (by rw [List.getElem?_set_ne hne]; exact hj) wj (.inr vj)
    exact ⟨by rw [tw_len], fun x hx => (u2.out x hx).trans (u1.out x hx), fun x hx => Eq.trans (u2.ver x hx) (u1.ver x hx)⟩
  cases dr with
  | false => exact h H hi hj
  | true =>
    refine ⟨upd H hi hj, fun L hL => ?_⟩
    have li := (hL.inn i (.inr wi)).trans hi
    have lj := (hL.inn j (.inr wj)).trans hj
    refine ⟨tw L i j A B, by unfold StI; rw [hc]; exact h L li lj, upd L li lj, fun x hx => ?_⟩
    have hlen := hL.len
    have hij : i < H.length ∧ j < H.length := ⟨(List.getElem?_eq_some_iff.1 hi).1, (List.getElem?_eq_some_iff.1 hj).1⟩
    by_cases e2 : x = j
    · subst e2
      rw [tw_1 _ _ _ _ _ (by omega), tw_1 _ _ _ _ _ (by omega)]
    by_cases e1 : x = i
    · subst e1
      rw [tw_0 _ _ _ _ _ ⟨by omega, hne⟩, tw_0 _ _ _ _ _ ⟨by omega, hne⟩]
    unfold tw
    rw [List.getElem?_set_ne (by omega), List.getElem?_set_ne (by omega), List.getElem?_set_ne (by omega), List.getElem?_set_ne (by omega)]
    exact hL.inn x (.inr hx)

/-- A frame of a film, in memory. -/
def soc : Option Sh → List PV
  | some x => [.bool true, .str x.m, .int .i64 x.n, .int .i64 x.k]
  | none => [.bool false, .str [], .int .i64 0, .int .i64 0]
theorem soc_eq (o : Option Sh) : soc o = [.bool o.isSome, .str (Pl.shm o), .int .i64 (Pl.shn o), .int .i64 (kd o)] := by cases o <;> rfl
theorem soc_len (o : Option Sh) : (soc o).length = 4 := by cases o <;> rfl
theorem soc_sc (n : Nat) (o : Option Sh) : ∀ x ∈ soc o, Scoped n x := fun x hx => by
  cases o <;> simp only [soc, List.mem_cons, List.not_mem_nil, or_false] at hx <;> rcases hx with rfl | rfl | rfl | rfl <;> first | exact .bool _ | exact .str _ | exact .int _ _
theorem sol_sc (n : Nat) (l : List (Option Sh)) : ∀ x ∈ l.flatMap soc, Scoped n x := fun x hx => by
  obtain ⟨p, _, h⟩ := List.mem_flatMap.1 hx
  exact soc_sc n p x h
theorem sol_len (l : List (Option Sh)) : (l.flatMap soc).length = l.length * 4 := fm_len soc 4 soc_len l
theorem sh_getD (l : List (Option Sh)) (k : Nat) : l.getD k none = sh l k := by
  unfold sh
  rw [List.getD_eq_getElem?_getD]
  cases l[k]? with
  | none => rfl
  | some x => rfl
theorem sol_at (l : List (Option Sh)) (k : Nat) (h : k < l.length) : ((l.flatMap soc).drop (k * 4)).take 4 = soc (sh l k) := by
  rw [← sh_getD]; exact fm_at soc 4 soc_len none l k h
theorem get_of_take {xs : List PV} {k m j : Nat} {ys : List PV} (h : (xs.drop (k * m)).take m = ys) (hj : j < m) : xs[k * m + j]? = ys[j]? := by
  rw [← h, List.getElem?_take_of_lt hj, List.getElem?_drop]
/-- The parts after k frames of a run that begins at frame a. -/
def qs (l : List (Option Sh)) (t : Nat → Bool) (a : Nat) (ps : List Pa) : Nat → List Pa
  | 0 => ps
  | k + 1 => if t k then addK (qs l t a ps k) ((a + k : Nat) : Int) (Pl.shm (sh l (a + k))) (Pl.shn (sh l (a + k))) (decide (0 < k) && t (k - 1)) else addC (qs l t a ps k) ((a + k : Nat) : Int)

theorem fm_drop {α : Type} (en : α → List PV) (m : Nat) (h : ∀ x, (en x).length = m) : ∀ (l : List α) (a : Nat), (l.flatMap en).drop (a * m) = (l.drop a).flatMap en
  | l, 0 => by simp
  | [], a + 1 => by simp
  | x :: r, a + 1 => by
    rw [List.flatMap_cons, show (a + 1) * m = (en x).length + a * m by rw [h, Nat.succ_mul]; omega, ← List.drop_drop, List.drop_left, fm_drop en m h r a, List.drop_succ_cons]
theorem fm_take {α : Type} (en : α → List PV) (m : Nat) (h : ∀ x, (en x).length = m) : ∀ (l : List α) (a : Nat), (l.flatMap en).take (a * m) = (l.take a).flatMap en
  | l, 0 => by simp
  | [], a + 1 => by simp
  | x :: r, a + 1 => by
    rw [List.flatMap_cons, List.take_succ_cons, List.flatMap_cons, show (a + 1) * m = (en x).length + a * m by rw [h, Nat.succ_mul]; omega, List.take_length_add_append, fm_take en m h r a]
theorem sol_sub (l : List (Option Sh)) (a n : Nat) : ((l.flatMap soc).drop (a * 4)).take (n * 4) = ((l.drop a).take n).flatMap soc := by
  rw [fm_drop soc 4 soc_len, fm_take soc 4 soc_len]
theorem sh_sub (l : List (Option Sh)) (a n k : Nat) (h : k < n) : sh ((l.drop a).take n) k = sh l (a + k) := by
  unfold sh
  rw [List.getElem?_take_of_lt h, List.getElem?_drop]
/-- Bounds of the parts. -/
def PB (B : Nat) (ps : List Pa) : Prop := (∀ p ∈ ps, 0 ≤ p.len ∧ p.len ≤ B) ∧ ps.length ≤ B
theorem PB.bump {B : Nat} {ps : List Pa} (h : PB B ps) : PB (B + 1) (bump ps) := by
  rcases snoc_ex ps with rfl | ⟨q, p, rfl⟩
  · exact ⟨fun p hp => by simp [Pl.bump] at hp, by simp [Pl.bump]⟩
  · rw [bump_snoc]
    have hp := h.1 p (by simp)
    have hl := h.2
    simp only [List.length_append, List.length_cons, List.length_nil] at hl
    refine ⟨fun x hx => ?_, by simp; omega⟩
    rcases List.mem_append.1 hx with hx | hx
    · have := h.1 x (by simp [hx]); omega
    · rw [List.mem_singleton] at hx
      subst hx
      dsimp only
      omega
theorem PB.snoc {B : Nat} {ps : List Pa} {x : Pa} (h : PB B ps) (hx : x.len = 1) : PB (B + 1) (ps ++ [x]) := by
  refine ⟨fun y hy => ?_, by have := h.2; simp; omega⟩
  rcases List.mem_append.1 hy with hy | hy
  · have := h.1 y hy; omega
  · rw [List.mem_singleton] at hy
    rw [hy, hx]; omega
theorem PB.addC {B : Nat} {ps : List Pa} {f : Int} (h : PB B ps) : PB (B + 1) (addC ps f) := by
  unfold Sc.addC
  split
  · exact h.bump
  · exact h.snoc rfl
theorem PB.addK {B : Nat} {ps : List Pa} {f : Int} {m : List UInt8} {n : Int} {j : Bool} (h : PB B ps) : PB (B + 1) (addK ps f m n j) := by
  unfold Sc.addK
  split
  · exact h.bump
  · exact h.snoc rfl
theorem qs_PB (l : List (Option Sh)) (t : Nat → Bool) (a : Nat) (ps : List Pa) {B : Nat} (h : PB B ps) : ∀ k, PB (B + k) (qs l t a ps k)
  | 0 => h
  | k + 1 => by
    simp only [qs]
    split
    · exact (qs_PB l t a ps h k).addK
    · exact (qs_PB l t a ps h k).addC
theorem bump_ne {ps : List Pa} (h : ps ≠ []) : bump ps ≠ [] := by
  rcases snoc_ex ps with rfl | ⟨q, p, rfl⟩
  · exact absurd rfl h
  · rw [bump_snoc]; simp
theorem qs_ne (l : List (Option Sh)) (t : Nat → Bool) (a : Nat) (ps : List Pa) : ∀ k, qs l t a ps (k + 1) ≠ [] := by
  intro k
  induction k with
  | zero =>
    simp only [qs]
    split
    · simp [addK]
    · unfold addC
      split
      · rename_i h
        refine bump_ne fun e => ?_
        rw [e] at h
        simp [lastC] at h
      · simp
  | succ k ih =>
    rw [qs]
    split
    · unfold addK
      split
      · exact bump_ne ih
      · simp
    · unfold addC
      split
      · exact bump_ne ih
      · simp

set_option maxHeartbeats 4000000 in
theorem run_ok (l : List (Option Sh)) (g : Bool) (a e : Nat) (ps : List Pa) (i j : Nat) (H : Heap) (B : Nat) (hi : H[i]? = some (bb j ps.length)) (hj : H[j]? = some (pb ps)) (hne : i ≠ j) (hB : PB B ps) (hBl : B + l.length ≤ 1000000) (hae : a < e) (hel : e ≤ l.length) :
    CallOk Try.prog 90 [.ptr i 0 0, .slice (l.flatMap soc) l.length g, .int .i64 (a : Int), .int .i64 (e : Int)] H (.tup [])
      (tw H i j (bb j (qs l (arr (Pl.tys l a e) (e - a)) a ps (e - a)).length) (pb (qs l (arr (Pl.tys l a e) (e - a)) a ps (e - a)))) := by
  have hil : i < H.length := (List.getElem?_eq_some_iff.1 hi).1
  have hjl : j < H.length := (List.getElem?_eq_some_iff.1 hj).1
  obtain ⟨n, rfl⟩ : ∃ n, e = a + n := ⟨e - a, by omega⟩
  have hn : a + n - a = n := by omega
  rw [hn]
  have hsub := sol_sub l a n
  have hsl := sol_len ((l.drop a).take n)
  have hsat := sol_at ((l.drop a).take n)
  have hln : ((l.drop a).take n).length = n := by simp; omega
  have hss := sh_sub l a n
  have hll := sol_len l
  have hlat := sol_at l
  rw [hln] at hsl hsat
  generalize ((l.drop a).take n) = l' at *
  have hT : (Pl.tys l a (a + n)).length = n := by rw [Pl.tys_len]; omega
  have hTk : ∀ k, k < n → intAt (Pl.tys l a (a + n)) k = kd (sh l (a + k)) := fun k hk => Pl.ty_tys l a (a + n) k (by omega)
  have cpo := fun K => copy_ok (Pl.tys l a (a + n)) false K (by omega)
  rw [hT] at cpo
  generalize Pl.tys l a (a + n) = T at *
  have e1 : ((a + n : Nat) : Int) - (a : Int) = (n : Int) := by omega
  refine CallOk.body (F0 := [(0, .ptr i 0 0), (1, .slice (l.flatMap soc) l.length g), (2, .int .i64 (a : Int)), (3, .int .i64 ((a + n : Nat) : Int))]) Try.func90 rfl Try.ntmps90 Try.results90 rfl (by kernel_rfl) rfl ?_
  (repeat refine PW.seq ?_); refine PW.rg rfl fun K hK => ?_; simp (maxSteps := 3000000) (disch := omega) only [go_sem, ↓reduceIte, reduceCtorEq, pappend, plen, e1]; refine hK _ _ ?_; clear hK K
  (repeat refine PW.seq ?_); refine PW.rg rfl fun K hK => ?_; simp (maxSteps := 3000000) (disch := omega) only [go_sem, ↓reduceIte, reduceCtorEq, pappend, plen, e1, hll, hn, hsub]; refine hK _ _ ?_; clear hK K
  generalize (g && decide (a + n = l.length)) = g'
  simp only [soc_eq] at hsat hlat
  (repeat refine PW.seq ?_); refine PW.block (PW.loop ?_)
  have htk : ∀ k, k < n → T.take (k + 1) = T.take k ++ [intAt T k] := fun k hk => by
    rw [List.take_add_one]
    congr 1
    rw [List.getElem?_eq_getElem (by omega)]
    simp [intAt, hT, hk]
  suffices hl1 : ∀ k : Nat, k ≤ n → PL Try.prog _ _ [(0, .ptr i 0 0), (1, .slice (l.flatMap soc) l.length g), (2, .int .i64 (a : Int)), (8, .msl H.length k 0 k 1 true), (21, .slice (l'.flatMap soc) n g'), (22, .int .i64 (n : Int)), (23, .int .i64 (k : Int))] (H ++ [⟨3, k, is (T.take k)⟩]) _ by
    exact PL.at [0, 1, 2, 8, 21, 22, 23] (hl1 0 (by omega)) rfl rfl
  intro k hk
  induction hd : n - k using Nat.strongRecOn generalizing k with
  | _ d ih =>
    refine PL.round ?_; (repeat refine PW.seq ?_); refine PW.rg rfl fun K hK => ?_; simp (maxSteps := 3000000) (disch := omega) only [go_sem, ↓reduceIte, reduceCtorEq, pappend, plen]; refine hK _ _ ?_; clear hK K
    (repeat refine PW.seq ?_); refine PW.cond (t := _) rfl (fun h => ?_) (fun h => ?_)
    rotate_left
    · have h4 : k = n := by have := of_decide_eq_false h; omega
      subst h4
      refine PW.exit ?_
      rw [List.take_of_length_le (by omega : T.length ≤ k)]
      (repeat refine PW.seq ?_)
      refine PW.view (Vs.trim (F1 := [(0, .ptr i 0 0), (1, .slice (l.flatMap soc) l.length g), (2, .int .i64 (a : Int)), (8, .slice (is T) k false)]) (H1 := H) (fun hh => hh) (Nat.le_refl _) rfl ⟨.id (.ptr hil), .id (sl_scoped (sol_sc _ _)), .id (.int _ _), Fz.mslC (e := 3) (xs := is T) (by omega) (hp0 _ _ _) (by rw [is_len]; omega) (FzC.refl (is_scoped _ _)), trivial⟩) ?_
      (repeat refine PW.seq ?_); refine PW.rg rfl fun K hK => ?_; simp (maxSteps := 3000000) (disch := omega) only [go_sem, ↓reduceIte, reduceCtorEq, pappend, plen]; refine VCx.call (cpo _) rfl ?_; simp (maxSteps := 3000000) (disch := omega) only [go_sem, ↓reduceIte, reduceCtorEq, pappend, plen]; refine hK _ _ ?_; clear hK K
      (repeat refine PW.seq ?_); refine PW.rg rfl fun K hK => ?_; simp (maxSteps := 3000000) (disch := omega) only [go_sem, ↓reduceIte, reduceCtorEq, pappend, plen]; refine hK _ _ ?_; clear hK K
      (repeat refine PW.seq ?_); refine PW.block (PW.loop ?_)
      clear ih hd hsat hsub hsl hss
      have hPB := qs_PB l (arr T k) a ps hB
      have hne' := qs_ne l (arr T k) a ps
      have hstep : ∀ m, qs l (arr T k) a ps (m + 1) = if arr T k m then addK (qs l (arr T k) a ps m) ((a + m : Nat) : Int) (Pl.shm (sh l (a + m))) (Pl.shn (sh l (a + m))) (decide (0 < m) && arr T k (m - 1)) else addC (qs l (arr T k) a ps m) ((a + m : Nat) : Int) := fun m => rfl
      have hq0 : qs l (arr T k) a ps 0 = ps := rfl
      generalize qs l (arr T k) a ps = Q at *
      have hself : tw H i j (bb j ps.length) (pb ps) = H := by unfold tw; rw [set_id hi, set_id hj]
      suffices hl2 : ∀ m : Nat, m ≤ k → PL Try.prog _ _ [(0, .ptr i 0 0), (1, .slice (l.flatMap soc) l.length g), (2, .int .i64 (a : Int)), (11, .slice (fs (rg k (arr T k))) k false), (35, .slice (fs (rg k (arr T k))) k false), (36, .int .i64 (k : Int)), (37, .int .i64 (m : Int))] (tw H i j (bb j (Q m).length) (pb (Q m))) _ by
        refine PL.at [0, 1, 2, 11, 35, 36, 37] (hl2 0 (by omega)) rfl ?_
        rw [hq0, hself]
      intro m hm
      induction hd2 : k - m using Nat.strongRecOn generalizing m with
      | _ d2 ih2 =>
        have hg := tw_0 H i j (bb j (Q m).length) (pb (Q m)) ⟨hil, hne⟩
        have hg' := tw_1 H i j (bb j (Q m).length) (pb (Q m)) hjl
        refine PL.round ?_; (repeat refine PW.seq ?_); refine PW.rg rfl fun K hK => ?_; simp (maxSteps := 3000000) (disch := omega) only [go_sem, ↓reduceIte, reduceCtorEq, pappend, plen]; refine hK _ _ ?_; clear hK K
        (repeat refine PW.seq ?_); refine PW.cond (t := _) rfl (fun h => ?_) (fun h => ?_)
        rotate_left
        · have h5 : m = k := by have := of_decide_eq_false h; omega
          subst h5
          refine PW.exit ?_
          exact ⟨_, rfl, .inl ⟨rfl, rfl⟩⟩
        · have h5 : m < k := by have := of_decide_eq_true h; omega
          have hbd : ∀ L : Heap, L[i]? = some (bb j (Q m).length) → L[j]? = some (pb (Q m)) → BdH L i j (Q m) := fun L a1 a2 => ⟨a1, a2, hne, fun p hp => by have := (hPB m).1 p hp; omega, by have := (hPB m).2; omega⟩
          have hrc := rg_cell k (arr T k) m h5
          have hl6 : (fs (rg k (arr T k))).length = k := by rw [fs_len, rg_len]
          have hst := hstep m
          have e2 : (a : Int) + (m : Int) = ((a + m : Nat) : Int) := by omega
          refine PW.skip ?_; (repeat refine PW.seq ?_); refine PW.block ?_
          (repeat refine PW.seq ?_); refine PW.rg rfl fun K hK => ?_; simp (maxSteps := 3000000) (disch := omega) only [go_sem, ↓reduceIte, reduceCtorEq, pappend, plen, hrc, hl6]; refine hK _ _ ?_; clear hK K
          (repeat refine PW.seq ?_); refine PW.rg rfl fun K hK => ?_; simp (maxSteps := 3000000) (disch := omega) only [go_sem, ↓reduceIte, reduceCtorEq, pappend, plen]; refine hK _ _ ?_; clear hK K
          (repeat refine PW.seq ?_); refine PW.cond (t := _) rfl (fun h => ?_) (fun h => ?_)
          · have h6 : arr T k m = true := by simpa using h
            rw [if_pos h6] at hst
            have hla := hlat (a + m) (by omega)
            have hcb : ∀ L, L[i]? = some (bb j (Q m).length) → L[j]? = some (pb (Q m)) → CallOk Try.prog 127 [.ptr i 0 0, .int .i64 ((a + m : Nat) : Int), .agg [.bool (sh l (a + m)).isSome, .str (Pl.shm (sh l (a + m))), .int .i64 (Pl.shn (sh l (a + m))), .int .i64 (kd (sh l (a + m)))], .bool (decide (0 < m) && arr T k (m - 1))] L (.tup []) (tw L i j (bb j (Q (m + 1)).length) (pb (Q (m + 1)))) := fun L a1 a2 => by
              rw [hst]
              exact copyB_ok _ _ _ _ _ _ _ _ _ _ (hbd L a1 a2) (fun hj1 => by
                cases m with
                | zero => simp at hj1
                | succ m => exact hne' m)
            have hrp : 0 < m → (fs (rg k (arr T k)))[m - 1]? = some (.bool (arr T k (m - 1))) := fun _ => rg_cell k (arr T k) (m - 1) (by omega)
            by_cases hm0 : m = 0
            · subst hm0
              have hd0 : (decide (0 < 0) && arr T k (0 - 1)) = false := rfl
              rw [hd0] at hcb
              simp only [Nat.add_zero] at hla hcb e2
              (repeat refine PW.seq ?_); refine PW.drawi [i, j] [(43, [0, 1]), (0, [0, 1])] [] [] mix (by kernel_rfl) (by simp <;> omega) fun K hK => ?_
              simp (maxSteps := 3000000) (disch := omega) only [go_sem, ↓reduceIte, reduceCtorEq, pappend, plen, e2, hla, hll]
              refine VCj.wr2 hg hg' hne hcb (by simp (maxSteps := 3000000) (disch := omega) only [go_sem, ↓reduceIte, reduceCtorEq, pappend, plen]) (by simp (maxSteps := 3000000) (disch := omega) only [go_sem, ↓reduceIte, reduceCtorEq, pappend, plen]) (by simp (maxSteps := 3000000) (disch := omega) only [go_sem, ↓reduceIte, reduceCtorEq, pappend, plen]) (by simp (maxSteps := 3000000) (disch := omega) only [go_sem, ↓reduceIte, reduceCtorEq, pappend, plen]) rfl ?_
              simp (maxSteps := 3000000) (disch := omega) only [go_sem, ↓reduceIte, reduceCtorEq, pappend, plen]
              refine hK _ _ ?_; clear hK K
              (repeat refine PW.seq ?_); refine PW.rg rfl fun K hK => ?_; simp (maxSteps := 3000000) (disch := omega) only [go_sem, ↓reduceIte, reduceCtorEq, pappend, plen]; refine hK _ _ ?_; clear hK K
              rw [tw_tw _ _ _ _ _ _ _ hne]
              exact PL.at [0, 1, 2, 11, 35, 36, 37] (ih2 (k - (0 + 1)) (by omega) (0 + 1) (by omega) rfl) rfl rfl
            · have hd0 : (decide (0 < m) && arr T k (m - 1)) = arr T k (m - 1) := by simp [show 0 < m by omega]
              rw [hd0] at hcb
              have hrp' := hrp (by omega)
              have e3 : ((m : Int) - 1) = ((m - 1 : Nat) : Int) := by omega
              (repeat refine PW.seq ?_); refine PW.drawi [i, j] [(43, [0, 1]), (0, [0, 1])] [] [] mix (by kernel_rfl) (by simp <;> omega) fun K hK => ?_
              simp (maxSteps := 3000000) (disch := omega) only [go_sem, ↓reduceIte, reduceCtorEq, pappend, plen, e2, e3, hla, hll, hrp', hl6]
              refine VCj.wr2 hg hg' hne hcb (by simp (maxSteps := 3000000) (disch := omega) only [go_sem, ↓reduceIte, reduceCtorEq, pappend, plen]) (by simp (maxSteps := 3000000) (disch := omega) only [go_sem, ↓reduceIte, reduceCtorEq, pappend, plen]) (by simp (maxSteps := 3000000) (disch := omega) only [go_sem, ↓reduceIte, reduceCtorEq, pappend, plen]) (by simp (maxSteps := 3000000) (disch := omega) only [go_sem, ↓reduceIte, reduceCtorEq, pappend, plen]) rfl ?_
              simp (maxSteps := 3000000) (disch := omega) only [go_sem, ↓reduceIte, reduceCtorEq, pappend, plen]
              refine hK _ _ ?_; clear hK K
              (repeat refine PW.seq ?_); refine PW.rg rfl fun K hK => ?_; simp (maxSteps := 3000000) (disch := omega) only [go_sem, ↓reduceIte, reduceCtorEq, pappend, plen]; refine hK _ _ ?_; clear hK K
              rw [tw_tw _ _ _ _ _ _ _ hne]
              exact PL.at [0, 1, 2, 11, 35, 36, 37] (ih2 (k - (m + 1)) (by omega) (m + 1) (by omega) rfl) rfl rfl
          · have h6 : arr T k m = false := by simpa using h
            rw [if_neg (by rw [h6]; decide)] at hst
            have hco : ∀ L, L[i]? = some (bb j (Q m).length) → L[j]? = some (pb (Q m)) → CallOk Try.prog 88 [.ptr i 0 0, .int .i64 ((a + m : Nat) : Int)] L (.tup []) (tw L i j (bb j (Q (m + 1)).length) (pb (Q (m + 1)))) := fun L a1 a2 => by
              rw [hst]
              exact code_ok _ _ _ _ _ (hbd L a1 a2)
            (repeat refine PW.seq ?_); refine PW.rg rfl fun K hK => ?_; simp (maxSteps := 3000000) (disch := omega) only [go_sem, ↓reduceIte, reduceCtorEq, pappend, plen, e2]
            refine VCx.call (hco _ hg hg') rfl ?_; simp (maxSteps := 3000000) (disch := omega) only [go_sem, ↓reduceIte, reduceCtorEq, pappend, plen]
            refine hK _ _ ?_; clear hK K
            (repeat refine PW.seq ?_); refine PW.rg rfl fun K hK => ?_; simp (maxSteps := 3000000) (disch := omega) only [go_sem, ↓reduceIte, reduceCtorEq, pappend, plen]; refine hK _ _ ?_; clear hK K
            rw [tw_tw _ _ _ _ _ _ _ hne]
            exact PL.at [0, 1, 2, 11, 35, 36, 37] (ih2 (k - (m + 1)) (by omega) (m + 1) (by omega) rfl) rfl rfl
    · have h4 : k < n := by have := of_decide_eq_true h; omega
      have hla := hsat k h4
      rw [hss k h4] at hla
      have htk' := htk k h4
      have hTk' := hTk k h4
      refine PW.skip ?_; (repeat refine PW.seq ?_); refine PW.block ?_
      have hit : (is (T.take k)).length = k := by rw [is_len, List.length_take]; omega
      have hnx : is (T.take k) ++ [PV.int .i64 (kd (sh l (a + k)))] = is (T.take (k + 1)) := by
        rw [htk', is_append, hTk']; rfl
      have hnl : (is (T.take (k + 1))).length = k + 1 := by rw [is_len, List.length_take]; omega
      (repeat refine PW.seq ?_); refine PW.rg rfl fun K hK => ?_; simp (maxSteps := 3000000) (disch := omega) only [go_sem, ↓reduceIte, reduceCtorEq, pappend, plen, hla, hsl]; refine hK _ _ ?_; clear hK K
      (repeat refine PW.seq ?_); refine PW.rg rfl fun K hK => ?_; simp (maxSteps := 3000000) (disch := omega) only [go_sem, ↓reduceIte, reduceCtorEq, pappend, plen, hit, hnx, hnl]; refine hK _ _ ?_; clear hK K
      (repeat refine PW.seq ?_); refine PW.rg rfl fun K hK => ?_; simp (maxSteps := 3000000) (disch := omega) only [go_sem, ↓reduceIte, reduceCtorEq, pappend, plen]; refine hK _ _ ?_; clear hK K
      refine PL.view (Vs.trim (F1 := [(0, .ptr i 0 0), (1, .slice (l.flatMap soc) l.length g), (2, .int .i64 (a : Int)), (8, .msl H.length (k + 1) 0 (k + 1) 1 true), (21, .slice (l'.flatMap soc) n g'), (22, .int .i64 (n : Int)), (23, .int .i64 ((k + 1 : Nat) : Int))]) (H1 := H ++ [⟨3, k + 1, is (T.take (k + 1))⟩]) (hsc_snoc (is_scoped _ _)) (by simp) (List.append_assoc _ [_] [_]).symm ?_) (ih (n - (k + 1)) (by omega) (k + 1) (by omega) rfl)
      rw [List.length_append]
      simp only [List.length_cons, List.length_nil]
      exact ⟨.id (.ptr (by omega)), .id (sl_scoped (sol_sc _ _)), .id (.int _ _), .id (.msl (by omega)), .id (sl_scoped (sol_sc _ _)), .id (.int _ _), .id (.int _ _), trivial⟩

end Go.Proofs.Ytnjnikafhbholaa.Sc
