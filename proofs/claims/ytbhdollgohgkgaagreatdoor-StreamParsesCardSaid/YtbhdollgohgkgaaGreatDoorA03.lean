/-
  Parts of the proof. No condition.
-/
import Derived.Test.YtbhdollgohgkgaaGreatDoorA02
import Derived.MapKept
namespace Go.Proofs.YtbhdollgohgkgaaGreatDoor.Pm
set_option linter.all false
set_option linter.unusedVariables false
set_option linter.unusedSimpArgs false
open Go.RowKit

variable {P : Program} {C : Ctx} {H : Heap} {w : World} {F : Nat → PV} {a : Act} {N : Nat}

theorem ascii_rel {n : Int} (h0 : 0 ≤ n) (h1 : n < 128) : VRel C (.str [UInt8.ofNat n.toNat]) (.string (Utf8.encode n)) := by
  have : (Utf8.encode n).data.toList = [UInt8.ofNat n.toNat] := by
    obtain ⟨m, rfl⟩ : ∃ m : Nat, n = m := ⟨n.toNat, by omega⟩
    have hm : m < 128 := by omega
    have hv : Utf8.valid (m : Int) = true := by simp [Utf8.valid]; omega
    unfold Utf8.encode
    simp_all
  rw [← this]
  exact .str _

/-- Two scalars of a type are equal, in the model. -/
theorem peqS_now {d : TypeDesc} {x y : PV} {p q : Value} {r : Bool} (hx : VRel C x p) (hy : VRel C y q) (h : peqS d x y = some r) : Instr.sameNow d p q = some r ∧ (r = true → Instr.sameBits 10000 q p = true) := by
  unfold peqS at h
  split at h
  · rename_i k0 k a k' b
    obtain rfl := inv_int hx
    obtain rfl := inv_int hy
    split at h
    · rename_i hk
      subst hk
      injection h with h
      subst h
      refine ⟨by simp [Instr.sameNow], fun hr => ?_⟩
      simp only [beq_iff_eq] at hr
      subst hr
      simp [Instr.sameBits]
    · cases h
  · rename_i a b
    obtain rfl := inv_bool hx
    obtain rfl := inv_bool hy
    injection h with h
    subst h
    refine ⟨by simp [Instr.sameNow], fun hr => ?_⟩
    simp only [beq_iff_eq] at hr
    subst hr
    simp [Instr.sameBits]
  · rename_i a b
    obtain ⟨s, rfl, rfl⟩ := inv_str hx
    obtain ⟨t, rfl, rfl⟩ := inv_str hy
    injection h with h
    subst h
    have key : (s == t) = (s.data.toList == t.data.toList) := by
      rw [Bool.eq_iff_iff, MapKept.bytes_beq, beq_iff_eq]
      constructor
      · simp_all
      · intro e; cases s; cases t; simp at e; simp [e]
    refine ⟨by simp [Instr.sameNow, key], fun hr => ?_⟩
    rw [← key, MapKept.bytes_beq] at hr
    subst hr
    exact (MapKept.bytes_beq s s).2 rfl
  · cases h

theorem inv_pair {a v : PV} {p q : Value} (h : VRel C (.tup [a, v]) (.tuple #[p, q])) : VRel C a p ∧ VRel C v q := by
  generalize hu : Value.tuple #[p, q] = u at h
  cases h with
  | @tup vs us hl hR =>
    have : us = [p, q] := by
      simp_all
    subst this
    exact ⟨hR 0 a p rfl rfl, hR 1 v q rfl rfl⟩
theorem pair_rel {a v : PV} {p q : Value} (ha : VRel C a p) (hv : VRel C v q) : VRel C (.tup [a, v]) (.tuple #[p, q]) :=
  VRel.tup (us := [p, q]) rfl (fun j x u hx hu => by
    match j with
    | 0 => simp at hx hu; subst hx hu; exact ha
    | 1 => simp at hx hu; subst hx hu; exact hv
    | j + 2 => simp at hx)

theorem pfind_sound {d : TypeDesc} {k : PV} {p : Value} (hk : VRel C k p) : ∀ (xs : List PV) (es : List MapEntry) (i : Nat) (r : Option (Nat × PV)), es.length = xs.length → (∀ (j : Nat) (x : PV) (e : MapEntry), xs[j]? = some x → es[j]? = some e → VRel C x (.tuple #[e.key, e.val])) → pfind d k xs i = some r →
    match r with
    | none => Instr.findNow d p es i = some none
    | some (n, v) => ∃ e, i ≤ n ∧ es[n - i]? = some e ∧ Instr.findNow d p es i = some (some (n, e.val)) ∧ VRel C v e.val ∧ Instr.sameBits 10000 e.key p = true
  | [], [], i, r, _, _, h => by simp only [pfind, Option.some.injEq] at h; subst h; rfl
  | [], _ :: _, _, _, hl, _, _ => by simp at hl
  | _ :: _, [], _, _, hl, _, _ => by simp at hl
  | x :: xs, e :: es, i, r, hl, hR, h => by
    have hsh : (∃ a v, x = .tup [a, v]) ∨ pfind d k (x :: xs) i = none := by
      unfold pfind
      grind
    rcases hsh with ⟨a, v, rfl⟩ | hn
    · simp only [pfind] at h
      obtain ⟨ha, hv⟩ := inv_pair (hR 0 _ e rfl rfl)
      split at h
      · rename_i hq
        obtain ⟨n1, n2⟩ := peqS_now hk ha hq
        injection h with h
        subst h
        exact ⟨e, Nat.le_refl _, by simp, by simp [Instr.findNow, n1], hv, n2 rfl⟩
      · rename_i hq
        obtain ⟨n1, n2⟩ := peqS_now hk ha hq
        have ih := pfind_sound hk xs es (i + 1) r (by simpa using hl) (fun j x e hx he => hR (j + 1) x e (by simpa using hx) (by simpa using he)) h
        cases r with
        | none => simpa [Instr.findNow, n1] using ih
        | some r =>
          obtain ⟨n, v'⟩ := r
          obtain ⟨e', q1, q2, q3, q4, q5⟩ := ih
          refine ⟨e', by omega, ?_, by simpa [Instr.findNow, n1] using q3, q4, q5⟩
          grind
      · cases h
    simp_all

theorem scalT_und {kt : TypeId} {d : TypeDesc} (h : scalT P kt = some d) : P.underlying kt = some d ∧ ((∃ k, d = .int k) ∨ d = .bool ∨ d = .string) := by
  grind [scalT]
theorem check_key {kt : TypeId} {d : TypeDesc} (h : scalT P kt = some d) (e : Bool) (n : Nat) (k : Value) : (Instr.checkKey e (n + 1) kt k).run P w = .ok () w := by
  obtain ⟨hu, hd⟩ := scalT_und h
  unfold Instr.checkKey
  simp only [Sem.run_bind, run_underlying hu, Result.andThen]
  rcases hd with ⟨k', rfl⟩ | rfl | rfl <;> cases k <;> rfl

theorem pmapOf_sound {t : TypeId} {m : PV} {p : Value} {e : TypeId} {d : TypeDesc} {id : Nat} {b : Blk} (hw : WRel C H w) (hm : VRel C m p) (h : pmapOf P H t m = some (e, d, id, b)) (hlp : ∀ l r, b.cells ≠ [.lp l r]) :
    ∃ kt, P.underlying t = some (.map kt e) ∧ scalT P kt = some d ∧ H[id]? = some b ∧ ∃ bb es clock, p = .map (some bb) ∧ C.mu[id]? = some none ∧ C.cp[id]? = some (bb + 1) ∧ w.heap[bb]? = some (.map es clock) ∧ es.size = b.cells.length ∧
      ∀ (j : Nat) (x : PV) (e : MapEntry), b.cells[j]? = some x → es[j]? = some e → VRel C x (.tuple #[e.key, e.val]) := by
  unfold pmapOf at h
  split at h
  · rename_i kt e' id' ver hu
    split at h
    · rename_i d' b' hs hb
      split at h
      · rename_i hv
        simp only [Option.some.injEq, Prod.mk.injEq] at h
        obtain ⟨rfl, rfl, rfl, rfl⟩ := h
        have q := hw.ver _ _ hb
        rw [hv] at q
        obtain ⟨bb, h1, h2, rfl⟩ := inv_mp hw hm q
        rcases hw.gho _ _ hb h1 with ⟨h3, _⟩ | ⟨bb', es, clock, h3, _, h4, h5, h6⟩ | ⟨bb', r, h3, _, _, h4⟩
        · rw [h2] at h3; injection h3 with h3; omega
        · rw [h2] at h3
          injection h3 with h3
          have : bb' = bb := by omega
          subst this
          exact ⟨kt, hu, hs, hb, bb', es, clock, rfl, h1, h2, h4, h5, h6⟩
        · exact absurd h4.1 (hlp _ r)
      · cases h
    · cases h
  · cases h

theorem plook_sound {t : TypeId} {m k v : PV} {p q : Value} {ok : Bool} (hw : WRel C H w) (hm : VRel C m p) (hk : VRel C k q) (h : plook P H t m k ok = some v) : ∃ u, VRel C v u ∧ (Instr.lookup t p q ok).run P w = .ok u w := by
  unfold plook at h
  split at h
  · rename_i e d id b hmap
    obtain ⟨kt, hu, hs, hb, bb, es, clock, rfl, h1, h2, h3, h4, h5⟩ := pmapOf_sound hw hm hmap (fun _ r hr => by simp [hr, pfind] at h)
    obtain ⟨hd, _⟩ := scalT_und hs
    have fs := fun r => pfind_sound (d := d) hk b.cells es.toList 0 r (by simpa using h4) (fun j x e hx he => h5 j x e hx (by simpa using he))
    have hbase : ∀ r, Instr.findNow d q es.toList 0 = some r → (Instr.lookup t (.map (some bb)) q ok).run P w = (do
        let (v, o) ← match r with
          | some (_, v) => pure (v, true)
          | none => do pure (← zeroValue e, false)
        pure (if ok then .tuple #[v, .bool o] else v) : Sem Value).run P w := fun r hr => by
      simp only [Instr.lookup, Sem.run_bind, run_underlying hu, Result.andThen_ok, MapKept.run_getObj_map h3, Sem.run_pure, check_key hs, MapKept.run_findKey hd hr]
      cases r <;> rfl
    split at h
    · rename_i n v' hf
      injection h with h
      subst h
      obtain ⟨e', _, _, q3, q4, _⟩ := fs _ hf
      rw [hbase _ q3]
      cases ok
      · simp_all
      · exact ⟨_, pair_rel q4 (.bool true), by simp⟩
    · rename_i hf
      have q3 := fs _ hf
      rw [hbase _ q3]
      split at h
      · rename_i z hz
        injection h with h
        subst h
        unfold zrT at hz
        cases hi : P.info? e with
        | none => simp [hi] at hz
        | some i =>
          cases hzz : i.zero with
          | none => simp [hi, hzz] at hz
          | some zv =>
            simp only [hi, hzz, Option.bind_some, Option.map_some, Option.some.injEq] at hz
            subst hz
            cases ok
            · exact ⟨zv, pvc_rel zv, by simp [zeroValue, typeInfo, hi, hzz]⟩
            · exact ⟨_, pair_rel (pvc_rel zv) (.bool false), by simp [zeroValue, typeInfo, hi, hzz]⟩
      · cases h
    · cases h
  · cases h

theorem pmset_sound {t : TypeId} {m k v : PV} {p q u : Value} {H' : Heap} (hw : WRel C H w) (hm : VRel C m p) (hk : VRel C k q) (hv : VRel C v u) (h : pmset P H t m k v = some H') :
    ∃ w', WRel C H' w' ∧ Below C.B w w' ∧ (Instr.mapUpdate t p q u).run P w = .ok () w' := by
  unfold pmset at h
  split at h
  · rename_i e d id b hmap
    obtain ⟨kt, hu, hs, hb, bb, es, clock, rfl, h1, h2, h3, h4, h5⟩ := pmapOf_sound hw hm hmap (fun _ r hr => by simp [hr, pfind] at h)
    obtain ⟨hd, _⟩ := scalT_und hs
    have fs := fun r => pfind_sound (d := d) hk b.cells es.toList 0 r (by simpa using h4) (fun j x e hx he => h5 j x e hx (by simpa using he))
    split at h
    · rename_i n v' hf
      injection h with h
      subst h
      obtain ⟨e', _, q2, q3, q4, q5⟩ := fs _ hf
      simp only [Nat.sub_zero, Array.getElem?_toList] at q2
      have hn : n < es.size := (Array.getElem?_eq_some_iff.1 q2).1
      obtain ⟨c1, c2⟩ := hw.mapSet hb h1 h2 h3 (es.modify n fun e => { e with key := q, val := u }) clock (b.cells.set n (.tup [k, v])) (by simpa using h4) (fun j x e hx he => by
        rw [List.getElem?_set] at hx
        rw [Array.getElem?_modify] at he
        split at hx
        · rename_i hj; subst hj
          split at hx
          · injection hx with hx
            subst hx
            simp only [if_true, Option.map_eq_some_iff] at he
            obtain ⟨e0, _, rfl⟩ := he
            exact pair_rel hk hv
          · cases hx
        · rename_i hj
          rw [if_neg hj] at he
          exact h5 j x e hx he)
      refine ⟨_, c1, c2, ?_⟩
      simp only [Instr.mapUpdate, Sem.run_bind, run_underlying hu, Result.andThen_ok, MapKept.run_getObj_map h3, check_key hs, MapKept.run_findKey hd q3, q2, Option.map_some, Option.getD_some, Instr.keyThatStays, q5, if_true, Sem.run_pure, MapKept.run_setObj_map _ h3]
    · rename_i hf
      injection h with h
      subst h
      have q3 := fs _ hf
      obtain ⟨c1, c2⟩ := hw.mapSet hb h1 h2 h3 (es.push { key := q, val := u, born := clock }) (clock + 1) (b.cells ++ [.tup [k, v]]) (by simp [h4]) (fun j x e hx he => by
        rcases snoc_get hx with ⟨hj, hx⟩ | ⟨hj, hx⟩
        · rw [Array.getElem?_push, if_neg (by omega)] at he
          exact h5 j x e hx he
        · subst hx
          rw [Array.getElem?_push, if_pos (by omega)] at he
          injection he with he
          subst he
          exact pair_rel hk hv)
      refine ⟨_, c1, c2, ?_⟩
      simp only [Instr.mapUpdate, Sem.run_bind, run_underlying hu, Result.andThen_ok, MapKept.run_getObj_map h3, check_key hs, MapKept.run_findKey hd q3, MapKept.run_setObj_map _ h3]
    · cases h
  · cases h

end Go.Proofs.YtbhdollgohgkgaaGreatDoor.Pm

namespace Go.Proofs.YtbhdollgohgkgaaGreatDoor.Pm
set_option linter.all false
set_option linter.unusedVariables false
set_option linter.unusedSimpArgs false
open Go.RowKit

variable {P : Program} {C : Ctx} {H : Heap} {w : World} {F : Nat → PV} {a : Act} {N : Nat}

theorem pcopy_sound {t tx ty : TypeId} {d x v : PV} {p q : Value} {H' : Heap} (hw : WRel C H w) (hd : VRel C d p) (hx : VRel C x q) (h : pcopy P H t d x = some (v, H')) :
    ∃ C' u w', CLe C C' ∧ WRel C' H' w' ∧ Below C.B w w' ∧ VRel C' v u ∧ (Builtin.copy_ #[t, tx] ty #[p, q]).run P w = .ok u w' := by
  unfold pcopy at h
  split at h
  · rename_i e hu
    split at h
    · rename_i sz hn
      split at h
      · rename_i id ver off len sz' g
        split at h
        · rename_i k ys n hk hsc
          split at h
          · rename_i hq
            simp only [Option.some.injEq, Prod.mk.injEq] at h
            obtain ⟨rfl, rfl⟩ := h
            obtain ⟨hver, hfit⟩ := hq
            subst hver
            obtain ⟨ad, cap, us, rfl, hcap, hl, hyl, hR, hc, hat⟩ := scells_sound hw hx hsc
            have hgo : (∃ bb dcap off', C.mu[id]? = some (some bb) ∧ p = .slice (some ⟨bb, off', none⟩) len dcap ∧ (0 < len → off' = off)) ∨ ∃ ad, len = 0 ∧ p = .slice ad 0 0 := by
              obtain ⟨bb, dcap, off', q1, rfl, _, _, ho, _⟩ | ⟨ad, _, h0, rfl⟩ := inv_msl hw hd (hw.ver id k hk)
              · exact .inl ⟨bb, dcap, off', q1, rfl, ho⟩
              · exact .inr ⟨ad, h0, rfl⟩
            have hmn : min n len * sz ≤ n * sz := Nat.mul_le_mul_right _ (Nat.min_le_left _ _)
            have hml : min n len * sz ≤ len * sz := Nat.mul_le_mul_right _ (Nat.min_le_right _ _)
            have htl : (ys.take (min n len * sz)).length = min n len * sz := by simp; omega
            have hul : (us.take (min n len * sz)).length = min n len * sz := by simp; omega
            have hfirst : (Builtin.firstCells sz (min n len) (.slice ad n cap)).run P w = .ok (us.take (min n len * sz)).toArray w := by
              rcases hat with ⟨rfl, rfl⟩ | ⟨b, o, rfl, hat⟩
              · have e0 : min 0 len = 0 := Nat.zero_min len
                rw [e0]
                simpa using first_of (P := P) (w := w) (sz := sz) (n := 0) (cap := cap) (ad := ad) (us := []) (by simp) (.inl ⟨rfl, rfl⟩)
              · exact run_firstCells_some w sz (min n len) ⟨b, o, none⟩ n cap _ hul (fun j v hv => by rw [Addr.add_lit]; exact (hat.take _) j v hv)
            have hcc : ∀ x ∈ ys.take (min n len * sz), x.cell = true := fun x hx => hc x (List.mem_of_mem_take hx)
            rcases Nat.eq_zero_or_pos len with h0 | h0
            · subst h0
              have hp : ∃ base dcap, p = .slice base 0 dcap := by
                rcases hgo with ⟨bb, dcap, off', _, rfl, _⟩ | ⟨ad, _, rfl⟩
                · exact ⟨_, _, rfl⟩
                · exact ⟨_, _, rfl⟩
              obtain ⟨base, dcap, rfl⟩ := hp
              simp only [Nat.min_zero, Nat.zero_mul, List.take_zero] at *
              have hsp : splice k.cells off [] = k.cells := by simp [splice]
              rw [hsp]
              have hset : H.set id ⟨k.e, k.ver, k.cells⟩ = H := by
                apply List.ext_getElem?
                intro j
                rw [List.getElem?_set]
                split
                · rename_i hj; subst hj; split
                  · rw [hk]
                  · rename_i hj2; exact absurd (List.getElem?_eq_some_iff.1 hk).1 hj2
                · rfl
              rw [hset]
              refine ⟨C, _, w, .refl _, hw, .refl _ _, .int _ _, ?_⟩
              cases base <;> simp [Builtin.copy_, run_underlying hu, Builtin.lenOf, szT_run hn, hfirst, storeCells, goInt]
            · obtain ⟨bb, dcap, off', q1, rfl, ho⟩ | ⟨ad, h1, _⟩ := hgo
              rotate_left
              · omega
              obtain ⟨cur, q3, q5, q6, q7, q8, q9, q10⟩ := hw.blk hk q1
              obtain rfl := ho h0
              obtain ⟨C', w', c1, c2, c3, c4⟩ := hw.store (P := P) (off := off') hk q1 q5 (ys.take (min n len * sz)) (us.take (min n len * sz)) (by rw [hul, htl]) hcc (hR.take _) (by rw [htl]; omega)
              refine ⟨C', _, w', c1, c2, c3, .int _ _, ?_⟩
              have hmin : Nat.min n len = min n len := rfl
              simp [Builtin.copy_, run_underlying hu, Builtin.lenOf, szT_run hn, hmin, hfirst, c4, goInt]
          · cases h
        · cases h
      · rename_i xs full
        split at h
        · rename_i c hsc
          simp only [Option.some.injEq, Prod.mk.injEq] at h
          obtain ⟨rfl, rfl⟩ := h
          obtain ⟨ys, n⟩ := c
          obtain ⟨ad, cap, us, rfl, hcap, hl, hyl, hR, hc, hat⟩ := scells_sound hw hx hsc
          have hp : ∃ base dcap, p = .slice base 0 dcap := by
            cases hd with
            | slice => exact ⟨_, _, rfl⟩
            | sliceN => exact ⟨_, _, rfl⟩
          obtain ⟨base, dcap, rfl⟩ := hp
          refine ⟨C, _, w, .refl _, hw, .refl _ _, .int _ _, ?_⟩
          have hfirst : (Builtin.firstCells sz 0 (.slice ad n cap)).run P w = .ok #[] w := by
            rcases hat with ⟨rfl, rfl⟩ | ⟨b, o, rfl, hat⟩
            · exact first_of (w := w) (us := []) (by simp) (.inl ⟨rfl, rfl⟩)
            · exact run_firstCells_some w sz 0 ⟨b, o, none⟩ n cap [] (by simp) (fun j v hv => by simp at hv)
          have hmin : Nat.min n 0 = 0 := Nat.min_zero n
          cases base <;> simp [Builtin.copy_, run_underlying hu, Builtin.lenOf, szT_run hn, hmin, hfirst, goInt, storeCells]
        · cases h
      · cases h
    · cases h
  · cases h

theorem plen_sound {t ty : TypeId} {x v : PV} {q : Value} (hw : WRel C H w) (hx : VRel C x q) (h : plen P H t x = some v) : ∃ u, VRel C v u ∧ (Builtin.len_ #[t] ty #[q]).run P w = .ok u w := by
  unfold plen at h
  split at h
  · rename_i s hu
    injection h with h
    subst h
    obtain ⟨s', rfl, rfl⟩ := inv_str hx
    have hsz : s'.size = s'.data.toList.length := by rfl
    refine ⟨_, .int _ _, ?_⟩
    rw [← hsz]
    simp [Builtin.len_, run_underlying hu, goInt]
  · rename_i n e hu
    injection h with h
    subst h
    exact ⟨_, .int _ _, by simp [Builtin.len_, run_underlying hu, goInt]⟩
  · rename_i e xs n full hu
    injection h with h
    subst h
    refine ⟨_, .int _ _, ?_⟩
    cases hx <;> simp [Builtin.len_, run_underlying hu, goInt]
  · rename_i e id ver off n sz g hu
    split at h
    · rename_i hlv
      injection h with h
      subst h
      obtain ⟨b, cap, off', hb', rfl, _⟩ | ⟨ad, _, h0, rfl⟩ := inv_msl hw hx (live_vs hw hlv).1
      · exact ⟨_, .int _ _, by simp [Builtin.len_, run_underlying hu, goInt]⟩
      · subst h0; exact ⟨_, .int _ _, by simp [Builtin.len_, run_underlying hu, goInt]⟩
    · cases h
  · cases h

theorem pfold_sound {f : PV → PV → Option PV} {g : Value → Value → Sem Value} (hf : ∀ x y z p q, VRel C x p → VRel C y q → f x y = some z → ∃ u, VRel C z u ∧ (g p q).run P w = .ok u w) :
    ∀ (xs : List PV) (us : List Value) (x v : PV) (p : Value), VRels C xs us → VRel C x p → pfold f x xs = some v → ∃ u, VRel C v u ∧ (us.foldlM g p).run P w = .ok u w
  | [], us, x, v, p, hr, hx, h => by
    have : us = [] := List.eq_nil_of_length_eq_zero (by simpa using hr.1)
    simp_all [pfold, Option.some.injEq]
  | y :: ys, [], x, v, p, hr, _, _ => by simp [VRels] at hr
  | y :: ys, u :: us, x, v, p, hr, hx, h => by
    simp only [pfold] at h
    split at h
    · rename_i z hz
      obtain ⟨u', hu', hr'⟩ := hf x y z p u hx (hr.2 0 y u rfl rfl) hz
      obtain ⟨v', hv', hrv⟩ := pfold_sound hf ys us z v u' ⟨by simpa using hr.1, fun j x u hx hu => hr.2 (j + 1) x u (by simpa using hx) (by simpa using hu)⟩ hu' h
      simp_all
    · cases h

theorem pmin_sound (x y z : PV) (p q : Value) (hx : VRel C x p) (hy : VRel C y q) (h : pmin x y = some z) : ∃ u, VRel C z u ∧ (Builtin.min2 p q).run P w = .ok u w := by
  unfold pmin at h
  split at h
  · obtain rfl := inv_int hx
    obtain rfl := inv_int hy
    injection h with h
    subst h
    exact ⟨_, .int _ _, by simp [Builtin.min2]⟩
  · cases h
theorem pmax_sound (x y z : PV) (p q : Value) (hx : VRel C x p) (hy : VRel C y q) (h : pmax x y = some z) : ∃ u, VRel C z u ∧ (Builtin.max2 p q).run P w = .ok u w := by
  unfold pmax at h
  split at h
  · obtain rfl := inv_int hx
    obtain rfl := inv_int hy
    injection h with h
    subst h
    exact ⟨_, .int _ _, by simp [Builtin.max2]⟩
  · cases h

/-! ### []byte to string -/
theorem pbytes_ints : ∀ (xs : List PV) (s : List UInt8), pbytes xs = some s → ∃ ns : List Int, xs = ns.map (PV.int .u8) ∧ s = ns.map fun n => UInt8.ofNat n.toNat
  | [], s, h => by simp_all [pbytes]
  | x :: xs, s, h => by
    simp only [pbytes, List.mapM_cons, Option.bind_eq_bind, Option.pure_def, Option.bind_eq_some_iff, Option.some.injEq] at h
    obtain ⟨b, hb, s', hs', rfl⟩ := h
    obtain ⟨ns, rfl, rfl⟩ := pbytes_ints xs s' hs'
    unfold byteOf at hb
    split at hb
    · rename_i n
      injection hb with hb
      subst hb
      exact ⟨n :: ns, rfl, rfl⟩
    · cases hb

theorem foldl_push : ∀ (ns : List Int) (s : ByteArray), (ns.foldl (fun r n => r.push (UInt8.ofNat n.toNat)) s).data.toList = s.data.toList ++ ns.map fun n => UInt8.ofNat n.toNat
  | [], s => by simp
  | n :: ns, s => by
    rw [List.foldl_cons, foldl_push ns]
    simp_all

theorem rel_ints : ∀ (ns : List Int) (us : List Value), us.length = ns.length → Rel C (ns.map (PV.int .u8)) us → us = ns.map (Value.int .u8)
  | [], us, h, _ => List.eq_nil_of_length_eq_zero (by simpa using h)
  | n :: ns, [], h, _ => by simp at h
  | n :: ns, u :: us, h, hr => by
    have h0 := inv_int (hr 0 _ u rfl rfl)
    subst h0
    rw [rel_ints ns us (by simpa using h) (fun j x u hx hu => hr (j + 1) x u (by simpa using hx) (by simpa using hu))]
    rfl

theorem pconv_sound {src dst : TypeId} {x v : PV} {q : Value} (hw : WRel C H w) (hx : VRel C x q) (h : pconv P H src dst x = some v) : ∃ u, VRel C v u ∧ (convert src dst q).run P w = .ok u w := by
  unfold pconv at h
  split at h
  · rename_i d k kk n hs hd
    injection h with h
    subst h
    obtain rfl := inv_int hx
    exact ⟨_, .int _ _, by simp [convert, run_underlying hs, run_underlying hd, Conv.intToInt]⟩
  · rename_i d s hs hd
    injection h with h
    subst h
    obtain ⟨s', rfl, rfl⟩ := inv_str hx
    exact ⟨_, .str _, by simp [convert, run_underlying hs, run_underlying hd]⟩
  · rename_i d k n hs hd
    split at h
    · rename_i hn
      injection h with h
      subst h
      obtain rfl := inv_int hx
      refine ⟨_, ascii_rel hn.1 hn.2, by simp [convert, run_underlying hs, run_underlying hd, Conv.intToString]⟩
    · cases h
  · rename_i e hs hd _ _
    split at h
    · rename_i he
      simp only [Option.bind_eq_some_iff, Option.map_eq_some_iff] at h
      obtain ⟨⟨ys, n⟩, hsc, s, hb, rfl⟩ := h
      obtain ⟨ad, cap, us, rfl, hcap, hl, hyl, hR, hc, hat⟩ := scells_sound hw hx hsc
      obtain ⟨ns, hys, rfl⟩ := pbytes_ints ys s hb
      subst hys
      have hus := rel_ints ns us (by simpa using hl) hR
      subst hus
      rw [run_convert_bytes_string w src dst e ad n cap hs he hd]
      rcases hat with ⟨rfl, h3⟩ | ⟨b, o, rfl, hat⟩
      · have hns : ns = [] := by simp_all
        subst hns
        refine ⟨.string .empty, VRel.str (C := C) ByteArray.empty, ?_⟩
        cases ad with
        | none => simp [Conv.bytesToString]
        | some a => exact run_bytesToString w a 0 cap [] rfl
      · have hld := hat.load (P := P)
        rw [show (ns.map (Value.int .u8)).length = n by simp at hyl ⊢; omega] at hld
        refine ⟨_, ?_, run_bytesToString w ⟨b, o, none⟩ n cap ns hld⟩
        have := VRel.str (C := C) (ns.foldl (fun r n => r.push (UInt8.ofNat n.toNat)) ByteArray.empty)
        simp_all [foldl_push]
    · cases h
  · cases h

theorem pnilcmp_sound {op : BinOp} {t : TypeId} {x v : PV} (X Y : Operand) (hw : WRel C H w) (hx : VRel C x (a.eval X)) (hy : isNilSl Y = true) (h : pnilcmp P H op t x = some v) :
    ∃ u, VRel C v u ∧ (do eqGuard op t X Y (a.eval X) (a.eval Y); binOp op t (a.eval X) (a.eval Y) : Sem Value).run P w = .ok u w := by
  have hY : a.eval Y = .slice none 0 0 := by
    cases Y with
    | const c =>
      simp only [isNilSl] at hy
      unfold isNilV at hy
      split at hy
      · simp only [Bool.and_eq_true] at hy
        rw [Nat.eq_of_beq_eq_true hy.1, Nat.eq_of_beq_eq_true hy.2]
        rfl
      · cases hy
    | _ => simp [isNilSl] at hy
  rw [hY]
  generalize a.eval X = p at hx ⊢
  unfold pnilcmp at h
  split at h
  · rename_i e hu
    have key : ∃ ad l c, p = .slice (some ad) l c ∧ peq op false = some v := by
      split at h
      · split at h
        · rename_i n f hn
          cases hx with
          | slice => exact ⟨_, _, _, rfl, h⟩
          | sliceN => omega
        · cases h
      · split at h
        · rename_i id ver off n sz g hn
          obtain ⟨b, cap, off', hb', rfl, _⟩ | ⟨ad, _, h0, rfl⟩ := inv_msl hw hx (live_vs hw hn.2).1
          all_goals simp_all
        · cases h
      · cases h
    obtain ⟨ad, l, c, rfl, hp⟩ := key
    have heqn : ∀ n, (Op.equalIn (n + 1) t (.slice (some ad) l c) (.slice none 0 0)).run P w = .ok false w := fun n => by
      unfold Op.equalIn
      simp only [Sem.run_bind, run_underlying hu, Result.andThen_ok]
      rfl
    have heq : (Op.equal t (.slice (some ad) l c) (.slice none 0 0)).run P w = .ok false w := heqn 9999
    obtain ⟨u, hu', hr⟩ := peq_sound (P := P) (C := C) (w := w) hp heq (fun o ho => by rcases ho with rfl | rfl <;> rfl)
    refine ⟨u, hu', ?_⟩
    have hg : (eqGuard op t X Y (.slice (some ad) l c) (.slice none 0 0)).run P w = .ok () w := by
      cases op <;> simp [eqGuard]
    rw [Sem.run_bind, hg, Result.andThen_ok, hr]
  · cases h

theorem pnil_sound {x v : PV} {o : Oper} {X : Operand} (hw : WRel C H w) (hx : VRel C x (a.eval X)) (ho : o.op = .nilCheck X) (h : pnil H x = some v) : OpOk P o a w C v H := by
  unfold pnil at h
  split at h
  · rename_i id ver off
    split at h
    · rename_i hlv
      injection h with h
      subst h
      obtain ⟨b, hb, he⟩ := inv_ptr hw hx (live_vs hw hlv).1
      exact .pure hw hx (by simp [execOp, ho, he])
    · cases h
  · injection h with h
    subst h
    refine .pure hw hx ?_
    generalize hq : a.eval X = u at hx ⊢
    cases hx
    simp [execOp, ho, hq]
  · injection h with h
    subst h
    refine .pure hw hx ?_
    generalize hq : a.eval X = u at hx ⊢
    cases hx
    simp [execOp, ho, hq]
  · cases h

theorem pbuiltin_sound {b : Builtin} {ts : Array TypeId} {args : Array Operand} {v : PV} {H' : Heap} {o : Oper} (hw : WRel C H w) (hF : FRel C N F a) (ho : o.op = .call { callee := .builtin b, args := args, argTypes := ts })
    (h : pbuiltin P H b ts.toList (args.toList.map (ev F)) = some (v, H')) : OpOk P o a w C v H' := by
  have hargs := evs_rel hF args.toList
  have hex : ∀ (s : Sem Value), (∀ cs, builtin b ts o.type cs (args.map a.eval) = (do pure (.value (← s)))) → (execOp a.eval o).run P w = (s.run P w).andThen fun u w' => .ok (.value u) w' := fun s hs => by
    simp only [execOp, ho, resolve, invoke, Sem.run_bind, Sem.run_pure, Result.andThen_ok, hs]
  unfold pbuiltin at h
  generalize hts : ts.toList = tl at h
  generalize hal : args.toList.map (ev F) = al at h hargs
  have hts' : ts = tl.toArray := by rw [← hts]
  have hav : args.map a.eval = (args.toList.map a.eval).toArray := by grind
  generalize args.toList.map a.eval = vl at hargs hav
  split at h
  · rename_i t x
    simp only [Option.map_eq_some_iff, Prod.mk.injEq] at h
    obtain ⟨v', hv', rfl, rfl⟩ := h
    match vl, hargs with
    | [q], hargs =>
      obtain ⟨u, hu, hr⟩ := plen_sound (ty := o.type) hw (hargs.2 0 x q rfl rfl) hv'
      exact .pure hw hu (by rw [hex (Builtin.len_ ts o.type (args.map a.eval)) (fun _ => rfl), hts', hav, hr]; rfl)
    | [], hargs => simp [VRels] at hargs
    | _ :: _ :: _, hargs => simp [VRels] at hargs
  · rename_i t tx s x
    match vl, hargs with
    | [p, q], hargs =>
      obtain ⟨C', u, w', c1, c2, c3, c4, hr⟩ := pappend_sound (ty := o.type) hw (hargs.2 0 s p rfl rfl) (hargs.2 1 x q rfl rfl) h
      exact ⟨C', u, w', c1, c2, c3, c4, .inl (by rw [hex (Builtin.append_ ts o.type (args.map a.eval)) (fun _ => rfl), hts', hav, hr]; rfl)⟩
    | [], hargs => simp [VRels] at hargs
    | [_], hargs => simp [VRels] at hargs
    | _ :: _ :: _ :: _, hargs => simp [VRels] at hargs
  · rename_i t tx s x
    match vl, hargs with
    | [p, q], hargs =>
      obtain ⟨C', u, w', c1, c2, c3, c4, hr⟩ := pcopy_sound (tx := tx) (ty := o.type) hw (hargs.2 0 s p rfl rfl) (hargs.2 1 x q rfl rfl) h
      exact ⟨C', u, w', c1, c2, c3, c4, .inl (by rw [hex (Builtin.copy_ ts o.type (args.map a.eval)) (fun _ => rfl), hts', hav, hr]; rfl)⟩
    | [], hargs => simp [VRels] at hargs
    | [_], hargs => simp [VRels] at hargs
    | _ :: _ :: _ :: _, hargs => simp [VRels] at hargs
  · rename_i x r
    simp only [Option.map_eq_some_iff, Prod.mk.injEq] at h
    obtain ⟨v', hv', rfl, rfl⟩ := h
    match vl, hargs with
    | q :: us, hargs =>
      obtain ⟨u, hu, hr⟩ := pfold_sound (P := P) (w := w) pmin_sound r us x _ q ⟨by simpa using hargs.1, fun j x u hx hu => hargs.2 (j + 1) x u (by simpa using hx) (by simpa using hu)⟩ (hargs.2 0 x q rfl rfl) hv'
      exact .pure hw hu (by rw [hex (Builtin.min_ ts o.type (args.map a.eval)) (fun _ => rfl), hav]; simp [Builtin.min_, hr])
    | [], hargs => simp [VRels] at hargs
  · rename_i x r
    simp only [Option.map_eq_some_iff, Prod.mk.injEq] at h
    obtain ⟨v', hv', rfl, rfl⟩ := h
    match vl, hargs with
    | q :: us, hargs =>
      obtain ⟨u, hu, hr⟩ := pfold_sound (P := P) (w := w) pmax_sound r us x _ q ⟨by simpa using hargs.1, fun j x u hx hu => hargs.2 (j + 1) x u (by simpa using hx) (by simpa using hu)⟩ (hargs.2 0 x q rfl rfl) hv'
      exact .pure hw hu (by rw [hex (Builtin.max_ ts o.type (args.map a.eval)) (fun _ => rfl), hav]; simp [Builtin.max_, hr])
    | [], hargs => simp [VRels] at hargs
  · cases h

theorem orel_ev (hF : FRel C N F a) (x : Option Operand) : ORel C (x.map (ev F)) (x.map a.eval) := by
  cases x with
  | none => trivial
  | some x => exact ev_rel hF x

/-- ████ EVERY OPERATION DOES WHAT 'pop' SAYS. ████ -/
theorem pop_sound {o : Oper} {v : PV} {H' : Heap} (hw : WRel C H w) (hF : FRel C N F a) (h : pop P o.op F H = some (v, H')) : OpOk P o a w C v H' := by
  unfold pop at h
  split at h
  case h_1 x ho => simp only [Option.some.injEq, Prod.mk.injEq] at h; obtain ⟨rfl, rfl⟩ := h; exact .pure hw (ev_rel hF x) (by simp [execOp, ho])
  case h_2 x ho => simp only [Option.some.injEq, Prod.mk.injEq] at h; obtain ⟨rfl, rfl⟩ := h; exact .pure hw (ev_rel hF x) (by simp [execOp, ho])
  case h_3 c x y ho =>
    have hc := ev_rel hF c
    have hx := ev_rel hF x
    have hy := ev_rel hF y
    split at h
    · rename_i t p q ec ex ey
      simp only [Option.some.injEq, Prod.mk.injEq] at h
      obtain ⟨rfl, rfl⟩ := h
      rw [ec] at hc
      rw [ex] at hx
      rw [ey] at hy
      have hc' := inv_bool hc
      have hx' := inv_bool hx
      have hy' := inv_bool hy
      refine .pure hw (.bool _) ?_
      cases t <;> simp [execOp, ho, asBool, hc', hx', hy']
    · rename_i t ec _
      simp only [Option.some.injEq, Prod.mk.injEq] at h
      obtain ⟨rfl, rfl⟩ := h
      rw [ec] at hc
      have hc' := inv_bool hc
      cases t
      · exact .pure hw hy (by simp [execOp, ho, asBool, hc'])
      · exact .pure hw hx (by simp [execOp, ho, asBool, hc'])
    · cases h
  case h_4 elem x ho =>
    split at h
    · rename_i hall
      simp only [Option.some.injEq, Prod.mk.injEq] at h
      obtain ⟨rfl, rfl⟩ := h
      obtain ⟨hr, hl⟩ := cells_rel hall (ev_rel hF x)
      obtain ⟨c1, c2, c3⟩ := hw.allocOwn (a.eval x).cells elem (ev F x).cells 0 (fun x hx => List.all_eq_true.1 hall x hx) (by rw [← hl]; simp) (fun j x u hx hu => hr j x u hx (by simpa using hu))
      refine ⟨_, .pointer (some ⟨w.heap.size, 0, none⟩), _, c1, c2, c3, .ptr (by simp [Ctx.more, ← hw.len]) (by simp [Ctx.more, ← hw.lenv]), .inl ?_⟩
      simp [execOp, ho, Instr.box, newVar, newRow]
    · cases h
  case h_5 elem ho =>
    simp only [Option.map_eq_some_iff, Prod.mk.injEq] at h
    obtain ⟨z, hz, rfl, rfl⟩ := h
    obtain ⟨i, zv, hi, hzv, hzr, hzl, hzc⟩ := zcells_of hz
    obtain ⟨c1, c2, c3⟩ := hw.allocOwn zv.cells elem z 0 hzc (by rw [← hzl]; simp) (fun j x u hx hu => hzr C j x u hx (by simpa using hu))
    refine ⟨_, .pointer (some ⟨w.heap.size, 0, none⟩), _, c1, c2, c3, .ptr (by simp [Ctx.more, ← hw.len]) (by simp [Ctx.more, ← hw.lenv]), .inl ?_⟩
    simp [execOp, ho, Instr.alloc, newVar, newRow, zeroValue, typeInfo, hi, hzv]
  case h_6 t parts ho =>
    simp only [Option.map_eq_some_iff, Prod.mk.injEq] at h
    obtain ⟨v', hv', rfl, rfl⟩ := h
    obtain ⟨hl, hp⟩ := parts_rel hF parts
    obtain ⟨u, hu, hr⟩ := pbuild_sound (P := P) (w := w) hl hp hv'
    exact .pure hw hu (by simp only [execOp, ho, Sem.run_bind, hr, Result.andThen_ok, Sem.run_pure])
  case h_7 t len parts ho =>
    simp only [Option.map_eq_some_iff, Prod.mk.injEq] at h
    obtain ⟨v', hv', rfl, rfl⟩ := h
    obtain ⟨hl, hp⟩ := parts_rel hF parts
    obtain ⟨C', u, w', c1, c2, c3, c4, hr⟩ := pbuildSlice_sound (P := P) hw hl hp hv'
    exact ⟨C', u, w', c1, c2, c3, c4, .inl (by simp only [execOp, ho, Sem.run_bind, hr, Result.andThen_ok, Sem.run_pure])⟩
  case h_8 t x ho =>
    simp only [Option.map_eq_some_iff, Prod.mk.injEq] at h
    obtain ⟨v', hv', rfl, rfl⟩ := h
    obtain ⟨u, hu, hr⟩ := pload_sound (P := P) hw (ev_rel hF x) hv'
    exact .pure hw hu (by simp only [execOp, ho, Sem.run_bind, hr, Result.andThen_ok, Sem.run_pure])
  case h_9 t x y ho =>
    simp only [Option.map_eq_some_iff, Prod.mk.injEq] at h
    obtain ⟨H2, hv', rfl, rfl⟩ := h
    obtain ⟨C', w', c1, c2, c3, hr⟩ := pstore_sound (P := P) hw (ev_rel hF x) (ev_rel hF y) hv'
    exact ⟨C', _, w', c1, c2, c3, .undefV, .inr ⟨by simp only [execOp, ho, Sem.run_bind, hr, Result.andThen_ok, Sem.run_pure], rfl⟩⟩
  case h_10 x ho =>
    simp only [Option.map_eq_some_iff, Prod.mk.injEq] at h
    obtain ⟨v', hv', rfl, rfl⟩ := h
    exact pnil_sound hw (ev_rel hF x) ho hv'
  case h_11 op t x y t' ho =>
    split at h
    · rename_i hnil
      simp only [Option.map_eq_some_iff, Prod.mk.injEq] at h
      obtain ⟨v', hv', rfl, rfl⟩ := h
      obtain ⟨u, hu, hr⟩ := pnilcmp_sound (P := P) x y hw (ev_rel hF x) hnil hv'
      exact .pure hw hu (by simp only [execOp, ho]; rw [Sem.run_bind, hr]; rfl)
    split at h
    · rename_i xs ys hxe hye
      simp only [Option.map_eq_some_iff, Prod.mk.injEq] at h
      obtain ⟨v', hv', rfl, rfl⟩ := h
      obtain ⟨u, hu, hr⟩ := peqG_sound (P := P) (w := w) x y (hxe ▸ ev_rel hF x) (hye ▸ ev_rel hF y) hv'
      exact .pure hw hu (by simp only [execOp, ho]; rw [Sem.run_bind, hr]; rfl)
    · simp only [Option.map_eq_some_iff, Prod.mk.injEq] at h
      obtain ⟨v', hv', rfl, rfl⟩ := h
      obtain ⟨u, hu, hr⟩ := pbin_sound (P := P) x y hw (ev_rel hF x) (ev_rel hF y) hv'
      exact .pure hw hu (by simp only [execOp, ho]; rw [Sem.run_bind, hr]; rfl)
  case h_12 op t x ho =>
    simp only [Option.map_eq_some_iff, Prod.mk.injEq] at h
    obtain ⟨v', hv', rfl, rfl⟩ := h
    obtain ⟨u, hu, hr⟩ := pun_sound (P := P) (w := w) (ev_rel hF x) hv'
    exact .pure hw hu (by simp only [execOp, ho, Sem.run_bind, hr, Result.andThen_ok, Sem.run_pure])
  case h_13 src dst x ho =>
    simp only [Option.map_eq_some_iff, Prod.mk.injEq] at h
    obtain ⟨v', hv', rfl, rfl⟩ := h
    obtain ⟨u, hu, hr⟩ := pconv_sound (P := P) hw (ev_rel hF x) hv'
    exact .pure hw hu (by simp only [execOp, ho, Sem.run_bind, hr, Result.andThen_ok, Sem.run_pure])
  case h_14 f first captured ho =>
    simp only [Option.some.injEq, Prod.mk.injEq] at h
    obtain ⟨rfl, rfl⟩ := h
    obtain ⟨hl1, hr1⟩ := evs_rel hF first.toList
    obtain ⟨hl2, hr2⟩ := evs_rel hF captured.toList
    refine .pure hw (.func hl1 hl2 hr1 hr2) ?_
    simp only [execOp, ho, Instr.makeFunc, Sem.run_bind, Sem.run_pure, Result.andThen_ok]
    congr 3
    all_goals grind
  case h_15 t l c ho =>
    obtain ⟨C', u, w', c1, c2, c3, c4, hr⟩ := pmake_sound (P := P) hw (ev_rel hF l) (ev_rel hF c) h
    exact ⟨C', u, w', c1, c2, c3, c4, .inl (by simp only [execOp, ho, Sem.run_bind, hr, Result.andThen_ok, Sem.run_pure])⟩
  case h_16 t x lo hi mx ho =>
    simp only [Option.map_eq_some_iff, Prod.mk.injEq] at h
    obtain ⟨v', hv', rfl, rfl⟩ := h
    obtain ⟨u, hu, hr⟩ := pslice_sound (P := P) hw (ev_rel hF x) (orel_ev hF lo) (orel_ev hF hi) (orel_ev hF mx) hv'
    exact .pure hw hu (by simp only [execOp, ho, Sem.run_bind, hr, Result.andThen_ok, Sem.run_pure])
  case h_17 s x f ho =>
    simp only [Option.map_eq_some_iff, Prod.mk.injEq] at h
    obtain ⟨v', hv', rfl, rfl⟩ := h
    obtain ⟨u, hu, hr⟩ := pfieldAddr_sound (P := P) hw (ev_rel hF x) hv'
    exact .pure hw hu (by simp only [execOp, ho, Sem.run_bind, hr, Result.andThen_ok, Sem.run_pure])
  case h_18 s x f ho =>
    simp only [Option.map_eq_some_iff, Prod.mk.injEq] at h
    obtain ⟨v', hv', rfl, rfl⟩ := h
    obtain ⟨u, hu, hr⟩ := pfield_sound (P := P) (w := w) (ev_rel hF x) hv'
    exact .pure hw hu (by simp only [execOp, ho, Sem.run_bind, hr, Result.andThen_ok, Sem.run_pure])
  case h_19 t x i ho =>
    simp only [Option.map_eq_some_iff, Prod.mk.injEq] at h
    obtain ⟨v', hv', rfl, rfl⟩ := h
    obtain ⟨u, hu, hr⟩ := pindexAddr_sound (P := P) hw (ev_rel hF x) (ev_rel hF i) hv'
    exact .pure hw hu (by simp only [execOp, ho, Sem.run_bind, hr, Result.andThen_ok, Sem.run_pure])
  case h_20 t x i ho =>
    simp only [Option.map_eq_some_iff, Prod.mk.injEq] at h
    obtain ⟨v', hv', rfl, rfl⟩ := h
    obtain ⟨u, hu, hr⟩ := pindex_sound (P := P) (w := w) (ev_rel hF x) (ev_rel hF i) hv'
    exact .pure hw hu (by simp only [execOp, ho, Sem.run_bind, hr, Result.andThen_ok, Sem.run_pure])
  case h_21 t ho =>
    simp only [Option.some.injEq, Prod.mk.injEq] at h
    obtain ⟨rfl, rfl⟩ := h
    obtain ⟨c1, c2, c3⟩ := hw.allocMap t 0
    refine ⟨_, .map (some w.heap.size), _, c1, c2, c3, .mp (by simp [Ctx.more, ← hw.len]) (by simp [Ctx.more, ← hw.lenv]) (by simp [Ctx.more, ← hw.lenc]), .inl ?_⟩
    simp only [execOp, ho, Option.map_none, Instr.makeMap]
    rfl
  case h_22 t m k ok ho =>
    simp only [Option.map_eq_some_iff, Prod.mk.injEq] at h
    obtain ⟨v', hv', rfl, rfl⟩ := h
    obtain ⟨u, hu, hr⟩ := plook_sound (P := P) hw (ev_rel hF m) (ev_rel hF k) hv'
    exact .pure hw hu (by simp only [execOp, ho, Sem.run_bind, hr, Result.andThen_ok, Sem.run_pure])
  case h_23 t m k x ho =>
    simp only [Option.map_eq_some_iff, Prod.mk.injEq] at h
    obtain ⟨H2, hv', rfl, rfl⟩ := h
    obtain ⟨w', c2, c3, hr⟩ := pmset_sound (P := P) hw (ev_rel hF m) (ev_rel hF k) (ev_rel hF x) hv'
    exact ⟨C, _, w', .refl _, c2, c3, .undefV, .inr ⟨by simp only [execOp, ho, Sem.run_bind, hr, Result.andThen_ok, Sem.run_pure], rfl⟩⟩
  case h_24 t m k x ho =>
    simp only [Option.map_eq_some_iff, Prod.mk.injEq] at h
    obtain ⟨H2, hv', rfl, rfl⟩ := h
    obtain ⟨w', c2, c3, hr⟩ := pmset_sound (P := P) hw (ev_rel hF m) (ev_rel hF k) (ev_rel hF x) hv'
    exact ⟨C, _, w', .refl _, c2, c3, .undefV, .inr ⟨by simp only [execOp, ho, Sem.run_bind, hr, Result.andThen_ok, Sem.run_pure], rfl⟩⟩
  case h_25 x i ho =>
    have hx := ev_rel hF x
    split at h
    · rename_i vs ex
      simp only [Option.map_eq_some_iff, Prod.mk.injEq] at h
      obtain ⟨v', hv', rfl, rfl⟩ := h
      rw [ex] at hx
      generalize hq : a.eval x = q at hx
      cases hx with
      | @tup _ us hl hR =>
        have hlt : i < us.length := by
          grind
        refine .pure hw (hR i _ us[i] hv' (List.getElem?_eq_getElem hlt)) ?_
        simp [execOp, ho, Instr.extract, hq, List.getElem?_eq_getElem hlt]
    · cases h
  all_goals grind [pbuiltin_sound]

end Go.Proofs.YtbhdollgohgkgaaGreatDoor.Pm

namespace Go.Proofs.YtbhdollgohgkgaaGreatDoor.Pm
set_option linter.all false
set_option linter.unusedVariables false
set_option linter.unusedSimpArgs false
open Go.RowKit

variable {P : Program} {C : Ctx} {H : Heap} {w : World} {F : Fr} {a : Act} {N : Nat}

/-- Does a call of it enter a body? -/
def callable (P : Program) (f : FuncId) : Bool := match P.funcs[f]? with | some fn => fn.body.isSome && !(fn.name == "runtime.NumGoroutine") | none => false

/-- ████ THE CONTRACT: called with 'args' over the abstract heap H, function f returns v and leaves H'. ████ -/
def CallOk (P : Program) (f : FuncId) (args : List PV) (H : Heap) (v : PV) (H' : Heap) : Prop :=
  callable P f = true ∧ ∀ (C : Ctx) (us : List Value) (w : World), WRel C H w → VRels C args us →
    Calls P f us.toArray w fun e w' => ∃ C' u, CLe C C' ∧ WRel C' H' w' ∧ Below C.B w w' ∧ e = .returned u ∧ VRel C' v u

/-- The same with more than one outcome: each of them satisfies R. -/
def CallEx (P : Program) (f : FuncId) (args : List PV) (H : Heap) (R : PV → Heap → Prop) : Prop :=
  callable P f = true ∧ ∀ (C : Ctx) (us : List Value) (w : World), WRel C H w → VRels C args us →
    Calls P f us.toArray w fun e w' => ∃ C' u v H', R v H' ∧ CLe C C' ∧ WRel C' H' w' ∧ Below C.B w w' ∧ e = .returned u ∧ VRel C' v u
theorem CallOk.toEx {f : FuncId} {args : List PV} {v : PV} {H' : Heap} (h : CallOk P f args H v H') : CallEx P f args H (fun v' H'' => v' = v ∧ H'' = H') :=
  ⟨h.1, fun C us w hw hu => (h.2 C us w hw hu).mono fun e w' ⟨C', u, q1, q2, q3, q4, q5⟩ => ⟨C', u, v, H', ⟨rfl, rfl⟩, q1, q2, q3, q4, q5⟩⟩
theorem CallEx.one {f : FuncId} {args : List PV} {v : PV} {H' : Heap} (h : CallEx P f args H (fun v' H'' => v' = v ∧ H'' = H')) : CallOk P f args H v H' :=
  ⟨h.1, fun C us w hw hu => (h.2 C us w hw hu).mono fun e w' ⟨C', u, v', H'', ⟨e1, e2⟩, q1, q2, q3, q4, q5⟩ => ⟨C', u, q1, e2 ▸ q2, q3, q4, e1 ▸ q5⟩⟩
theorem CallEx.mono {f : FuncId} {args : List PV} {R R' : PV → Heap → Prop} (h : CallEx P f args H R) (hr : ∀ v H', R v H' → R' v H') : CallEx P f args H R' :=
  ⟨h.1, fun C us w hw hu => (h.2 C us w hw hu).mono fun e w' ⟨C', u, v', H'', q0, q1, q2, q3, q4, q5⟩ => ⟨C', u, v', H'', hr _ _ q0, q1, q2, q3, q4, q5⟩⟩

theorem run_callFunc {f : FuncId} {args : Array Value} (h : callable P f = true) : (callFunc f args).run P w = .ok (.enter f args) w := by
  unfold callable at h
  cases hf : P.funcs[f]? with
  | none => simp [hf] at h
  | some fn =>
    simp only [hf, Bool.and_eq_true, Bool.not_eq_true'] at h
    have h1 : ¬ fn.body = none := by grind
    have h2 : ¬ fn.name = "runtime.NumGoroutine" := by simp_all
    simp [callFunc, hf, h2, h1]

/-- It names blocks below n alone. -/
inductive Scoped (n : Nat) : PV → Prop where
  | int (k : IntKind) (m : Int) : Scoped n (.int k m)
  | bool (b : Bool) : Scoped n (.bool b)
  | str (s : List UInt8) : Scoped n (.str s)
  | nilp : Scoped n .nilp
  | nl (k : Nat) : Scoped n (.nl k)
  | yl {l : Nat} {us : List Value} {fs : List PV} (h : ∀ (j : Nat) (x : PV), fs[j]? = some x → Scoped n x) : Scoped n (.yl l us fs)
  | lp (l : Nat) (o : Obj) : Scoped n (.lp l o)
  | undef : Scoped n .undef
  | ptr {id ver off : Nat} (h : id < n) : Scoped n (.ptr id ver off)
  | ip {xs : List PV} {off : Nat} (h : ∀ (j : Nat) (x : PV), xs[j]? = some x → Scoped n x) : Scoped n (.ip xs off)
  | slice {xs : List PV} {len : Nat} {full : Bool} (h : ∀ (j : Nat) (x : PV), xs[j]? = some x → Scoped n x) : Scoped n (.slice xs len full)
  | msl {id ver off len sz : Nat} {g : Bool} (h : id < n) : Scoped n (.msl id ver off len sz g)
  | mp {id ver : Nat} (h : id < n) : Scoped n (.mp id ver)
  | agg {cs : List PV} (h : ∀ (j : Nat) (x : PV), cs[j]? = some x → Scoped n x) : Scoped n (.agg cs)
  | tup {vs : List PV} (h : ∀ (j : Nat) (x : PV), vs[j]? = some x → Scoped n x) : Scoped n (.tup vs)
  | func {f : FuncId} {fs cs : List PV} (h : ∀ (j : Nat) (x : PV), fs[j]? = some x → Scoped n x) (h' : ∀ (j : Nat) (x : PV), cs[j]? = some x → Scoped n x) : Scoped n (.func f fs cs)

theorem all_of {n : Nat} {xs : List PV} {us : List Value} (hl : us.length = xs.length) (h : ∀ (j : Nat) (x : PV) (u : Value), xs[j]? = some x → us[j]? = some u → Scoped n x) : ∀ (j : Nat) (x : PV), xs[j]? = some x → Scoped n x := fun j x hx => by
  have hlt : j < us.length := by grind
  exact h j x us[j] hx (List.getElem?_eq_getElem hlt)

theorem VRel.scoped {x : PV} {u : Value} (h : VRel C x u) : Scoped C.vs.length x := by
  have lt : ∀ {id ver : Nat}, C.vs[id]? = some ver → id < C.vs.length := fun h => (List.getElem?_eq_some_iff.1 h).1
  induction h with
  | nl k => exact .nl k
  | yl hl _ ih => exact .yl (all_of hl ih)
  | int k n => exact .int k n
  | bool b => exact .bool b
  | str s => exact .str _
  | nilp => exact .nilp
  | ptr hm hv => exact .ptr (lt hv)
  | ptrS v h1 hv hlt => exact .ptr (lt hv)
  | ip hl hM hc _ ih => exact .ip (all_of hl ih)
  | slice hl hM hc _ hcap hmax hf ih => exact .slice (all_of hl ih)
  | sliceN ad full => exact .slice (fun j x hx => by simp at hx)
  | msl hm hv hcap hmax hg => exact .msl (lt hv)
  | mslE hm hv hmax => exact .msl (lt hv)
  | mslG ad hm hv => exact .msl (lt hv)
  | mslS v h1 hv hlt => exact .msl (lt hv)
  | mp hm hv hb => exact .mp (lt hv)
  | mpS v h1 hv hlt => exact .mp (lt hv)
  | agg hl hc _ ih => exact .agg (all_of hl ih)
  | tup hl _ ih => exact .tup (all_of hl ih)
  | func hl hl' _ _ ih ih' => exact .func (all_of hl ih) (all_of hl' ih')
  | undef v => exact .undef

/-- CLe, of the blocks below n alone. -/
structure CLeN (n : Nat) (C C' : Ctx) : Prop where
  B : C'.B = C.B
  M : ∀ b o u, C.M b o = some u → C'.M b o = some u
  top : C'.top = C.top
  mnew : ∀ b o u, C'.M b o = some u → C.M b o = some u ∨ C.top ≤ b ∨ some b ∈ C.mu
  unew : ∀ b, some b ∈ C'.mu → some b ∈ C.mu ∨ C.top ≤ b
  ids : ∀ (id ver : Nat), id < n → C.vs[id]? = some ver → ∃ ver', C'.vs[id]? = some ver' ∧ ver ≤ ver' ∧ (ver' = ver → C'.mu[id]? = C.mu[id]? ∧ C'.cp[id]? = C.cp[id]?)
theorem CLe.toN {C C' : Ctx} (h : CLe C C') (n : Nat) : CLeN n C C' := ⟨h.B, h.M, h.top, h.mnew, h.unew, fun id ver _ hv => h.ids id ver hv⟩
theorem CLeN.refl {n : Nat} (C : Ctx) : CLeN n C C := (CLe.refl C).toN n
theorem CLeN.trans {n : Nat} {C C' C'' : Ctx} (h : CLeN n C C') (k : CLeN n C' C'') : CLeN n C C'' := by
  refine ⟨k.B.trans h.B, fun b o u e => k.M _ _ _ (h.M _ _ _ e), k.top.trans h.top, fun b o u e => ?_, fun b e => ?_, fun id ver hid e => ?_⟩
  · rcases k.mnew b o u e with e | e | e
    · exact h.mnew b o u e
    · exact .inr (.inl (by rw [← h.top]; exact e))
    · rcases h.unew b e with e | e
      all_goals simp_all
  · rcases k.unew b e with e | e
    · exact h.unew b e
    · exact .inr (by rw [← h.top]; exact e)
  obtain ⟨v1, e1, l1, q1⟩ := h.ids id ver hid e
  obtain ⟨v2, e2, l2, q2⟩ := k.ids id v1 hid e1
  grind
theorem CLeN.full {n : Nat} {C C' : Ctx} (h : CLeN n C C') (hn : C.vs.length = n) : CLe C C' := ⟨h.B, h.M, h.top, h.mnew, h.unew, fun id ver hv => h.ids id ver (by have := (List.getElem?_eq_some_iff.1 hv).1; omega) hv⟩

/-- A function's number of slots, and the heap at its entry. -/
structure Env where
  N : Nat
  H0 : Heap
/-- Blocks name only blocks of the same heap. -/
def HSc (H : Heap) : Prop := ∀ (id : Nat) (k : Blk), H[id]? = some k → ∀ x ∈ k.cells, Scoped H.length x
theorem WRel.hsc (hw : WRel C H w) : HSc H := fun id k hk x hx => by
  obtain ⟨m, hm⟩ : ∃ m, C.mu[id]? = some m := ⟨C.mu[id]'(by rw [hw.len]; exact (List.getElem?_eq_some_iff.1 hk).1), List.getElem?_eq_getElem _⟩
  cases m with
  | none =>
    rcases hw.gho id k hk hm with h0 | ⟨b, es, clock, _, _, _, q4, q5⟩ | ⟨b, r, _, _, _, q4⟩
    · simp_all
    · obtain ⟨j, hj, rfl⟩ := List.getElem_of_mem hx
      have := (q5 j _ es[j] (List.getElem?_eq_getElem hj) (Array.getElem?_eq_getElem (by omega))).scoped
      rwa [hw.lenv] at this
    · rw [q4.1, List.mem_singleton] at hx
      rw [hx]; exact .lp _ r
  | some b =>
  obtain ⟨cur, _, _, _, _, q7, q8⟩ := hw.own id k b hk hm
  obtain ⟨j, hj, rfl⟩ := List.getElem_of_mem hx
  have := (q8 j _ cur[j] (List.getElem?_eq_getElem hj) (Array.getElem?_eq_getElem (by omega))).scoped
  rwa [hw.lenv] at this

/-- The exits of code, over abstract states. -/
def Post (E : Env) (C : Ctx) (w : World) (Q : Exit → Fr → Heap → Prop) : Exit → Act → World → Prop :=
  fun e a' w' => ∃ C' F' H', CLeN E.H0.length C C' ∧ a'.defers = [] ∧ WRel C' H' w' ∧ Below C.B w w' ∧ FRel C' E.N (slot F') a' ∧ Q e F' H'

theorem Post.trans {E : Env} {C C1 : Ctx} {w w1 : World} {Q : Exit → Fr → Heap → Prop} (h1 : CLeN E.H0.length C C1) (h2 : Below C.B w w1) {e : Exit} {a' : Act} {w' : World} (h : Post E C1 w1 Q e a' w') : Post E C w Q e a' w' := by
  obtain ⟨C', F', H', q1, q2, q3, q4, q5, q6⟩ := h
  exact ⟨C', F', H', h1.trans q1, q2, q3, h2.trans (by rw [← h1.B]; exact q4), q5, q6⟩

/-- ████ THE JUDGEMENT ON CODE. ████ -/
def PW (P : Program) (E : Env) (c : Code) (F : Fr) (H : Heap) (Q : Exit → Fr → Heap → Prop) : Prop :=
  HSc E.H0 → ∀ (C : Ctx) (a : Act) (w : World), a.defers = [] → WRel C H w → FRel C E.N (slot F) a → c.wp P (Post E C w Q) a w

def thenQ (K : Fr → Heap → Prop) (Q : Exit → Fr → Heap → Prop) : Exit → Fr → Heap → Prop
  | .normal, F, H => K F H
  | e, F, H => Q e F H
def blockQ (id : Nat) (Q : Exit → Fr → Heap → Prop) : Exit → Fr → Heap → Prop
  | .exit id', F, H => if id' = id then Q .normal F H else Q (.exit id') F H
  | e, F, H => Q e F H
/-- A scope that no goto leaves. -/
def scopeQ (Q : Exit → Fr → Heap → Prop) : Exit → Fr → Heap → Prop
  | .goto _, _, _ => False
  | e, F, H => Q e F H

section rules
variable {E : Env} {Q : Exit → Fr → Heap → Prop}

theorem PW.mono {c : Code} {Q' : Exit → Fr → Heap → Prop} (h : PW P E c F H Q) (hq : ∀ e F H, Q e F H → Q' e F H) : PW P E c F H Q' := fun hs C a w hd hw hf =>
  wp_mono (h hs C a w hd hw hf) fun _ _ _ ⟨C', F', H', q1, q2, q3, q4, q5, q6⟩ => ⟨C', F', H', q1, q2, q3, q4, q5, hq _ _ _ q6⟩

theorem PW.skip (h : Q .normal F H) : PW P E .skip F H Q := fun hs C a w hd hw hf => wp_skip ⟨C, F, H, .refl _, hd, hw, .refl _ _, hf, h⟩
theorem PW.ret (h : Q .ret F H) : PW P E .ret F H Q := fun hs C a w hd hw hf => wp_ret ⟨C, F, H, .refl _, hd, hw, .refl _ _, hf, h⟩
theorem PW.exit {id : Nat} (h : Q (.exit id) F H) : PW P E (.exit id) F H Q := fun hs C a w hd hw hf => wp_exit ⟨C, F, H, .refl _, hd, hw, .refl _ _, hf, h⟩
theorem PW.label {l : Nat} (h : Q .normal F H) : PW P E (.label l) F H Q := fun hs C a w hd hw hf => wp_label ⟨C, F, H, .refl _, hd, hw, .refl _ _, hf, h⟩

theorem PW.seq {x y : Code} (h : PW P E x F H (thenQ (fun F' H' => PW P E y F' H' Q) Q)) : PW P E (.seq x y) F H Q := fun hs C a w hd hw hf => by
  refine wp_seq (wp_mono (h hs C a w hd hw hf) ?_)
  rintro e a1 w1 ⟨C1, F1, H1, q1, q2, q3, q4, q5, q6⟩
  cases e with
  | normal => exact wp_mono (q6 hs C1 a1 w1 q2 q3 q5) fun _ _ _ hp => hp.trans q1 q4
  | _ => exact ⟨C1, F1, H1, q1, q2, q3, q4, q5, q6⟩

theorem PW.scope {c : Code} (h : PW P E c F H (scopeQ Q)) : PW P E (.scope c) F H Q := fun hs C a w hd hw hf => by
  refine wp_scope_straight (wp_mono (h hs C a w hd hw hf) ?_)
  rintro e a1 w1 ⟨C1, F1, H1, q1, q2, q3, q4, q5, q6⟩
  cases e with
  | goto l => exact q6.elim
  | _ => exact ⟨C1, F1, H1, q1, q2, q3, q4, q5, q6⟩

theorem PW.cond {c : Operand} {x y : Code} {t : Bool} (hc : ev (slot F) c = .bool t) (h1 : t = true → PW P E x F H Q) (h2 : t = false → PW P E y F H Q) : PW P E (.cond c x y) F H Q := fun hs C a w hd hw hf => by
  have hv := ev_rel hf c
  rw [hc] at hv
  exact wp_cond_split (inv_bool hv) (fun ht => h1 ht hs C a w hd hw hf) (fun ht => h2 ht hs C a w hd hw hf)

theorem PW.block {id : Nat} {c : Code} (h : PW P E c F H (blockQ id Q)) : PW P E (.block id c) F H Q := fun hs C a w hd hw hf => by
  refine wp_block (wp_mono (h hs C a w hd hw hf) ?_)
  rintro e a1 w1 ⟨C1, F1, H1, q1, q2, q3, q4, q5, q6⟩
  cases e with
  | exit id' =>
    simp only [blockQ] at q6
    simp only [Exit.inBlock]
    split
    · rename_i he; rw [if_pos he] at q6; exact ⟨C1, F1, H1, q1, q2, q3, q4, q5, q6⟩
    · rename_i he; rw [if_neg he] at q6; exact ⟨C1, F1, H1, q1, q2, q3, q4, q5, q6⟩
  | _ => exact ⟨C1, F1, H1, q1, q2, q3, q4, q5, q6⟩

/-- Slots may be forgotten. -/
def kp (ks : List Nat) (F : Fr) : Fr := ks.map fun t => (t, slot F t)
theorem get_keep (ks : List Nat) (F : Fr) (t : Nat) : slot (kp ks F) t = slot F t ∨ slot (kp ks F) t = .undef := by
  induction ks with
  | nil => exact .inr rfl
  | cons k ks ih =>
    grind [Nat.beq, slot, kp, Nat.eq_of_beq_eq_true]
theorem FRel.keep (hf : FRel C N (slot F) a) (ks : List Nat) : FRel C N (slot (kp ks F)) a := ⟨hf.1, fun t => by
  rcases get_keep ks F t with h | h
  · rw [h]; exact hf.2 t
  · rw [h]; exact .undef _⟩
theorem PW.keep {c : Code} (ks : List Nat) (h : PW P E c (kp ks F) H Q) : PW P E c F H Q := fun hs C a w hd hw hf => h hs C a w hd hw (hf.keep ks)

/-! ### loops: 'PL': the body, and then the loop again -/
def loopK (P : Program) (c : Code) (Q : Exit → Act → World → Prop) (a : Act) (w : World) : Prop :=
  ∀ (b : Frame) (k : List Item) (cs : List Frame), ∃ e a' w', Q e a' w' ∧ Arrives P (lone (b.at a (.code c :: .inLoop c :: k)) cs w) b k cs e a' w'
theorem loopK_unfold {c : Code} {Q : Exit → Act → World → Prop} {a : Act} {w : World} (h : c.wp P (Exit.then (loopK P c Q) Q) a w) : loopK P c Q a w := by
  intro b k cs
  obtain ⟨e, a1, w1, hq, harr⟩ := h b (.inLoop c :: k) cs
  cases e with
  | normal =>
    obtain ⟨e2, a2, w2, hq2, harr2⟩ := hq b k cs
    exact ⟨e2, a2, w2, hq2, .of_steps (Steps.trans harr (.one step_inLoop)) harr2⟩
  | exit id => exact ⟨_, a1, w1, hq, .pass (x := .inLoop c) rfl (fun _ _ => .inl (by simp)) harr⟩
  | goto l => exact ⟨_, a1, w1, hq, .pass (x := .inLoop c) rfl (fun _ _ => .inl (by simp)) harr⟩
  | ret => exact ⟨_, a1, w1, hq, .pass (x := .inLoop c) rfl (fun _ _ => .inl (by simp)) harr⟩
  | panic ch => exact ⟨_, a1, w1, hq, .pass (x := .inLoop c) rfl (fun _ _ => .inl (by simp)) harr⟩
  | outgrown => exact ⟨_, a1, w1, hq, .pass (x := .inLoop c) rfl (fun _ _ => .inl (by simp)) harr⟩
def PL (P : Program) (E : Env) (c : Code) (F : Fr) (H : Heap) (Q : Exit → Fr → Heap → Prop) : Prop :=
  HSc E.H0 → ∀ (C : Ctx) (a : Act) (w : World), a.defers = [] → WRel C H w → FRel C E.N (slot F) a → loopK P c (Post E C w Q) a w
theorem PW.loop {c : Code} (h : PL P E c F H Q) : PW P E (.loop c) F H Q := fun hs C a w hd hw hf b k cs => by
  obtain ⟨e, a', w', hq, harr⟩ := h hs C a w hd hw hf b k cs
  exact ⟨e, a', w', hq, .of_steps (.one step_loop) harr⟩
theorem PL.round {c : Code} (h : PW P E c F H (thenQ (fun F' H' => PL P E c F' H' Q) Q)) : PL P E c F H Q := fun hs C a w hd hw hf => by
  refine loopK_unfold (wp_mono (h hs C a w hd hw hf) ?_)
  rintro e a1 w1 ⟨C1, F1, H1, q1, q2, q3, q4, q5, q6⟩
  cases e with
  | normal =>
    have hk := q6 hs C1 a1 w1 q2 q3 q5
    exact fun b k cs => by
      obtain ⟨e2, a2, w2, hq2, harr2⟩ := hk b k cs
      exact ⟨e2, a2, w2, hq2.trans q1 q4, harr2⟩
  | _ => exact ⟨C1, F1, H1, q1, q2, q3, q4, q5, q6⟩
theorem PL.keep {c : Code} (ks : List Nat) (h : PL P E c (kp ks F) H Q) : PL P E c F H Q := fun hs C a w hd hw hf => h hs C a w hd hw (hf.keep ks)

/-! ### regions in the order of the text -/
def want (all : List Oper) (F : Nat → PV) (o : Oper) : Option Bool :=
  match o.guard with
  | none => some true
  | some (j, b) => match (all[j]?).bind (·.dst) with
    | some d => match F d with
      | .bool x => some (x == b)
      | .tup [] => some false
      | _ => none
    | none => none

theorem want_sound {all : List Oper} {f : Nat → PV} {o : Oper} {b : Bool} (hf : FRel C N f a) (h : want all f o = some b) : Region.wanted o (yielded all.toArray a.tmps) = b := by
  unfold want at h
  unfold Region.wanted
  split at h
  · simp_all
  · rename_i j t hg
    rw [hg]
    simp only
    split at h
    · rename_i d hd
      have hv := hf.2 d
      have hy : yielded all.toArray a.tmps j = match a.tmps[d]? with | some (.bool x) => some x | _ => none := by
        unfold yielded
        grind
      split at h
      · rename_i x hx
        injection h with h
        subst h
        rw [hx] at hv
        have he := inv_bool hv
        rw [Array.getD_eq_getD_getElem?] at he
        cases hq : a.tmps[d]? with
        | none => simp [hq, Go.undef] at he
        | some u => rw [hq] at he; simp at he; subst he; rw [hy, hq]; simp
      · rename_i hx
        injection h with h
        subst h
        rw [hx] at hv
        have he : a.tmps.getD d Go.undef = Go.undef := by
          generalize a.tmps.getD d Go.undef = u at hv
          cases hv with
          | @tup _ us hl hR0 =>
            have : us = [] := List.eq_nil_of_length_eq_zero (by simpa using hl)
            subst this
            rfl
        rw [Array.getD_eq_getD_getElem?] at he
        rw [hy]
        cases hq : a.tmps[d]? with
        | none => simp
        | some u => rw [hq] at he; simp [Go.undef] at he; subst he; simp
      · cases h
    · cases h

/-- What one operation that is carried out does. -/
def Exec (P : Program) (o : Oper) (f : Nat → PV) (H : Heap) (v : PV) (H' : Heap) : Prop :=
  match pcallee o.op f with
  | some (g, args) => CallOk P g args H v H'
  | none => pop P o.op f H = some (v, H')

def dstOk (N : Nat) (o : Oper) : Bool := match o.dst with | some d => Nat.blt d N | none => true
theorem dstOk_of {o : Oper} (h : dstOk N o = true) : ∀ t, o.dst = some t → t < N := fun t ht => by
  simp_all [dstOk, Nat.blt_eq]

def ExecR (P : Program) (o : Oper) (f : Nat → PV) (H : Heap) (R : PV → Heap → Prop) : Prop :=
  match pcallee o.op f with
  | some (g, args) => CallEx P g args H R
  | none => ∃ v H', pop P o.op f H = some (v, H') ∧ R v H'
theorem Exec.toR {o : Oper} {f : Nat → PV} {v : PV} {H' : Heap} (h : Exec P o f H v H') : ExecR P o f H (fun v' H'' => v' = v ∧ H'' = H') := by
  unfold Exec at h
  unfold ExecR
  split at h
  · exact h.toEx
  simp_all
theorem execR_sound {o : Oper} {f : Nat → PV} {R : PV → Heap → Prop} (hd : dstOk N o = true) (hw : WRel C H w) (hf : FRel C N f a) (h : ExecR P o f H R) (next : Act → World → Prop) (Q : Exit → Act → World → Prop)
    (hn : ∀ C' u w' v H', R v H' → CLe C C' → WRel C' H' w' → Below C.B w w' → FRel C' N (upd f o.dst v) (a.put o.dst u) → next (a.put o.dst u) w') : o.wp P a w next Q := by
  unfold ExecR at h
  split at h
  · rename_i g args hc
    unfold pcallee at hc
    split at hc
    · rename_i x xs ts ho
      split at hc
      · rename_i f' first captured hfv
        simp only [Option.some.injEq, Prod.mk.injEq] at hc
        obtain ⟨rfl, rfl⟩ := hc
        have hv := ev_rel hf x
        rw [hfv] at hv
        obtain ⟨us, ws, hl, hl', hR, hR', he⟩ : ∃ us ws, us.length = first.length ∧ ws.length = captured.length ∧ Rel C first us ∧ Rel C captured ws ∧ a.eval x = .func (.func f') us.toArray ws.toArray := by
          generalize a.eval x = q at hv
          cases hv with
          | func hl hl' hR hR' => exact ⟨_, _, hl, hl', hR, hR', rfl⟩
        obtain ⟨hal, har⟩ := evs_rel hf xs.toList
        have hrun : (execOp a.eval o).run P w = .ok (.enter f' (us ++ xs.toList.map a.eval ++ ws).toArray) w := by
          have e1 : us.toArray ++ xs.map a.eval ++ ws.toArray = (us ++ xs.toList.map a.eval ++ ws).toArray := by
            simp_all
          simp only [execOp, ho, resolve, he, Deferred.ofValue, invoke, Sem.run_bind, Sem.run_pure, Result.andThen_ok, run_callFunc h.1, e1]
        unfold Oper.wp
        rw [hrun, Oper.upon_enter]
        refine (h.2 C _ w hw ⟨by simp [hl, hl'], Rel.append (by simp [hl]) (Rel.append hl hR har) hR'⟩).mono ?_
        rintro e w' ⟨C', u, v, H', q0, q1, q2, q3, rfl, q5⟩
        exact hn C' u w' v H' q0 q1 q2 q3 ((hf.mono q1).put _ (dstOk_of hd) q5)
      · cases hc
    · cases hc
  · obtain ⟨v, H', h, hR⟩ := h
    obtain ⟨C', u, w', q1, q2, q3, q4, q5⟩ := pop_sound hw hf h
    unfold Oper.wp
    rcases q5 with q5 | ⟨q5, rfl⟩
    · rw [q5, Oper.upon_value]
      exact hn C' u w' v H' hR q1 q2 q3 ((hf.mono q1).put _ (dstOk_of hd) q4)
    · rw [q5, Oper.upon_skip]
      exact hn C' _ w' _ H' hR q1 q2 q3 ((hf.mono q1).put _ (dstOk_of hd) q4)
theorem exec_sound {o : Oper} {f : Nat → PV} {v : PV} {H' : Heap} (hd : dstOk N o = true) (hw : WRel C H w) (hf : FRel C N f a) (h : Exec P o f H v H') (next : Act → World → Prop) (Q : Exit → Act → World → Prop)
    (hn : ∀ C' u w', CLe C C' → WRel C' H' w' → Below C.B w w' → FRel C' N (upd f o.dst v) (a.put o.dst u) → next (a.put o.dst u) w') : o.wp P a w next Q :=
  execR_sound hd hw hf h.toR next Q fun C' u w' v' H'' e q1 q2 q3 q4 => hn C' u w' q1 (e.2 ▸ q2) q3 (e.1 ▸ q4)

/-- The operations of a region, one after the other. -/
def vops (P : Program) (all : List Oper) : List Oper → (Fr → Heap → Prop) → Fr → Heap → Prop
  | [], K, F, H => K F H
  | o :: r, K, F, H => match want all (slot F) o with
    | some b => (b = true → match pcallee o.op (slot F) with
        | some (g, args) => ∃ R, CallEx P g args H R ∧ ∀ v H', R v H' → vops P all r K (put F o.dst v) H'
        | none => match pop P o.op (slot F) H with
          | some (v, H') => vops P all r K (put F o.dst v) H'
          | none => False) ∧ (b = false → vops P all r K (put F o.dst (.tup [])) H)
    | none => False

theorem vops_sound {all : List Oper} {K : Fr → Heap → Prop} : ∀ (l : List Oper) (F : Fr) (H : Heap), l.all (dstOk N) = true → vops P all l K F H → ∀ (C : Ctx) (a : Act) (w : World), a.defers = [] → WRel C H w → FRel C N (slot F) a →
    ∀ Q : Exit → Act → World → Prop, (∀ C' F' H' a' w', CLe C C' → a'.defers = [] → WRel C' H' w' → Below C.B w w' → FRel C' N (slot F') a' → K F' H' → Q .normal a' w') → wpList P all.toArray Q l a w
  | [], F, H, _, h, C, a, w, hd, hw, hf, Q, hQ => hQ C F H a w (.refl _) hd hw (.refl _ _) hf h
  | o :: r, F, H, hall, h, C, a, w, hd, hw, hf, Q, hQ => by
    simp only [List.all_cons, Bool.and_eq_true] at hall
    simp only [vops] at h
    split at h
    · rename_i b hb
      have hwant := want_sound hf hb
      unfold wpList
      cases b with
      | true =>
        rw [if_pos hwant]
        left
        have h1 := h.1 rfl
        have step : ∀ R, ExecR P o (slot F) H R → (∀ v H', R v H' → vops P all r K (put F o.dst v) H') → o.wp P a w (wpList P all.toArray Q r) Q := fun R he hr => by
          refine execR_sound hall.1 hw hf he _ _ fun C' u w' v H' q0 q1 q2 q3 q4 => ?_
          rw [← get_put] at q4
          refine vops_sound r _ _ hall.2 (hr v H' q0) C' _ w' (by cases ho : o.dst <;> simp [Act.put, hd]) q2 q4 Q ?_
          intro C'' F'' H'' a'' w'' p1 p2 p3 p4 p5 p6
          exact hQ C'' F'' H'' a'' w'' (q1.trans p1) p2 p3 (q3.trans (by rw [← q1.B]; exact p4)) p5 p6
        split at h1
        · rename_i g args hc
          obtain ⟨R, hcall, hr⟩ := h1
          exact step R (by unfold ExecR; rw [hc]; exact hcall) hr
        · rename_i hc
          split at h1
          · rename_i v H' hp
            exact step (fun v' H'' => v' = v ∧ H'' = H') (by unfold ExecR; rw [hc]; exact ⟨v, H', hp, rfl, rfl⟩) (fun v' H'' e => by rw [e.1, e.2]; exact h1)
          simp_all
      | false =>
        rw [if_neg (by rw [hwant]; simp)]
        have h2 := h.2 rfl
        have q4 := hf.put o.dst (dstOk_of hall.1) (VRel.undefV (C := C))
        rw [← get_put] at q4
        exact vops_sound r _ _ hall.2 h2 C _ w (by cases ho : o.dst <;> simp [Act.put, hd]) hw q4 Q hQ
    simp_all

theorem PW.region {id : Nat} {ops : Array Oper} (hd : ops.toList.all (dstOk E.N) = true) (h : vops P ops.toList ops.toList (fun F' H' => Q .normal F' H') F H) : PW P E (.region id ops false) F H Q := fun hs C a w hdf hw hf => by
  refine wp_region_list ?_
  have := vops_sound (P := P) (all := ops.toList) ops.toList F H hd h C a w hdf hw hf (Post E C w Q) (fun C' F' H' a' w' p1 p2 p3 p4 p5 p6 => ⟨C', F', H', p1.toN _, p2, p3, p4, p5, p6⟩)
  omega

/-- With one state behind it, whatever way was taken through it. -/
theorem PW.region_to {id : Nat} {ops : Array Oper} (ks : List Nat) (F1 : Fr) (H1 : Heap) (hd : ops.toList.all (dstOk E.N) = true) (h : vops P ops.toList ops.toList (fun F' H' => kp ks F' = F1 ∧ H' = H1) F H) (hq : Q .normal F1 H1) :
    PW P E (.region id ops false) F H Q := fun hs C a w hdf hw hf => by
  refine wp_region_list ?_
  have := vops_sound (P := P) (all := ops.toList) ops.toList F H hd h C a w hdf hw hf (Post E C w Q) (fun C' F' H' a' w' p1 p2 p3 p4 p5 p6 => ⟨C', F1, H1, p1.toN _, p2, p6.2 ▸ p3, p4, p6.1 ▸ p5.keep ks, hq⟩)
  simpa using this

end rules

end Go.Proofs.YtbhdollgohgkgaaGreatDoor.Pm
