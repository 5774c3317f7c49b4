/-
  A small program logic over abstract values: each operation does in the model what 'pop' says. No condition. Program-independent. Part 5: append, copy, conversions, len, min, max.
-/
import Derived.Test.YtahomnplappbpaaGreatDoorPmV
import Derived.Lib.AppendZeros
namespace Go.Proofs.YtahomnplappbpaaGreatDoor.Pm
set_option linter.all false
set_option linter.unusedVariables false
set_option linter.unusedSimpArgs false
open Go.RowKit

variable {P : Program} {C : Ctx} {H : Heap} {w : World} {F : Nat → PV} {a : Act} {N : Nat}

/-- What the second argument of an append yields, zeros of 'append(s, make([]T, n)...)' too. -/
def App (P : Program) (i : TypeInfo) (z : Value) (tx : TypeId) (x : Value) (n : Nat) (news : List Value) (w : World) : Prop :=
  Src P i.size tx x n news w ∨ ∃ kn kq, P.underlying tx = some (.int kn) ∧ x = .int kq (n : Int) ∧ news = (Builtin.zeroCells z.cells n).toList ∧ n ≤ 1048576 ∧ z.cells.size = i.size

theorem app_room {t tx ty e : TypeId} {i : TypeInfo} {z : Value} (ht : P.underlying t = some (.slice e)) (hi : P.info? e = some i) (hz : i.zero = some z) {b off sLen sCap n : Nat} {x : Value} {news : List Value} {w' : World}
    (ha : App P i z tx x n news w) (hroom : sLen + n ≤ sCap) (hby : n * i.bytes ≤ 140737488355328) (hst : (storeCells ⟨b, off + sLen * i.size, none⟩ news).run P w = .ok () w') :
    (Builtin.append_ #[t, tx] ty #[.slice (some ⟨b, off, none⟩) sLen sCap, x]).run P w = .ok (.slice (some ⟨b, off, none⟩) (sLen + n) sCap) w' := by
  rcases ha with hs | ⟨kn, kq, htn, rfl, rfl, hn, hsz⟩
  · rcases hs.kind with ⟨e', hk⟩ | hk <;> simp [Builtin.append_, run_underlying ht, run_underlying hk, sizeOf, typeInfo, hi, hs.len, hroom, hs.cells, Addr.add_lit, hst]
  · have hw : IntKind.i64.wrap (n : Int) = n := by rw [IntKind.wrap_i64]; omega
    have h48i : ¬ (281474976710656 < (n : Int) * (i.bytes : Int)) := by rw [← Int.natCast_mul]; omega
    have hneg : ¬ ((n : Int) < 0) := by omega
    by_cases hns : n * i.size = 0
    · have hz0 : (Builtin.zeroCells z.cells n).toList = [] := by
        apply List.eq_nil_of_length_eq_zero
        rw [Array.length_toList, size_zeroCells, hsz]
        exact hns
      rw [hz0] at hst
      have hns' : n = 0 ∨ i.size = 0 := Nat.mul_eq_zero.1 hns
      simp [Builtin.append_, run_underlying ht, run_underlying htn, sizeOf, typeInfo, hi, asInt, asIntOf, hw, hneg, hns, h48i, hroom, Addr.add_lit, hst]
    · have hns' : ¬ (n = 0 ∨ i.size = 0) := fun hh => hns (Nat.mul_eq_zero.2 hh)
      simp [Builtin.append_, run_underlying ht, run_underlying htn, sizeOf, typeInfo, zeroValue, hi, hz, asInt, asIntOf, hw, hneg, hns, h48i, hroom, Addr.add_lit, hst]

theorem app_nothing {t tx ty e : TypeId} {i : TypeInfo} {z : Value} (ht : P.underlying t = some (.slice e)) (hi : P.info? e = some i) {base : Option Addr} {sLen sCap : Nat} {x : Value} {news : List Value}
    (ha : App P i z tx x 0 news w) (hle : sLen ≤ sCap) : (Builtin.append_ #[t, tx] ty #[.slice base sLen sCap, x]).run P w = .ok (.slice base sLen sCap) w := by
  rcases ha with hs | ⟨kn, kq, htn, rfl, rfl, hn, hsz⟩
  · have hnil : news = [] := List.eq_nil_of_length_eq_zero (by simpa using hs.newsLen)
    subst hnil
    have hcells := hs.cells
    rcases hs.kind with ⟨e', hk⟩ | hk <;> cases base <;> simp [Builtin.append_, run_underlying ht, run_underlying hk, sizeOf, typeInfo, hi, hs.len, hle, hcells, storeCells]
  · have hw : IntKind.i64.wrap 0 = 0 := by rw [IntKind.wrap_i64]; omega
    cases base <;> simp [Builtin.append_, run_underlying ht, run_underlying htn, sizeOf, typeInfo, hi, asInt, asIntOf, hw, hle, storeCells]

theorem app_grow {t tx ty e : TypeId} {i : TypeInfo} {z : Value} (ht : P.underlying t = some (.slice e)) (hi : P.info? e = some i) (hz : i.zero = some z) {base : Option Addr} {sLen sCap n : Nat} {x : Value} {olds news : List Value}
    (hold : (Builtin.firstCells i.size sLen (.slice base sLen sCap)).run P w.drew = .ok olds.toArray w.drew) (ha : App P i z tx x n news w)
    (hg : sCap < sLen + n) (h47 : (sLen + n) * i.bytes ≤ 140737488355328) (hm : sLen + n ≤ 140737488355328) (hs0 : 0 < i.size) :
    (Builtin.append_ #[t, tx] ty #[.slice base sLen sCap, x]).run P w = .ok (.slice (some ⟨w.heap.size, 0, none⟩) (sLen + n) (grownCap w (sLen + n) sCap e))
        (w.drew.alloc (.cells ((olds ++ news).toArray ++ Builtin.zeroCells z.cells (grownCap w (sLen + n) sCap e - (sLen + n))) e)) := by
  have hfit := growslice_fits hg h47
  rcases ha with hs | ⟨kn, kq, htn, rfl, rfl, hn, hsz⟩
  · exact run_append_grow_src w t tx ty e i z ht hi hz base sLen sCap olds hold x n news hs hg (by omega) hfit
  · have hw : IntKind.i64.wrap (n : Int) = n := by rw [IntKind.wrap_i64]; omega
    have hnb : n * i.bytes ≤ (sLen + n) * i.bytes := Nat.mul_le_mul_right _ (by omega)
    have hnr : ¬ (sLen + n ≤ sCap) := by omega
    have h63' : ¬ (9223372036854775807 < ((sLen : Int) + (n : Int))) := by omega
    have h48' : ¬ (281474976710656 < Builtin.nextslicecap (sLen + n) sCap * i.bytes) := by omega
    have h48i : ¬ (281474976710656 < (n : Int) * (i.bytes : Int)) := by rw [← Int.natCast_mul]; omega
    have hneg : ¬ ((n : Int) < 0) := by omega
    rcases Nat.eq_zero_or_pos n with h0 | h0
    · subst h0
      have hz0 : (Builtin.zeroCells z.cells 0).toList = [] := by
        apply List.eq_nil_of_length_eq_zero
        rw [Array.length_toList, size_zeroCells]
        simp
      rw [hz0]
      simp only [Nat.add_zero] at hnr h48' ⊢
      have h63'' : ¬ (9223372036854775807 < (sLen : Int)) := by omega
      have hw0 : IntKind.i64.wrap 0 = 0 := by rw [IntKind.wrap_i64]; omega
      simp [Builtin.append_, run_underlying ht, run_underlying htn, sizeOf, typeInfo, zeroValue, hi, hz, asInt, asIntOf, hw0, hnr, h63'', h48', Question.forced, hold, newRow, grownCap]
    · have hns : ¬ (n * i.size = 0) := Nat.mul_ne_zero (by omega) (by omega)
      have hns' : ¬ (n = 0 ∨ i.size = 0) := fun hh => hns (Nat.mul_eq_zero.2 hh)
      simp [Builtin.append_, run_underlying ht, run_underlying htn, sizeOf, typeInfo, zeroValue, hi, hz, asInt, asIntOf, hw, hnr, hneg, hns, h63', h48', h48i, Question.forced, hold, newRow, grownCap]
      congr 2
      apply Array.ext'
      simp [List.append_assoc]

theorem zero_rel {z : List PV} {zv : Value} {n : Nat} (hzl : zv.cells.toList.length = z.length) (hz : Rel C z zv.cells.toList) (hpos : 0 < z.length) : Rel C (reps n z) (Builtin.zeroCells zv.cells n).toList := by
  have hs : zv.cells.size = z.length := by simpa using hzl
  have := made_rel (C := C) (n := n) (m := n * zv.cells.size) hzl hz hpos (by rw [hs]; exact Nat.le_refl _)
  exact this

theorem appSrc_sound {e sz n : Nat} {tx : TypeId} {x : PV} {v : Value} {news : List PV} {i : TypeInfo} {zv : Value} {z : List PV} (hw : WRel C H w) (hx : VRel C x v) (hi : P.info? e = some i) (hs : i.size = sz) (hz : i.zero = some zv)
    (hzc : zcells P e = some z) (hzl' : z.length = sz) (hpos : 0 < sz) (h : appSrc P H e sz tx x = some (news, n)) :
    ∃ us, App P i zv tx v n us w ∧ Rel C news us ∧ us.length = news.length ∧ news.length = n * sz ∧ ∀ x ∈ news, x.cell = true := by
  unfold appSrc at h
  split at h
  · rename_i e' hu
    obtain ⟨ad, cap, us, rfl, hcap, hl, hn, hR, hc, hat⟩ := scells_sound hw hx h
    refine ⟨us, .inl ⟨.inl ⟨e', hu⟩, fun _ => rfl, ?_, ?_, by rw [hl, hn, hs], hR.oneCell hl hc⟩, hR, hl, hn, hc⟩
    · rw [hs]; exact first_of (by omega) hat
    · rw [hs]; exact first_of (w := w.drew) (by omega) (by rcases hat with h1 | ⟨b, o, h1, h2⟩; exact .inl h1; exact .inr ⟨b, o, h1, h2⟩)
  · rename_i kn k nn hu
    rw [hzc] at h
    simp only at h
    split at h
    · rename_i hq
      simp only [Option.some.injEq, Prod.mk.injEq] at h
      obtain ⟨rfl, rfl⟩ := h
      obtain rfl := inv_int hx
      obtain ⟨i', zv', hi', hzv', hzr, hzl, hzcc⟩ := zcells_of hzc
      rw [hi] at hi'
      injection hi' with hi'
      subst hi'
      rw [hz] at hzv'
      injection hzv' with hzv'
      subst hzv'
      have hsz : zv.cells.size = sz := by rw [← Array.length_toList, hzl, hzl']
      refine ⟨(Builtin.zeroCells zv.cells nn.toNat).toList, .inr ⟨kn, k, hu, by congr 1; omega, rfl, by omega, by rw [hsz, hs]⟩, zero_rel hzl (hzr C) (by omega), ?_, ?_, reps_cell hzcc⟩
      · rw [Array.length_toList, size_zeroCells, length_reps, hsz, hzl']
      · rw [length_reps, hzl']
    · cases h
  · rename_i s hu
    split at h
    · rename_i h1
      simp only [Option.some.injEq, Prod.mk.injEq] at h
      obtain ⟨rfl, rfl⟩ := h
      obtain ⟨s', rfl, rfl⟩ := inv_str hx
      have hsz : s'.size = s'.data.toList.length := by rw [Array.length_toList]; rfl
      refine ⟨byteCells s', .inl ?_, ?_, ?_, ?_, ?_⟩
      · rw [hs, h1, ← hsz]; exact Src.ofString w hu s'
      · intro j x u hx hu
        simp only [byteCells, List.getElem?_map, Option.map_eq_some_iff] at hx hu
        obtain ⟨b, hb, rfl⟩ := hx
        obtain ⟨b', hb', rfl⟩ := hu
        rw [hb] at hb'
        injection hb' with hb'
        subst hb'
        exact .int _ _
      · simp [byteCells]
      · simp [h1]
      · intro x hx
        obtain ⟨b, _, rfl⟩ := List.mem_map.1 hx
        rfl
    · cases h
  · cases h

theorem pappend_sound {t tx ty : TypeId} {s x v : PV} {p q : Value} {H' : Heap} (hw : WRel C H w) (hsv : VRel C s p) (hx : VRel C x q) (h : pappend P H t tx s x = some (v, H')) :
    ∃ C' u w', CLe C C' ∧ WRel C' H' w' ∧ Below C.B w w' ∧ VRel C' v u ∧ (Builtin.append_ #[t, tx] ty #[p, q]).run P w = .ok u w' := by
  unfold pappend at h
  split at h
  · rename_i e hu
    split at h
    · rename_i sz b z hn hb hz
      split at h
      · rename_i hpz
        obtain ⟨i, zv, hi, hzv, hzr, hzl, hzc⟩ := zcells_of hz
        obtain ⟨ie, hie, hs⟩ := szT_info hn
        obtain ⟨ib, hib, hby⟩ := byT_info hb
        rw [hi] at hie hib
        injection hie with hie
        injection hib with hib
        subst hie hib
        split at h
        · rename_i news n hsrc
          obtain ⟨us, happ, hRn, hln, hnn, hcn⟩ := appSrc_sound hw hx hi hs hzv hz hpz.2 hpz.1 hsrc
          have hzsize : ∀ m, (Builtin.zeroCells zv.cells m).size = m * sz := fun m => by
            rw [size_zeroCells, ← Array.length_toList, hzl, hpz.2]
          -- a new row
          have grown : ∀ (xs : List PV) (len cap : Nat) (ad : Option Addr) (os : List Value), os.length = xs.length → xs.length = len * sz → Rel C xs os → cap < len + n → (len + n) * b ≤ 140737488355328 → len + n ≤ 140737488355328 →
              ((len = 0 ∧ os = []) ∨ ∃ b o, ad = some ⟨b, o, none⟩ ∧ At w b o os) →
              ∃ cur nc, (Builtin.append_ #[t, tx] ty #[.slice ad len cap, q]).run P w = .ok (.slice (some ⟨w.heap.size, 0, none⟩) (len + n) nc) (w.drew.alloc (.cells cur e)) ∧ Rel C (xs ++ news) cur.toList ∧
                (xs ++ news).length ≤ cur.size ∧ cur.size = nc * sz ∧ len + n ≤ nc ∧ nc ≤ maxLen := by
            intro xs len cap ad os hos hxs hR hg h47 hm hat
            have hold : (Builtin.firstCells i.size len (.slice ad len cap)).run P w.drew = .ok os.toArray w.drew := by
              rw [hs]; exact first_of (w := w.drew) (by omega) (by rcases hat with h1 | ⟨b, o, h1, h2⟩; exact .inl h1; exact .inr ⟨b, o, h1, h2⟩)
            have hr := app_grow (P := P) (ty := ty) hu hi hzv hold happ hg (by rw [hby]; exact h47) hm (by rw [hs]; exact hpz.1)
            have hge := grownCap_ge w (len + n) cap e
            refine ⟨_, _, hr, ?_, ?_, ?_, hge, grownCap_le_maxLen w _ _ _ (by simp only [maxLen]; omega)⟩
            · intro j x u hx hu'
              have hlt : j < (xs ++ news).length := (List.getElem?_eq_some_iff.1 hx).1
              refine Rel.append hos hR hRn j x u hx ?_
              rw [Array.toList_append, List.getElem?_append_left (by simp at hlt ⊢; omega)] at hu'
              exact hu'
            · simp; omega
            · rw [Array.size_append, hzsize]
              simp only [List.size_toArray, List.length_append, hos, hxs, hln, hnn, ← Nat.add_mul]
              congr 1
              omega
          split at h
          · rename_i xs len full
            split at h
            · rename_i h0
              subst h0
              simp only [Option.some.injEq, Prod.mk.injEq] at h
              obtain ⟨rfl, rfl⟩ := h
              have hle : ∃ ad cap, p = .slice ad len cap ∧ len ≤ cap := by
                cases hsv with
                | slice _ _ _ _ hcap _ _ => exact ⟨_, _, rfl, hcap⟩
                | sliceN => exact ⟨_, _, rfl, Nat.le_refl _⟩
              obtain ⟨ad, cap, rfl, hle⟩ := hle
              exact ⟨C, _, w, .refl _, hw, .refl _ _, hsv, app_nothing hu hi happ hle⟩
            · rename_i h0
              split at h
              · rename_i hq
                simp only [Option.some.injEq, Prod.mk.injEq] at h
                obtain ⟨rfl, rfl⟩ := h
                have hshape : ∃ ad os, p = .slice ad len len ∧ os.length = xs.length ∧ Rel C xs os ∧ (∀ x ∈ xs, x.cell = true) ∧ ((len = 0 ∧ os = []) ∨ ∃ b o, ad = some ⟨b, o, none⟩ ∧ At w b o os) := by
                  cases hsv with
                  | @slice _ _ cap b' o' _ us' hl' hM' hc' hR' hcap' hmax' hf' => rw [hf' hq.1]; exact ⟨_, us', rfl, hl', hR', hc', .inr ⟨b', o', rfl, hw.at_imm hM'⟩⟩
                  | sliceN => exact ⟨_, [], rfl, rfl, fun j x u hx => by simp at hx, fun x hx => by simp at hx, .inl ⟨rfl, rfl⟩⟩
                obtain ⟨ad, os, rfl, hos, hRx, hcx, hat⟩ := hshape
                obtain ⟨cur, nc, hr, r1, r2, r3, r4, r5⟩ := grown xs len len ad os hos hq.2.1 hRx (by omega) hq.2.2.1 hq.2.2.2 hat
                obtain ⟨c1, c2, c30⟩ := hw.drew.allocOwn cur e (xs ++ news) (xs ++ news).length (fun x hx => by rcases List.mem_append.1 hx with hx | hx; exact hcx x hx; exact hcn x hx) r2 (fun j x u hx hu => r1 j x u hx (by simpa using hu))
                have c3 := ((Below.refl C.B w).drew).trans c30
                refine ⟨_, _, _, c1, c2, c3, ?_, hr⟩
                refine .msl ?_ ?_ r4 r5 (fun _ => ⟨rfl, ?_⟩)
                · simp [Ctx.more, ← hw.len]
                · simp [Ctx.more, ← hw.lenv]
                · simp [Ctx.more, ← hw.lenc, r3]
              · cases h
          · rename_i id ver off len sz' g
            split at h
            · rename_i k hk
              split at h
              · rename_i hq
                obtain ⟨hver, hgt, hoff, hsz, hke, hkl, hvl, h47, hmx⟩ := hq
                subst hver hgt hoff hsz
                have hid : id < H.length := (List.getElem?_eq_some_iff.1 hk).1
                obtain ⟨bb, cap, off', q1, rfl, hc1, hc2, ho, hg⟩ | ⟨ad, hgh, hl0, rfl⟩ := inv_msl hw hsv (hw.ver id k hk)
                rotate_left
                · subst hl0
                  split at h
                  · rename_i h0
                    subst h0
                    simp only [Option.some.injEq, Prod.mk.injEq] at h
                    obtain ⟨rfl, rfl⟩ := h
                    exact ⟨C, _, w, .refl _, hw, .refl _ _, hsv, app_nothing hu hi happ (Nat.le_refl _)⟩
                  · rename_i h0
                    simp only [Option.some.injEq, Prod.mk.injEq] at h
                    obtain ⟨rfl, rfl⟩ := h
                    subst hke
                    have hnil : k.cells = [] := List.eq_nil_of_length_eq_zero (by omega)
                    have hnp : 0 < news.length := by rw [hnn]; exact Nat.mul_pos (by omega) hpz.1
                    obtain ⟨cur', nc, hr, r1, r2, r3, r4, r5⟩ := grown k.cells 0 0 ad [] (by simp [hnil]) (by simp [hnil]) (by rw [hnil]; exact fun j x u hx => by simp at hx) (by omega) h47 hmx (.inl ⟨rfl, rfl⟩)
                    obtain ⟨c1, c2, c30⟩ := hw.drew.move hk (k.cells ++ news).length (by rw [List.length_append]; omega) (k.cells ++ news) cur' (fun x hx => by rcases List.mem_append.1 hx with hx | hx; (rw [hnil] at hx; cases hx); exact hcn x hx) r2 (fun j x u hx hu => r1 j x u hx (by simpa using hu))
                    have c3 := ((Below.refl C.B w).drew).trans c30
                    refine ⟨_, _, _, c1, c2, c3, ?_, hr⟩
                    refine .msl (b := w.heap.size) ?_ ?_ r4 r5 (fun _ => ⟨rfl, ?_⟩)
                    · show (C.mu.set id (some w.heap.size))[id]? = _
                      simp [hw.len, hid]
                    · simp [hw.lenv, hid]
                    · simp [hw.lenc, hid, r3]
                obtain ⟨cur, q3, q5, q6, q7, q8, q9, q10⟩ := hw.blk hk q1
                have q2 := hw.ver id k hk
                obtain ⟨_, rfl, hcp⟩ := hg rfl
                rw [q3] at hcp
                injection hcp with hcp
                split at h
                · rename_i h0
                  subst h0
                  simp only [Option.some.injEq, Prod.mk.injEq] at h
                  obtain ⟨rfl, rfl⟩ := h
                  exact ⟨C, _, w, .refl _, hw, .refl _ _, hsv, app_nothing hu hi happ hc1⟩
                · rename_i h0
                  simp only [Option.some.injEq, Prod.mk.injEq] at h
                  obtain ⟨rfl, rfl⟩ := h
                  subst hke
                  have hRk : Rel C k.cells cur.toList := by
                    obtain ⟨cur2, _, _, r5, _, _, r8⟩ := hw.own id k bb hk q1
                    rw [q5] at r5
                    injection r5 with r5
                    injection r5 with r5
                    subst r5
                    exact fun j x u hx hu => r8 j x u hx (by simpa using hu)
                  by_cases hroom : len + n ≤ cap
                  · have hfit : len * sz' + us.length ≤ cur.size := by
                      rw [hcp, hln, hnn, ← Nat.add_mul]
                      exact Nat.mul_le_mul_right _ hroom
                    have hst := run_storeCells_at P bb (len * sz') k.e us 0 cur w q5 (by omega) (hRn.oneCell hln hcn)
                    rw [Nat.add_zero] at hst
                    have hr := app_room (P := P) (t := t) (tx := tx) (ty := ty) (b := bb) (off := 0) (sLen := len) (sCap := cap) hu hi hzv happ hroom
                      (by rw [hby]; exact Nat.le_trans (Nat.mul_le_mul_right _ (by omega)) h47) (by rw [Nat.zero_add, hs]; exact hst)
                    have hsize : (cur.toList.take (len * sz') ++ us ++ cur.toList.drop (len * sz' + us.length)).toArray.size = cur.size := by simp; omega
                    obtain ⟨c1, c2, c3⟩ := hw.write hk q1 q5 (k.cells ++ news).length (by rw [List.length_append]; omega) (k.cells ++ news) (cur.toList.take (len * sz') ++ us ++ cur.toList.drop (len * sz' + us.length)).toArray hsize
                      (fun x hx => by rcases List.mem_append.1 hx with hx | hx; exact q6 x hx; exact hcn x hx) (by rw [hsize]; simp; omega) (fun j x u hx hu => by
                        have hlt : j < (k.cells ++ news).length := (List.getElem?_eq_some_iff.1 hx).1
                        have hu2 : (cur.toList.take (len * sz') ++ us ++ cur.toList.drop (len * sz' + us.length))[j]? = some u := by simpa using hu
                        rw [List.getElem?_append_left (by simp at hlt ⊢; omega)] at hu2
                        refine Rel.append (C := C) (by simp; omega) (us := cur.toList.take (len * sz')) ?_ hRn j x u hx hu2
                        rw [← hkl]; exact q9)
                    refine ⟨_, _, _, c1, c2, c3, ?_, hr⟩
                    refine .msl q1 ?_ hroom hc2 (fun _ => ⟨rfl, ?_⟩)
                    · simp [hw.lenv, hid]
                    · show C.cp[id]? = _; rw [q3, hcp]
                  · obtain ⟨cur', nc, hr, r1, r2, r3, r4, r5⟩ := grown k.cells len cap (some ⟨bb, 0, none⟩) (cur.toList.take k.cells.length) q10 hkl q9 (by omega) h47 hmx (.inr ⟨bb, 0, rfl, q8⟩)
                    obtain ⟨c1, c2, c30⟩ := hw.drew.move hk (k.cells ++ news).length (by rw [List.length_append]; exact Nat.lt_of_le_of_lt hvl (Nat.lt_add_of_pos_right (by rw [hnn]; exact Nat.mul_pos (by omega) hpz.1))) (k.cells ++ news) cur' (fun x hx => by rcases List.mem_append.1 hx with hx | hx; exact q6 x hx; exact hcn x hx) r2 (fun j x u hx hu => r1 j x u hx (by simpa using hu))
                    have c3 := ((Below.refl C.B w).drew).trans c30
                    refine ⟨_, _, _, c1, c2, c3, ?_, hr⟩
                    refine .msl ?_ ?_ r4 r5 (fun _ => ⟨rfl, ?_⟩)
                    · simp [hw.len, hid]
                    · simp [hw.lenv, hid]
                    · simp [hw.lenc, hid, r3]
              · cases h
            · cases h
          · cases h
        · cases h
      · cases h
    · cases h
  · cases h

end Go.Proofs.YtahomnplappbpaaGreatDoor.Pm
