/-
  A small program logic over abstract values: each operation does in the model what 'pop' says. No condition. Program-independent. Part 3: addresses, slices, literals.
-/
import Derived.Test.YtahomnplappbpaaGreatDoorPmT
namespace Go.Proofs.YtahomnplappbpaaGreatDoor.Pm
set_option linter.all false
set_option linter.unusedVariables false
set_option linter.unusedSimpArgs false
open Go.RowKit

variable {P : Program} {C : Ctx} {H : Heap} {w : World} {F : Nat → PV} {a : Act} {N : Nat}

theorem pfieldAddr_sound {s : TypeId} {x v : PV} {p : Value} {f : Nat} (hw : WRel C H w) (hx : VRel C x p) (h : pfieldAddr P H s x f = some v) : ∃ u, VRel C v u ∧ (Instr.fieldAt s p f).run P w = .ok u w := by
  unfold pfieldAddr at h
  split at h
  · rename_i fs hu
    split at h
    · rename_i fd hfd
      split at h
      · rename_i n hn
        split at h
        case isFalse => cases h
        rename_i hpos
        obtain ⟨n, rfl⟩ := Nat.exists_eq_succ_of_ne_zero (Nat.pos_iff_ne_zero.1 hpos)
        split at h
        · rename_i xs off
          injection h with h
          subst h
          cases hx with
          | @ip _ _ b o us hl hM hc hR =>
            refine ⟨.pointer (some ⟨b, o + (off + fd.offset), none⟩), .ip hl hM hc hR, ?_⟩
            simp [Instr.fieldAt, run_underlying hu, hfd, Instr.sureAddr, fieldPlace, szT_run hn, Addr.add_lit, Nat.add_assoc]
        · rename_i id ver off
          split at h
          · rename_i hlv
            injection h with h
            subst h
            have hv := (live_vs hw hlv).1
            obtain ⟨b, hb, rfl⟩ := inv_ptr hw hx hv
            refine ⟨.pointer (some ⟨b, off + fd.offset, none⟩), .ptr hb hv, ?_⟩
            simp [Instr.fieldAt, run_underlying hu, hfd, Instr.sureAddr, fieldPlace, szT_run hn, Addr.add_lit]
          · cases h
        · cases h
      · cases h
    · cases h
  · cases h

theorem pfield_sound {s : TypeId} {x v : PV} {p : Value} {f : Nat} (hx : VRel C x p) (h : pfield P s x f = some v) : ∃ u, VRel C v u ∧ (Instr.field s p f).run P w = .ok u w := by
  unfold pfield at h
  split at h
  · rename_i fs hu
    split at h
    · rename_i fd hfd
      split at h
      · rename_i cs
        cases hx with
        | agg hl hc hR =>
          obtain ⟨u, hv, hr⟩ := part_sound (P := P) (w := w) hl hc hR h
          exact ⟨u, hv, by simp [Instr.field, run_underlying hu, hfd, asAgg, hr]⟩
      · cases h
    · cases h
  · cases h

theorem pindexAddr_sound {t : TypeId} {x i v : PV} {p q : Value} (hw : WRel C H w) (hx : VRel C x p) (hi : VRel C i q) (h : pindexAddr P H t x i = some v) :
    ∃ u, VRel C v u ∧ (Instr.indexAt t p q).run P w = .ok u w := by
  unfold pindexAddr at h
  split at h
  · rename_i e xs len full k i hu
    obtain rfl := inv_int hi
    split at h
    · rename_i n hn
      split at h
      · rename_i hh
        injection h with h
        subst h
        cases hx with
        | @slice _ _ cap b o _ us hl hM hc hR hcap hmax hf =>
          refine ⟨.pointer (some ⟨b, o + i.toNat * n, none⟩), .ip hl hM hc hR, ?_⟩
          simp [Instr.indexAt, asIntOf, run_underlying hu, szT_run hn, hh.1, hh.2.1, Addr.add_lit]
        | sliceN => omega
      · cases h
    · cases h
  · rename_i e id ver off len sz g k i hu
    obtain rfl := inv_int hi
    split at h
    · rename_i n hn hlv
      split at h
      · rename_i hh
        injection h with h
        subst h
        have hv := (live_vs hw hlv).1
        obtain ⟨b, cap, off', hb, rfl, hc1, hc2, ho, _⟩ | ⟨ad, _, h0, _⟩ := inv_msl hw hx hv
        rotate_left
        · omega
        obtain rfl := ho (by omega)
        refine ⟨.pointer (some ⟨b, off' + i.toNat * n, none⟩), .ptr hb hv, ?_⟩
        simp [Instr.indexAt, asIntOf, run_underlying hu, szT_run hn, hh.1, hh.2, Addr.add_lit]
      · cases h
    · cases h
  · rename_i len e id ver off k i hu
    obtain rfl := inv_int hi
    split at h
    · rename_i n hn hlv
      split at h
      · rename_i hh
        injection h with h
        subst h
        have hv := (live_vs hw hlv).1
        obtain ⟨b, hb, rfl⟩ := inv_ptr hw hx hv
        refine ⟨.pointer (some ⟨b, off + i.toNat * n, none⟩), .ptr hb hv, ?_⟩
        simp [Instr.indexAt, asIntOf, run_underlying hu, szT_run hn, hh.1, hh.2, Addr.add_lit, Instr.sureAddr]
      · cases h
    · cases h
  · rename_i len e xs off k i hu
    obtain rfl := inv_int hi
    split at h
    · rename_i n hn
      split at h
      · rename_i hh
        injection h with h
        subst h
        cases hx with
        | @ip _ _ b o us hl hM hc hR =>
          refine ⟨.pointer (some ⟨b, o + (off + i.toNat * n), none⟩), .ip hl hM hc hR, ?_⟩
          simp [Instr.indexAt, asIntOf, run_underlying hu, szT_run hn, hh.1, hh.2, Addr.add_lit, Instr.sureAddr, Nat.add_assoc]
      · cases h
    · cases h
  · cases h

theorem pindex_sound {t : TypeId} {x i v : PV} {p q : Value} (hx : VRel C x p) (hi : VRel C i q) (h : pindex P t x i = some v) : ∃ u, VRel C v u ∧ (Instr.index t p q).run P w = .ok u w := by
  unfold pindex at h
  split at h
  · rename_i len e cs k i hu
    obtain rfl := inv_int hi
    split at h
    · rename_i n hn
      split at h
      · rename_i hh
        cases hx with
        | agg hl hc hR =>
          obtain ⟨u, hv, hr⟩ := part_sound (P := P) (w := w) hl hc hR h
          exact ⟨u, hv, by simp [Instr.index, asIntOf, run_underlying hu, szT_run hn, hh.1, hh.2, hr]⟩
      · cases h
    · cases h
  · rename_i s k i hu
    obtain rfl := inv_int hi
    split at h
    · rename_i hh
      injection h with h
      subst h
      obtain ⟨s', rfl, rfl⟩ := inv_str hx
      have hsz : s'.size = s'.data.toList.length := by rw [Array.length_toList]; rfl
      have hlt : i.toNat < s'.size := by omega
      refine ⟨_, .int _ _, ?_⟩
      have hg : s'[i.toNat]? = some s'[i.toNat] := ByteArray.getElem?_lt' s' _ hlt
      have hb : s'.data.toList.getD i.toNat 0 = s'[i.toNat] := by
        rw [List.getD_eq_getElem?_getD, List.getElem?_eq_getElem (by omega), Option.getD_some, Array.getElem_toList]
        rfl
      simp only [Instr.index, asIntOf, Sem.run_bind, Sem.run_pure, Result.andThen_ok, run_underlying hu, hh.1, if_true, hg, hb]
    · cases h
  · cases h

/-- Options of values. -/
def ORel (C : Ctx) (x : Option PV) (v : Option Value) : Prop := match x, v with | none, none => True | some x, some v => VRel C x v | _, _ => False

theorem bound_run {x : PV} {v : Value} {d n y : Nat} {code : BoundsCode} (hx : VRel C x v) (h : pbound d (some x) = some n) (hy : n ≤ y) : (Instr.sliceBound v y code).run P w = .ok n w := by
  unfold pbound at h
  split at h
  · rename_i hx'; cases hx'
  · rename_i k i hx'
    injection hx' with hx'
    subst hx'
    obtain rfl := inv_int hx
    split at h
    · injection h with h
      subst h
      have : i ≤ (y : Int) := by omega
      simp [Instr.sliceBound, asIntOf, *]
    · cases h
  · cases h

theorem bounds_run {isSlice : Bool} {len cap l h m : Nat} {lo hi mx : Option PV} {lo' hi' mx' : Option Value} (rlo : ORel C lo lo') (rhi : ORel C hi hi') (rmx : ORel C mx mx')
    (h1 : pbound 0 lo = some l) (h2 : pbound len hi = some h) (h3 : (mx = none ∧ m = cap ∧ h ≤ cap) ∨ (pbound len mx = some m ∧ mx ≠ none ∧ hi ≠ none ∧ h ≤ m ∧ m ≤ cap)) (hlh : l ≤ h) :
    (Instr.sliceBounds isSlice len cap lo' hi' mx').run P w = .ok (l, h, m) w := by
  rcases h3 with ⟨rfl, rfl, h4⟩ | ⟨h3, hm, hh, h4, h5⟩
  · cases mx' with
    | some _ => exact rmx.elim
    | none =>
      cases hi with
      | none =>
        cases hi' with
        | some _ => exact rhi.elim
        | none =>
          simp only [pbound, Option.some.injEq] at h2
          subst h2
          cases lo with
          | none =>
            cases lo' with
            | some _ => exact rlo.elim
            | none => simp only [pbound, Option.some.injEq] at h1; subst h1; simp [Instr.sliceBounds]
          | some x =>
            cases lo' with
            | none => exact rlo.elim
            | some v => simp [Instr.sliceBounds, bound_run (P := P) (w := w) rlo h1 hlh]
      | some y =>
        cases hi' with
        | none => exact rhi.elim
        | some v' =>
          cases lo with
          | none =>
            cases lo' with
            | some _ => exact rlo.elim
            | none => simp only [pbound, Option.some.injEq] at h1; subst h1; simp [Instr.sliceBounds, bound_run (P := P) (w := w) rhi h2 h4]
          | some x =>
            cases lo' with
            | none => exact rlo.elim
            | some v => simp [Instr.sliceBounds, bound_run (P := P) (w := w) rhi h2 h4, bound_run (P := P) (w := w) rlo h1 hlh]
  · cases mx with
    | none => exact absurd rfl hm
    | some z =>
      cases mx' with
      | none => exact rmx.elim
      | some vz =>
        cases hi with
        | none => exact absurd rfl hh
        | some y =>
          cases hi' with
          | none => exact rhi.elim
          | some v' =>
            cases lo with
            | none =>
              cases lo' with
              | some _ => exact rlo.elim
              | none => simp only [pbound, Option.some.injEq] at h1; subst h1; simp [Instr.sliceBounds, bound_run (P := P) (w := w) rmx h3 h5, bound_run (P := P) (w := w) rhi h2 h4]
            | some x =>
              cases lo' with
              | none => exact rlo.elim
              | some v => simp [Instr.sliceBounds, bound_run (P := P) (w := w) rmx h3 h5, bound_run (P := P) (w := w) rhi h2 h4, bound_run (P := P) (w := w) rlo h1 hlh]

/-- A window of cells that are never written. -/
theorem window_rel {xs : List PV} {len cap b o l h m n : Nat} {full : Bool} {us : List Value} (hl : us.length = xs.length) (hM : ∀ (j : Nat) (u : Value), us[j]? = some u → C.M b (o + j) = some u)
    (hc : ∀ x ∈ xs, x.cell = true) (hR : Rel C xs us) (hxs : xs.length = len * n) (h1 : l ≤ h) (h2 : h ≤ m) (h3 : m ≤ cap) (h4 : h ≤ len) (hmax : cap ≤ maxLen) (hf : full = true → m = h) :
    VRel C (.slice ((xs.drop (l * n)).take ((h - l) * n)) (h - l) full) (.slice (if m = l then some ⟨b, o, none⟩ else some ⟨b, o + l * n, none⟩) (h - l) (m - l)) := by
  have hln : (h - l) * n + l * n = h * n := by rw [← Nat.add_mul]; congr 1; omega
  have hhn : h * n ≤ len * n := Nat.mul_le_mul_right n h4
  have hlen : ((us.drop (l * n)).take ((h - l) * n)).length = ((xs.drop (l * n)).take ((h - l) * n)).length := by simp [hl]
  split
  · have : h = l := by omega
    subst this
    refine .slice (us := []) (by simp) (fun j u hu => by simp at hu) (fun x hx => by simp at hx) (fun j x u hx => by simp at hx) (by omega) (by omega) (fun hft => by have := hf hft; omega)
  · refine .slice hlen (fun j u hu => ?_) (fun x hx => hc x (List.mem_of_mem_drop (List.mem_of_mem_take hx))) ((hR.drop _).take _) (by omega) (by omega) (fun hft => by have := hf hft; omega)
    rw [List.getElem?_take] at hu
    split at hu
    · rw [List.getElem?_drop] at hu
      have := hM _ u hu
      rwa [← Nat.add_assoc] at this
    · cases hu

theorem pslice_sound {t : TypeId} {x v : PV} {p : Value} {lo hi mx : Option PV} {lo' hi' mx' : Option Value} (hw : WRel C H w) (hx : VRel C x p) (rlo : ORel C lo lo') (rhi : ORel C hi hi') (rmx : ORel C mx mx')
    (h : pslice P H t x lo hi mx = some v) : ∃ u, VRel C v u ∧ (Instr.sliceAt t p lo' hi' mx').run P w = .ok u w := by
  unfold pslice at h
  split at h
  · rename_i e xs len full hu
    split at h
    · rename_i n l hh hn hl hhi
      split at h
      · split at h
        · rename_i hq
          injection h with h
          subst h
          cases hx with
          | @slice _ _ cap b o _ us hll hM hc hR hcap hmax hf =>
            have hb := bounds_run (P := P) (w := w) (isSlice := true) (cap := cap) (m := cap) rlo rhi rmx hl hhi (.inl ⟨rfl, rfl, by omega⟩) hq.1
            refine ⟨_, window_rel hll hM hc hR hq.2.2 hq.1 (by omega : hh ≤ cap) (Nat.le_refl _) hq.2.1 hmax (fun hft => by simp at hft; have := hf hft.1; omega), ?_⟩
            simp [Instr.sliceAt, Instr.slice, run_underlying hu, hb, szT_run hn, Addr.add_lit]
          | sliceN ad =>
            have hb := bounds_run (P := P) (w := w) (isSlice := true) (cap := 0) (m := 0) rlo rhi rmx hl hhi (.inl ⟨rfl, rfl, by omega⟩) hq.1
            have e1 : hh = 0 := by omega
            have e2 : l = 0 := by omega
            subst e1 e2
            refine ⟨.slice ad 0 0, by simpa using VRel.sliceN (C := C) ad _, ?_⟩
            cases ad <;> simp [Instr.sliceAt, Instr.slice, run_underlying hu, hb, szT_run hn, Addr.add]
        · cases h
      · rename_i z
        split at h
        · rename_i m y hm
          split at h
          · rename_i hq
            injection h with h
            subst h
            cases hx with
            | @slice _ _ cap b o _ us hll hM hc hR hcap hmax hf =>
              have hb := bounds_run (P := P) (w := w) (isSlice := true) (cap := cap) (m := m) rlo rhi rmx hl hhi (.inr ⟨hm, by simp, by simp, hq.2.1, by omega⟩) hq.1
              refine ⟨_, window_rel hll hM hc hR hq.2.2.2 hq.1 hq.2.1 (by omega : m ≤ cap) (by omega) hmax (fun hft => by simpa using hft), ?_⟩
              simp [Instr.sliceAt, Instr.slice, run_underlying hu, hb, szT_run hn, Addr.add_lit]
            | sliceN ad =>
              have hb := bounds_run (P := P) (w := w) (isSlice := true) (cap := 0) (m := m) rlo rhi rmx hl hhi (.inr ⟨hm, by simp, by simp, hq.2.1, by omega⟩) hq.1
              have e3 : m = 0 := by omega
              have e1 : hh = 0 := by omega
              have e2 : l = 0 := by omega
              subst e1 e2 e3
              refine ⟨.slice ad 0 0, by simpa using VRel.sliceN (C := C) ad _, ?_⟩
              cases ad <;> simp [Instr.sliceAt, Instr.slice, run_underlying hu, hb, szT_run hn, Addr.add]
          · cases h
        · cases h
    · cases h
  · rename_i e id ver off len sz g hu
    split at h
    · rename_i n l hh hn hl hhi hlv
      split at h
      · rename_i hq
        injection h with h
        subst h
        have hv := (live_vs hw hlv).1
        obtain ⟨b, cap, off', hb', rfl, hc1, hc2, ho, hg⟩ | ⟨ad, hgh, h0, rfl⟩ := inv_msl hw hx hv
        rotate_left
        · have e1 : hh = 0 := by omega
          have e2 : l = 0 := by omega
          subst e1 e2 h0
          have hb := bounds_run (P := P) (w := w) (isSlice := true) (cap := 0) (m := 0) rlo rhi rmx hl hhi (.inl ⟨rfl, rfl, by omega⟩) hq.1
          refine ⟨.slice ad 0 0, .mslG ad hgh hv, ?_⟩
          cases ad <;> simp [Instr.sliceAt, Instr.slice, run_underlying hu, hb, szT_run hn, Addr.add]
        have hb := bounds_run (P := P) (w := w) (isSlice := true) (cap := cap) (m := cap) rlo rhi rmx hl hhi (.inl ⟨rfl, rfl, by omega⟩) hq.1
        have hrun : (Instr.sliceAt t (.slice (some ⟨b, off', none⟩) len cap) lo' hi' mx').run P w = .ok (.slice (if cap = l then some ⟨b, off', none⟩ else some ⟨b, off' + l * n, none⟩) (hh - l) (cap - l)) w := by
          simp [Instr.sliceAt, Instr.slice, run_underlying hu, hb, szT_run hn, Addr.add_lit]
        refine ⟨_, ?_, hrun⟩
        cases lo with
        | none =>
          simp only [pbound, Option.some.injEq] at hl
          subst hl
          simp only [Nat.zero_mul, Nat.add_zero, Nat.sub_zero, ite_self]
          cases g with
          | true =>
            obtain ⟨g1, g2, g3⟩ := hg rfl
            subst g1 g2
            exact .msl hb' hv (by omega) hc2 (fun _ => ⟨rfl, g3⟩)
          | false =>
            rcases Nat.eq_zero_or_pos hh with h0 | h0
            · subst h0; exact .mslE hb' hv hc2
            · obtain rfl := ho (by omega)
              exact .msl hb' hv (by omega) hc2 (fun hf => by cases hf)
        | some y =>
          show VRel C (.msl id ver (off + l * n) (hh - l) sz false) _
          rcases Nat.eq_zero_or_pos (hh - l) with h0 | h0
          · rw [h0]
            by_cases hcl : cap = l
            · rw [if_pos hcl]; exact .mslE hb' hv (by omega)
            · rw [if_neg hcl]; exact .mslE hb' hv (by omega)
          · obtain rfl := ho (by omega)
            rw [if_neg (by omega)]
            exact .msl hb' hv (by omega) (by omega) (fun hf => by cases hf)
      · cases h
    · cases h
  · rename_i len e id ver off hu
    split at h
    · rename_i n l hh hn hl hhi hlv
      split at h
      · rename_i hq
        injection h with h
        subst h
        have hv := (live_vs hw hlv).1
        obtain ⟨b, hb', rfl⟩ := inv_ptr hw hx hv
        have hb := bounds_run (P := P) (w := w) (isSlice := false) (cap := len) (m := len) rlo rhi rmx hl hhi (.inl ⟨rfl, rfl, by omega⟩) hq.1
        have hrun : (Instr.sliceAt t (.pointer (some ⟨b, off, none⟩)) lo' hi' mx').run P w = .ok (.slice (some (if len = l then ⟨b, off, none⟩ else ⟨b, off + l * n, none⟩)) (hh - l) (len - l)) w := by
          simp [Instr.sliceAt, run_underlying hu, hb, szT_run hn, Addr.add_lit, Instr.sureAddr]
        refine ⟨_, ?_, hrun⟩
        have hmx : len ≤ maxLen := by simp only [maxLen]; omega
        rcases Nat.eq_zero_or_pos (hh - l) with h0 | h0
        · rw [h0]
          split
          · exact .mslE hb' hv (by omega)
          · exact .mslE hb' hv (by omega)
        · rw [if_neg (by omega)]
          exact .msl hb' hv (by omega) (by omega) (fun hf => by cases hf)
      · cases h
    · cases h
  · rename_i s hu
    split at h
    · rename_i l hh hl hhi
      split at h
      · rename_i hq
        injection h with h
        subst h
        obtain ⟨s', rfl, rfl⟩ := inv_str hx
        have hsz : s'.size = s'.data.toList.length := by rw [Array.length_toList]; rfl
        cases mx' with
        | some _ => exact rmx.elim
        | none =>
          rw [← hsz] at hhi
          have hb := bounds_run (P := P) (w := w) (isSlice := false) (cap := s'.size) (m := s'.size) rlo rhi rmx hl hhi (.inl ⟨rfl, rfl, by omega⟩) hq.1
          refine ⟨.string (s'.extract l hh), ?_, ?_⟩
          · have := VRel.str (C := C) (s'.extract l hh)
            rw [ByteArray.data_extract, Array.toList_extract, List.extract_eq_take_drop] at this
            exact this
          · simp [Instr.sliceAt, Instr.slice, run_underlying hu, hb]
      · cases h
    · cases h
  · cases h

end Go.Proofs.YtahomnplappbpaaGreatDoor.Pm
