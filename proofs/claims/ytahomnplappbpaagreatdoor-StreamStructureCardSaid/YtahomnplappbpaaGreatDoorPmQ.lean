/-
  A small program logic over abstract values: == on structs and arrays. No condition. Program-independent.
-/
import Derived.Test.YtahomnplappbpaaGreatDoorPmX
import Derived.Laws.StructEq
import Derived.ChangeKeysEq
namespace Go.Proofs.YtahomnplappbpaaGreatDoor.Pm
set_option linter.all false
set_option linter.unusedVariables false
set_option linter.unusedSimpArgs false
open Go.RowKit

variable {P : Program} {C : Ctx} {H : Heap} {w : World} {F : Nat → PV} {a : Act} {N : Nat}

theorem str_eq {a b : List UInt8} {p q : ByteArray} (hp : p.data.toList = a) (hq : q.data.toList = b) : (p.toList == q.toList) = (a == b) := by
  rw [ByteArray.toList_eq, ByteArray.toList_eq, hp, hq]

theorem peqS_sound {d : Nat} {t : TypeId} {u : TypeDesc} {x y : PV} {p q : Value} {b : Bool} (hu : P.underlying t = some u) (hx : VRel C x p) (hy : VRel C y q) (h : peqS u x y = some b) : (Op.equalIn (d + 1) t p q).run P w = .ok b w := by
  unfold peqS at h
  split at h
  · obtain rfl := inv_int hx
    obtain rfl := inv_int hy
    split at h
    · rename_i hk; subst hk; injection h with h; subst h; exact run_equalIn_int w d t _ _ _ _ hu
    · cases h
  · obtain rfl := inv_bool hx
    obtain rfl := inv_bool hy
    injection h with h; subst h; exact run_equalIn_bool' w d t _ _ hu
  · obtain ⟨s, rfl, e1⟩ := inv_str hx
    obtain ⟨s', rfl, e2⟩ := inv_str hy
    injection h with h; subst h
    rw [run_equalIn_string w d t _ _ hu, str_eq e1 e2]
  · cases h

theorem scalT_of {e : TypeId} {u : TypeDesc} (h : scalT P e = some u) : P.underlying e = some u ∧ aggT P e = some false := by
  unfold scalT at h
  unfold aggT
  split at h <;> first | (rename_i hu; injection h with h; subst h; rw [hu]; exact ⟨rfl, rfl⟩) | cases h

theorem peqI_sound {d e : Nat} {u : TypeDesc} (hs : scalT P e = some u) {us vs : List Value} : ∀ (xs ys : List PV) (j : Nat) (b : Bool), (∀ (i : Nat) (x : PV), xs[i]? = some x → ∃ u, us[j + i]? = some u ∧ VRel C x u) →
    (∀ (i : Nat) (x : PV), ys[i]? = some x → ∃ u, vs[j + i]? = some u ∧ VRel C x u) → peqI u xs ys = some b → (Op.eqItems (d + 1) e 1 us.toArray vs.toArray (List.range' j xs.length)).run P w = .ok b w
  | [], [], j, b, hx, hy, h => by simp only [peqI, Option.some.injEq] at h; subst h; simp [Op.eqItems]
  | [], _ :: _, j, b, hx, hy, h => by simp [peqI] at h
  | _ :: _, [], j, b, hx, hy, h => by simp [peqI] at h
  | x :: xs, y :: ys, j, b, hx, hy, h => by
    obtain ⟨hu, hna⟩ := scalT_of hs
    simp only [peqI] at h
    split at h
    · rename_i c hc
      simp only [Option.map_eq_some_iff] at h
      obtain ⟨r, hr, rfl⟩ := h
      obtain ⟨u1, hu1, hux⟩ := hx 0 x rfl
      obtain ⟨v1, hv1, hvy⟩ := hy 0 y rfl
      have ih := peqI_sound hs (d := d) (us := us) (vs := vs) xs ys (j + 1) r (fun i x hx' => by
        have := hx (i + 1) x (by simpa using hx'); rw [show j + 1 + i = j + (i + 1) by omega]; exact this) (fun i x hx' => by
        have := hy (i + 1) x (by simpa using hx'); rw [show j + 1 + i = j + (i + 1) by omega]; exact this) hr
      rw [Nat.add_zero] at hu1 hv1
      have p1 : (part e us.toArray (j * 1)).run P w = .ok u1 w := by simp [part, aggT_run hna, hu1]
      have p2 : (part e vs.toArray (j * 1)).run P w = .ok v1 w := by simp [part, aggT_run hna, hv1]
      rw [List.length_cons, List.range'_succ]
      simp only [Op.eqItems, Sem.run_bind, p1, p2, Result.andThen_ok, peqS_sound (d := d) hu hux hvy hc]
      cases c with
      | false => simp
      | true => simpa using ih
    · cases h

theorem peqF_sound {d : Nat} {eq : TypeId → PV → PV → Option Bool} {xs ys : List PV} {us vs : List Value} (hlx : us.length = xs.length) (hcx : ∀ x ∈ xs, x.cell = true) (hRx : Rel C xs us) (hly : vs.length = ys.length) (hcy : ∀ x ∈ ys, x.cell = true) (hRy : Rel C ys vs)
    (heq : ∀ t x y p q b, VRel C x p → VRel C y q → eq t x y = some b → (Op.equalIn d t p q).run P w = .ok b w) : ∀ (fs : List Field) (b : Bool), peqF eq P xs ys fs = some b → (Op.eqFields d us.toArray vs.toArray fs).run P w = .ok b w
  | [], b, h => by simp only [peqF, Option.some.injEq] at h; subst h; simp [Op.eqFields]
  | f :: fs, b, h => by
    simp only [peqF] at h
    split at h
    · cases h
    · rename_i hn
      have hn' : f.name ≠ "_" := of_decide_eq_false hn
      split at h
      · rename_i a c ha hc
        split at h
        · rename_i r hr
          simp only [Option.map_eq_some_iff] at h
          obtain ⟨q, hq, rfl⟩ := h
          obtain ⟨p1, hp1, e1⟩ := part_sound (P := P) (w := w) hlx hcx hRx ha
          obtain ⟨p2, hp2, e2⟩ := part_sound (P := P) (w := w) hly hcy hRy hc
          have ih := peqF_sound hlx hcx hRx hly hcy hRy heq fs q hq
          simp only [Op.eqFields, hn', ne_eq, not_false_eq_true, if_true, Sem.run_bind, e1, e2, Result.andThen_ok, heq _ _ _ _ _ _ hp1 hp2 hr]
          cases r with
          | false => simp
          | true => simpa using ih
        · cases h
      · cases h
theorem peqA_sound {d e n : Nat} {eq : TypeId → PV → PV → Option Bool} {xs ys : List PV} {us vs : List Value} (hlx : us.length = xs.length) (hcx : ∀ x ∈ xs, x.cell = true) (hRx : Rel C xs us) (hly : vs.length = ys.length) (hcy : ∀ x ∈ ys, x.cell = true) (hRy : Rel C ys vs)
    (heq : ∀ t x y p q b, VRel C x p → VRel C y q → eq t x y = some b → (Op.equalIn d t p q).run P w = .ok b w) : ∀ (is : List Nat) (b : Bool), peqA eq P e n xs ys is = some b → (Op.eqItems d e n us.toArray vs.toArray is).run P w = .ok b w
  | [], b, h => by simp only [peqA, Option.some.injEq] at h; subst h; simp [Op.eqItems]
  | i :: is, b, h => by
    simp only [peqA] at h
    split at h
    · rename_i a c ha hc
      split at h
      · rename_i r hr
        simp only [Option.map_eq_some_iff] at h
        obtain ⟨q, hq, rfl⟩ := h
        obtain ⟨p1, hp1, e1⟩ := part_sound (P := P) (w := w) hlx hcx hRx ha
        obtain ⟨p2, hp2, e2⟩ := part_sound (P := P) (w := w) hly hcy hRy hc
        have ih := peqA_sound hlx hcx hRx hly hcy hRy heq is q hq
        simp only [Op.eqItems, Sem.run_bind, e1, e2, Result.andThen_ok, heq _ _ _ _ _ _ hp1 hp2 hr]
        cases r with
        | false => simp
        | true => simpa using ih
      · cases h
    · cases h

theorem peqT_sound : ∀ (d m : Nat) (t : TypeId) (x y : PV) (p q : Value) (b : Bool), VRel C x p → VRel C y q → peqT P d t x y = some b → (Op.equalIn (d + (m + 1)) t p q).run P w = .ok b w
  | 0, m, t, x, y, p, q, b, _, _, h => by simp [peqT] at h
  | d + 1, m, t, x, y, p, q, b, hx, hy, h => by
    rw [show d + 1 + (m + 1) = (d + (m + 1)) + 1 by omega]
    have ih := fun t x y p q b => peqT_sound d m t x y p q b
    simp only [peqT] at h
    split at h
    · rename_i fs hu
      split at h
      · rename_i xs ys
        split at h
        · rename_i hst
          cases hx with
          | agg hlx hcx hRx =>
            cases hy with
            | agg hly hcy hRy =>
              have hf : P.fieldsOf t = fs := by simp [Program.fieldsOf, hu]
              rw [run_equalIn_struct w (d + (m + 1)) t _ _ (by rw [hf]; exact hu) hst, hf]
              exact peqF_sound hlx hcx hRx hly hcy hRy ih fs.toList b h
        · cases h
      · cases h
    · rename_i len e hu
      split at h
      · rename_i xs ys
        cases hx with
        | @agg _ us hlx hcx hRx =>
          cases hy with
          | @agg _ vs hly hcy hRy =>
            split at h
            · rename_i u hs
              split at h
              · rename_i hq
                obtain ⟨h1, h2, h3⟩ := hq
                obtain ⟨i, hi, hsz⟩ := szT_info h1
                have hce : P.cellsOf e = 1 := by simp [Program.cellsOf, hi, hsz]
                rw [run_equalIn_array w (d + (m + 1)) _ _ hu hi, hce, List.range_eq_range', ← h2]
                have get : ∀ {zs : List PV} {ws : List Value}, ws.length = zs.length → Rel C zs ws → ∀ (i : Nat) (x : PV), zs[i]? = some x → ∃ u, ws[0 + i]? = some u ∧ VRel C x u := fun {zs ws} hl hR i x hx => by
                  have hlt : i < ws.length := by have := (List.getElem?_eq_some_iff.1 hx).1; omega
                  exact ⟨ws[i], by rw [Nat.zero_add]; exact List.getElem?_eq_getElem hlt, hR i x _ hx (List.getElem?_eq_getElem hlt)⟩
                exact peqI_sound (d := d + m) hs xs ys 0 b (get hlx hRx) (get hly hRy) h
              · cases h
            · rename_i hs
              split at h
              · rename_i n hn
                obtain ⟨i, hi, hsz⟩ := szT_info hn
                have hce : P.cellsOf e = n := by simp [Program.cellsOf, hi, hsz]
                rw [run_equalIn_array w (d + (m + 1)) _ _ hu hi, hce]
                exact peqA_sound hlx hcx hRx hly hcy hRy ih (List.range len) b h
              · cases h
      · cases h
    · rename_i u h1 h2 hu
      exact peqS_sound hu hx hy h
    · cases h

theorem peqG_sound {op : BinOp} {t : TypeId} {xs ys : List PV} {p q : Value} {v : PV} (X Y : Operand) (hx : VRel C (.agg xs) p) (hy : VRel C (.agg ys) q) (h : peqG P op t (.agg xs) (.agg ys) = some v) :
    ∃ u, VRel C v u ∧ (do eqGuard op t X Y p q; binOp op t p q : Sem Value).run P w = .ok u w := by
  unfold peqG at h
  split at h
  · rename_i hg
    split at h
    · rename_i b hb
      have he := peqT_sound (w := w) 12 9987 t _ _ _ _ b hx hy hb
      cases hx with
      | agg hlx hcx hRx =>
        cases hy with
        | agg hly hcy hRy =>
          cases op <;> simp only [peq] at h <;> first | (cases h; done) | skip
          · injection h with h; subst h
            refine ⟨_, .bool b, ?_⟩
            rw [Sem.run_bind, run_eqGuard_agg w _ _ _ _ _ _ hg, Result.andThen_ok, run_eql_struct]
            simp [he]
          · injection h with h; subst h
            refine ⟨_, .bool (!b), ?_⟩
            rw [Sem.run_bind, run_eqGuard_agg w _ _ _ _ _ _ hg, Result.andThen_ok, run_neq_struct]
            simp [he]
    · cases h
  · cases h

end Go.Proofs.YtahomnplappbpaaGreatDoor.Pm
