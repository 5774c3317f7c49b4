/-
  Parts of the proof. No condition.
-/
import Derived.Shelf.SlSortCmp.NoneTotal
import Derived.Shelf.SlicesG.Cmp
import Derived.Test.YtbhdollgohgkgaaGreatDoorA26
import Derived.Test.YtbhdollgohgkgaaGreatDoorA20
import Derived.Test.YtbhdollgohgkgaaGreatDoorA19
namespace Go.Proofs.YtbhdollgohgkgaaGreatDoor.Sc
set_option linter.all false
set_option linter.unusedVariables false
set_option linter.unusedSimpArgs false
open Pm Ty S3 Go.RowKit

def encD (x : Int × Int) : List Value := [.int .i64 x.1, .int .i64 x.2]
def dPr (x : Nat × Nat) : Int × Int := ((x.1 : Int), (x.2 : Int))
def dArr (ds : List (Nat × Nat)) : Array (Int × Int) := (ds.map dPr).toArray
theorem dArr_size (ds : List (Nat × Nat)) : (dArr ds).size = ds.length := by simp [dArr]
def dcI (ds : List (Nat × Nat)) (j : Nat) : Int := if j % 2 = 0 then ((ds.getD (j / 2) (0, 0)).1 : Int) else ((ds.getD (j / 2) (0, 0)).2 : Int)
theorem dc_getI (ds : List (Nat × Nat)) (j : Nat) (h : j < ds.length * 2) : (dc ds)[j]? = some (.int .i64 (dcI ds j)) := by
  have hk : j / 2 < ds.length := by omega
  have hj : j = j / 2 * 2 + j % 2 := by omega
  have h2 := flat_get dd 2 ds (j / 2) (j % 2) hk (fun _ _ => rfl) (by omega)
  rw [← hj] at h2
  unfold dcI
  have hg : ds.getD (j / 2) (0, 0) = ds[j / 2] := by simp [hk]
  rw [hg]
  refine h2.trans ?_
  rcases Nat.mod_two_eq_zero_or_one j with h0 | h0
  · rw [h0]; rfl
  · rw [h0]; rfl
theorem dc_getF (ds : List (Nat × Nat)) (j : Nat) (h : j < ds.length * 2) : (Sort.flatK encD 2 (dArr ds))[j]! = .int .i64 (dcI ds j) := by
  have hk : j / 2 < ds.length := by omega
  rw [Sort.get_flatK encD 2 (dArr ds) j (by rw [dArr_size]; exact h)]
  have hd : (dArr ds)[j / 2]! = dPr ds[j / 2] := by simp [dArr, hk]
  have hg : ds.getD (j / 2) (0, 0) = ds[j / 2] := by simp [hk]
  unfold dcI
  rw [hd, hg]
  rcases Nat.mod_two_eq_zero_or_one j with h0 | h0
  · rw [h0]; rfl
  · rw [h0]; rfl

/-! ### the comparison -/
theorem ltD_eq (x y : Int × Int) : ltOf (fun x y : Int × Int => Lib.compareInt x.1 y.1) x y = decide (x.1 < y.1) := by
  unfold ltOf Lib.compareInt
  by_cases h1 : x.1 < y.1
  · simp [h1]
  · by_cases h2 : y.1 < x.1 <;> simp [h1, h2]
theorem swoD : Sort.SWO (ltOf fun x y : Int × Int => Lib.compareInt x.1 y.1) where
  irrefl x := by rw [ltD_eq]; simp
  trans x y z h1 h2 := by rw [ltD_eq] at *; simp at *; omega
  ntrans x y z h1 h2 := by rw [ltD_eq] at *; simp at *; omega
set_option maxHeartbeats 1000000 in
theorem closureD (x y : Int × Int) (W : World) : Calls Tryz.prog 12 #[.agg #[.int .i64 x.1, .int .i64 x.2], .agg #[.int .i64 y.1, .int .i64 y.2]] W fun e w' => e = .returned (.int .i64 (Lib.compareInt x.1 y.1)) ∧ ∃ q os', w' = Sort.grow (W.drewN q) os' := by
  have hcon := fun W' => AnyG.cmp_Compare_int Tryz.cmpIntL x.1 y.1 W'
  change ∀ W', Calls Tryz.prog 13 _ _ _ at hcon
  generalize Lib.compareInt x.1 y.1 = r at hcon ⊢
  go_enter Tryz.func12, Tryz.ntmps12
  go_wp2_with (go_at_call 13; refine (hcon _).mono ?_; rintro e w' ⟨rfl, rfl⟩)
  go_ret
  exact ⟨rfl, 0, _, by rw [Sort.alloc_eq_grow, Sort.alloc_eq_grow, Sort.grow_grow]; rfl⟩
theorem cmpLaysD (blk off size : Nat) (w : World) : CmpLays Tryz.prog 12 #[] encD 2 (fun x y => Lib.compareInt x.1 y.1) blk off size w :=
  fun _ _ _ _ x y => closureD x y _

/-! ### the sorted row in memory -/
section
variable {C : Ctx} {H : Heap} {w : World}
theorem holdsD (hw : WRel C H w) {ix b : Nat} {k : Blk} {ds : List (Nat × Nat)} (hk : H[ix]? = some k) (hc : k.cells = dc ds) (hm : C.mu[ix]? = some (some b)) : Sort.HoldsK encD 2 w b 0 (dArr ds) ∧ b < w.heap.size := by
  obtain ⟨cur, q1, q2, q3, q4, q5, q6⟩ := hw.own ix k b hk hm
  rw [hc] at q4 q5 q6
  rw [dc_lnC] at q5
  refine ⟨fun j hj => ?_, hw.mu_lt hm⟩
  rw [Sort.size_flatK, dArr_size] at hj
  have hjc : j < cur.size := by omega
  have h1 := q6 j _ cur[j] (dc_getI ds j hj) (Array.getElem?_eq_getElem hjc)
  rw [dc_getF ds j hj, Nat.zero_add]
  refine ⟨?_, ?_⟩
  · unfold World.cell?
    rw [q3]
    simp only [Option.isSome_none, Bool.false_eq_true, if_false]
    rw [Array.getElem?_eq_getElem hjc]
    generalize cur[j] = u at h1 ⊢
    cases h1; rfl
  · unfold World.frozen?
    rw [q3]; simp
theorem sortedD (hw : WRel C H w) {ix b e ver n : Nat} {os : Array Obj} {ds tgt : List (Nat × Nat)} (hk : H[ix]? = some ⟨e, ver, dc ds⟩) (hm : C.mu[ix]? = some (some b)) (hl : tgt.length = ds.length) :
    ∃ C', CLe C C' ∧ WRel C' (H.set ix ⟨e, ver, dc tgt⟩) (sortWorldK encD 2 w b 0 n (dArr tgt) os) ∧ Below C.B w (sortWorldK encD 2 w b 0 n (dArr tgt) os) := by
  obtain ⟨cur, q1, q2, q3, q4, q5, q6⟩ := hw.own ix _ b hk hm
  rw [dc_lnC] at q5
  have hsz : (Sort.putCells id 0 (Sort.flatK encD 2 (dArr tgt)) cur).size = cur.size := by simp [Sort.putCells]
  obtain ⟨c1, c2, c3⟩ := hw.write hk hm q3 ver (Nat.le_refl _) (dc tgt) (Sort.putCells id 0 (Sort.flatK encD 2 (dArr tgt)) cur) hsz (fun x hx => by
    obtain ⟨u, _, hu⟩ := List.mem_flatMap.1 hx
    simp only [dd, List.mem_cons, List.not_mem_nil, or_false] at hu
    rcases hu with rfl | rfl <;> rfl) (by rw [hsz, dc_lnC]; omega) (fun j x u hx hu => by
    have hj : j < tgt.length * 2 := by have := (List.getElem?_eq_some_iff.1 hx).1; rw [dc_lnC] at this; exact this
    rw [dc_getI tgt j hj] at hx
    injection hx with hx
    subst hx
    unfold Sort.putCells at hu
    rw [Array.getElem?_mapIdx, Array.getElem?_eq_getElem (show j < cur.size by omega), Option.map_some, if_pos (by rw [Sort.size_flatK, dArr_size]; omega)] at hu
    injection hu with hu
    rw [Nat.sub_zero, dc_getF tgt j hj] at hu
    subst hu
    exact .int _ _)
  have e1 : (Sort.putRowK encD 2 (Sort.ahead w n) b 0 (dArr tgt)).heap = (w.setRow b (Sort.putCells id 0 (Sort.flatK encD 2 (dArr tgt)) cur)).heap := by
    apply Array.ext_getElem?
    intro k
    unfold Sort.putRowK Sort.putRow Sort.mapBlock World.setRow
    simp only [Array.getElem?_modify, Sort.heap_ahead]
    by_cases hk : b = k
    · subst hk
      simp only [if_true]
      rw [q3]; rfl
    · simp [hk]
  have c4 := c2.heap e1
  have hsize : (Sort.putRowK encD 2 (Sort.ahead w n) b 0 (dArr tgt)).heap.size = w.heap.size := by rw [e1]; simp
  have hB : Below w.heap.size (Sort.putRowK encD 2 (Sort.ahead w n) b 0 (dArr tgt)) (sortWorldK encD 2 w b 0 n (dArr tgt) os) := ⟨rfl, rfl, rfl, by unfold sortWorldK Sort.grow; simp, fun k hk => by
    unfold sortWorldK Sort.grow
    rw [Array.getElem?_append_left (by rw [hsize]; exact hk)]⟩
  refine ⟨_, c1, c4.grown (by rw [hsize]; exact hB), ?_⟩
  have hB0 : Below C.B w (Sort.putRowK encD 2 (Sort.ahead w n) b 0 (dArr tgt)) := ⟨rfl, rfl, rfl, by rw [hsize]; exact Nat.le_refl _, fun k hk => by rw [e1]; exact c3.block k hk⟩
  exact hB0.trans (hB.mono hw.base)
end

set_option maxHeartbeats 2000000 in
theorem sort_ok (H : Heap) (i : Nat) (ds tgt : List (Nat × Nat)) (g : Bool) (e ver : Nat) (hk : H[i]? = some ⟨e, ver, dc ds⟩) (hn : ds.length ≤ 100000000) (hu : ∀ d', d'.Perm ds → SrtD d' → d' = tgt) :
    CallOk Tryz.prog 11 [.msl i ver 0 ds.length 2 g, .func 12 [] []] H (.tup []) (H.set i ⟨e, ver, dc tgt⟩) := by
  refine ⟨by kernel_rfl, fun C us w hw hargs => ?_⟩
  obtain ⟨hl, hr⟩ := hargs
  obtain ⟨a, r, rfl⟩ := List.exists_cons_of_length_eq_add_one hl
  obtain ⟨f, r, rfl⟩ := List.exists_cons_of_length_eq_add_one (by simpa using hl)
  obtain rfl : r = [] := List.eq_nil_of_length_eq_zero (by simpa using hl)
  have ha := hr 0 _ a rfl rfl
  have hf := hr 1 _ f rfl rfl
  have hv := hw.ver i _ hk
  obtain ⟨fv, hfv⟩ : ∃ fv, f = fv := ⟨_, rfl⟩
  have hnone : ds = [] → ∀ (p : Option Addr) (cap : Nat), a = .slice p 0 cap → Calls Tryz.prog 11 [a, f].toArray w fun e_1 w' => ∃ C' u, CLe C C' ∧ WRel C' (H.set i ⟨e, ver, dc tgt⟩) w' ∧ Below C.B w w' ∧ e_1 = .returned u ∧ VRel C' (.tup []) u := fun h0 p cap hp => by
    subst h0 hp
    have ht : tgt = [] := (hu [] .nil List.Pairwise.nil).symm
    subst ht
    have hS := AnyF.slices_SortFunc_none (P := Tryz.prog) (ρ := Tryz.sortDL_ren) { Tryz.sortDL with } p cap f w
    change Calls Tryz.prog 11 _ _ _ at hS
    refine hS.mono ?_
    rintro e1 w' ⟨rfl, rfl⟩
    refine ⟨C, _, .refl _, ?_, .refl _ _, rfl, .tup (us := []) rfl (fun j x u hx => by simp at hx)⟩
    have : H.set i ⟨e, ver, dc []⟩ = H := by
      obtain ⟨hi, hx⟩ := List.getElem?_eq_some_iff.1 hk
      rw [← hx]; exact List.set_getElem_self hi
    rw [this]; exact hw
  obtain ⟨m, hm0⟩ : ∃ m, m = ds.length := ⟨_, rfl⟩
  rw [← hm0] at ha
  cases ha with
  | msl hm hv' hcap hmax hg =>
    rename_i b cap
    subst hm0
    obtain ⟨hH, hb⟩ := holdsD hw hk rfl hm
    cases hf with
    | func hl1 hl2 hR1 hR2 =>
      rename_i u1 u2
      obtain rfl : u1 = [] := List.eq_nil_of_length_eq_zero hl1
      obtain rfl : u2 = [] := List.eq_nil_of_length_eq_zero hl2
      have eg : ∀ args w, (callFunc 12 args).run Tryz.prog w = .ok (.enter 12 args) w := enters_of Tryz.func12 (by kernel_rfl) rfl
      have hS := AnyQ.slices_SortFunc Tryz.sortDL 2 Tryz.isAgg46 Tryz.sizeOf46 encD (fun _ => rfl) (fun x v hv => by simp [encD] at hv; rcases hv with rfl | rfl <;> rfl) (fun x y => Lib.compareInt x.1 y.1) swoD 12 #[] b 0 cap (dArr ds) w eg (cmpLaysD b 0 _ w) hH hb (by rw [dArr_size]; omega)
      change Calls Tryz.prog 11 _ _ _ at hS
      rw [dArr_size] at hS
      refine hS.mono ?_
      rintro e1 w' ⟨rfl, d', n, os, ⟨p1, _, p3⟩, hs, rfl⟩
      have hp : d'.toList.Perm (ds.map dPr) := by
        rw [dArr_size] at p1
        have h1 : (d'.extract 0 ds.length).toList = d'.toList := by rw [← p1]; simp
        have h2 : ((dArr ds).extract 0 ds.length).toList = ds.map dPr := by simp only [dArr, List.extract_toArray, List.extract_eq_take_drop, List.drop_zero, Nat.sub_zero]; exact List.take_of_length_le (by simp)
        rw [h1, h2] at p3
        exact p3
      have hback : ∀ x : Nat × Nat, ((dPr x).1.toNat, (dPr x).2.toNat) = x := fun x => by simp [dPr]
      obtain ⟨t, ht⟩ : ∃ t : List (Nat × Nat), t = d'.toList.map fun x => (x.1.toNat, x.2.toNat) := ⟨_, rfl⟩
      have hd : d'.toList = t.map dPr := by
        rw [ht, List.map_map]
        refine (List.map_id _).symm.trans (List.map_congr_left fun x hx => ?_)
        obtain ⟨y, _, rfl⟩ := List.mem_map.1 (hp.mem_iff.1 hx)
        simp [dPr]
      have htp : t.Perm ds := by
        have := hp.map fun x : Int × Int => (x.1.toNat, x.2.toNat)
        rw [← ht, List.map_map] at this
        refine this.trans (List.Perm.of_eq ?_)
        refine (List.map_congr_left fun x _ => ?_).trans (List.map_id _)
        exact hback x
      have htl : t.length = ds.length := htp.length_eq
      have hts : SrtD t := List.pairwise_iff_getElem.2 fun x y hx hy hxy => by
        have h1 := hs x y (Nat.zero_le _) hxy (by omega)
        rw [ltD_eq] at h1
        have h2 := of_decide_eq_false h1
        have hsz : d'.size = t.length := by rw [← Array.length_toList, hd, List.length_map]
        have e : ∀ z (hz : z < t.length), d'[z]! = dPr t[z] := fun z hz => by
          rw [getElem!_pos d' z (by omega), ← Array.getElem_toList]
          simp only [hd, List.getElem_map]
        rw [e x hx, e y hy] at h2
        simp only [dPr] at h2
        omega
      obtain rfl := hu t htp hts
      have hda : d' = dArr t := by
        apply Array.toList_inj.1
        rw [hd]; rfl
      subst hda
      obtain ⟨C', g1, g2, g3⟩ := sortedD hw (n := n) (os := os) hk hm htl
      exact ⟨C', _, g1, g2, g3, rfl, .tup (us := []) rfl (fun j x u hx => by simp at hx)⟩
  | mslE hm hv' hmax => exact hnone (List.eq_nil_of_length_eq_zero hm0.symm) _ _ rfl
  | mslG ad hm hv' => exact hnone (List.eq_nil_of_length_eq_zero hm0.symm) _ _ rfl
  | mslS v h1 hv' hlt => rw [hv] at hv'; injection hv' with hv'; simp only at hv'; omega

end Go.Proofs.YtbhdollgohgkgaaGreatDoor.Sc
