/-
  Plain: the complete frames of a stream, which of them are decoded, and the order in which they are displayed; the program's way and the reference's are the same.
-/
import Derived.Test.YtahomnplappbpaaGreatDoorVa
import Derived.Test.YtahomnplappbpaaGreatDoorQs
namespace Go.Proofs.YtahomnplappbpaaGreatDoor.Sc
set_option linter.all false
set_option linter.unusedVariables false
set_option linter.unusedSimpArgs false
open Pm Ty Go.RowKit

/-- An entry: its first and last item, type, past and future reference, place in display order. -/
structure En where
  f : Int
  l : Int
  ty : Int
  pa : Int
  fu : Int
  sh : Int
def pairP (a b : Pi) : Bool := !(a.st == 3) && (!(b.st == 3) && (!(a.st == b.st) && ((a.ty == b.ty) && ((a.od == b.od) && ((a.tf == b.tf) && (a.rp == b.rp))))))
def leadP (h : Pi) : Bool := h.tf == (h.st == 1)
def pi0 : Pi := ⟨0, 0, 0, false, false, false⟩
def hdA (L : List It) (n : Int) : Pi := match L[n.toNat]? with | some x => x.p | none => pi0

/-! ### the program's way -/
structure As where
  sq : Sq
  kn : Bool
  op : Int
  rs : Bool
  lk : Int
structure Fm where
  f : Int
  l : Int
  sq : Sq
  hd : Pi
  rs : Bool
  lk : Int
def As.clr (a : As) : As := { a with rs := true, lk := -1 }
def As.cmp (a : As) (f l : Int) (h : Pi) : As × Option Fm := ({ a with rs := false, lk := -1 }, some ⟨f, l, a.sq, h, a.rs, a.lk⟩)
def As.pic (L : List It) (a : As) (i : Int) (h : Pi) : As × Option Fm :=
  if (a.kn && pvalid a.sq h) = false then ({ a with op := -1 }, none)
  else if h.st = 3 then As.cmp { a with op := -1 } i i h
  else if a.op ≠ -1 ∧ pairP (hdA L a.op) h = true then As.cmp { a with op := -1 } a.op i (hdA L a.op)
  else if leadP h = true then ({ a with op := i }, none)
  else ({ a with op := -1 }, none)
def As.seq (a : As) (s : Sq) : As := if (a.kn && sqE a.sq s) = true then a else { a.clr with sq := s, kn := vseq s }
def As.grp (a : As) (c b : Bool) : As := if c then a.clr else if b then { a with lk := 2 } else { a with lk := 0 }
def As.fin (a : As) : As := { a.clr with kn := false }
def As.item (L : List It) (a : As) (i : Int) (x : It) : As × Option Fm :=
  if x.k = 3 then a.pic L i x.p
  else if x.k = 1 then (As.seq { a with op := -1 } x.s, none)
  else if x.k = 2 then (As.grp { a with op := -1 } x.gc x.gb, none)
  else if x.k = 4 then (As.fin { a with op := -1 }, none)
  else ({ a with op := -1 }, none)

abbrev Ent := En × Sq × Pi
def setS (v : Int) (e : Ent) : Ent := ({ e.1 with sh := v }, e.2)
structure Dp where
  en : List Ent
  old : Int
  new : Int
  wt : Bool
  lk : Int
  sh : Int
def Dp.show (d : Dp) (n : Int) : Dp := { d with en := d.en.modify n.toNat (setS d.sh), sh := d.sh + 1 }
def Dp.flush (d : Dp) : Dp := if d.wt then { d.show d.new with wt := false } else d
def fmE (f : Fm) (pa fu : Int) : Ent := (⟨f.f, f.l, f.hd.ty, pa, fu, 0⟩, f.sq, f.hd)
def Dp.frame (d : Dp) (f : Fm) : Dp :=
  if f.hd.ty = 3 then
    if d.lk ≠ 0 ∨ d.old = -1 ∨ d.new = -1 then d
    else Dp.show { d with en := d.en ++ [fmE f d.old d.new] } d.en.length
  else if f.hd.ty = 2 ∧ d.new = -1 then d
  else
    let e := Dp.flush { d with en := d.en ++ [fmE f d.new (-1)] }
    { e with old := e.new, new := d.en.length, wt := true, lk := max 0 (e.lk - 1) }
def Dp.res (d : Dp) (rs : Bool) : Dp := if rs then { d.flush with old := -1, new := -1, lk := 0 } else d
def Dp.lnk (d : Dp) (lk : Int) : Dp := if lk ≠ -1 then { d with lk := lk } else d
def Dp.step (d : Dp) (f : Fm) : Dp := ((d.res f.rs).lnk f.lk).frame f
def Dp.stepO (d : Dp) : Option Fm → Dp
  | none => d
  | some f => d.step f
def as0 (z : Sq) : As := ⟨z, false, -1, false, -1⟩
def dp0 : Dp := ⟨[], -1, -1, false, 0, 0⟩
def sq0 : Sq := ⟨0, 0, 0, 0, false, 0, 0, List.replicate 64 0, List.replicate 64 0⟩
/-- After the items from number i on. -/
def asN (L : List It) (a : As) : Int → List It → As
  | _, [] => a
  | i, x :: r => asN L (a.item L i x).1 (i + 1) r
def dpN (L : List It) (a : As) (d : Dp) : Int → List It → Dp
  | _, [] => d
  | i, x :: r => dpN L (a.item L i x).1 (d.stepO (a.item L i x).2) (i + 1) r
/-- The frames that are decoded. -/
def stru (L : List It) : List Ent := (dpN L (as0 sq0) dp0 0 L).flush.en

/-! ### the reference's way -/
structure Wk where
  hd : Bool
  sq : Sq
  old : Int
  new : Int
  wt : Bool
  op : Int
  no : Int
  sh : Int
  out : List En
  sk : Bool
def setE (v : Int) (e : En) : En := { e with sh := v }
def Wk.disp (w : Wk) : Wk := if w.wt then { w with out := w.out.modify w.new.toNat (setE w.sh), sh := w.sh + 1 } else w
def Wk.reset (w : Wk) : Wk := { w.disp with old := -1, new := -1, wt := false, no := 0 }
def Wk.drop (w : Wk) : Wk := { w with sk := w.sk || decide (0 ≤ w.op), op := -1 }
def Wk.frame (w : Wk) (f l ty : Int) : Wk :=
  if ty = 3 then
    if w.no > 0 ∨ w.old < 0 ∨ w.new < 0 then { w with sk := true }
    else { w with out := w.out ++ [⟨f, l, ty, w.old, w.new, w.sh⟩], sh := w.sh + 1 }
  else if ty = 2 ∧ w.new < 0 then { w with sk := true }
  else
    let v := Wk.disp { w with out := w.out ++ [⟨f, l, ty, w.new, -1, 0⟩] }
    { v with old := v.new, new := w.out.length, wt := true, no := max 0 (v.no - 1) }
def Wk.picture (L : List It) (w : Wk) (i : Int) (h : Pi) : Wk :=
  let pr := decide (0 ≤ w.op) && pairP (hdA L (max w.op 0)) h
  if (!w.hd || (!(pvalid w.sq h) || (!(h.st == 3) && (!pr && !(leadP h))))) = true then { w.drop with sk := true }
  else if h.st = 3 then w.drop.frame i i h.ty
  else if pr = true then Wk.frame { w with op := -1 } w.op i (hdA L w.op).ty
  else { w.drop with op := i }
def Wk.seq (w : Wk) (s : Sq) : Wk := if (!w.hd || !(sqE w.sq s)) = true then { w.reset with hd := vseq s, sq := s } else w
def Wk.grp (w : Wk) (c b : Bool) : Wk := if c then w.reset else if b then { w with no := 2 } else { w with no := 0 }
def Wk.step (L : List It) (w : Wk) (i : Int) (x : It) : Wk :=
  if x.k = 3 then w.picture L i x.p
  else if x.k = 1 then w.drop.seq x.s
  else if x.k = 2 then w.drop.grp x.gc x.gb
  else if x.k = 4 then { w.drop.reset with hd := false }
  else w.drop
def wkN (L : List It) (w : Wk) : Int → List It → Wk
  | _, [] => w
  | i, x :: r => wkN L (w.step L i x) (i + 1) r
def wk0 : Wk := ⟨false, sq0, -1, -1, false, -1, 0, 0, [], false⟩
def walked (L : List It) : Wk := (wkN L wk0 0 L).drop.reset

/-! ### they are the same -/
def pend (a : As) (d : Dp) : Dp := (d.res a.rs).lnk a.lk
structure Same (w : Wk) (a : As) (d : Dp) : Prop where
  hd : w.hd = a.kn
  sq : w.sq = a.sq
  op : w.op = a.op
  opr : w.op = -1 ∨ 0 ≤ w.op
  old : w.old = (pend a d).old
  new : w.new = (pend a d).new
  wt : w.wt = (pend a d).wt
  no : w.no = (pend a d).lk
  sh : w.sh = (pend a d).sh
  out : w.out = (pend a d).en.map (·.1)
  nor : 0 ≤ w.no
  oldr : -1 ≤ w.old
  newr : -1 ≤ w.new
theorem map_set (en : List Ent) (n : Nat) (v : Int) : (en.modify n (setS v)).map (·.1) = (en.map (·.1)).modify n (setE v) := by
  induction en generalizing n with
  | nil => cases n <;> rfl
  | cons e r ih => cases n with
    | zero => rfl
    | succ n => simp only [List.modify_succ_cons, List.map_cons, ih]
theorem disp_same {w : Wk} {d : Dp} (h1 : w.new = d.new) (h2 : w.wt = d.wt) (h3 : w.sh = d.sh) (h4 : w.out = d.en.map (·.1)) :
    w.disp.out = d.flush.en.map (·.1) ∧ w.disp.sh = d.flush.sh := by
  unfold Wk.disp Dp.flush
  rw [← h2]
  cases w.wt with
  | false => exact ⟨h4, h3⟩
  | true => exact ⟨by simp only [if_true, Dp.show]; rw [map_set, h4, h1, h3], by simp only [if_true, Dp.show]; rw [h3]⟩
theorem flush_f (d : Dp) : d.flush.old = d.old ∧ d.flush.new = d.new ∧ d.flush.wt = false ∧ d.flush.lk = d.lk := by
  unfold Dp.flush Dp.show
  cases h : d.wt <;> simp [h]
theorem disp_f (w : Wk) : w.disp.old = w.old ∧ w.disp.new = w.new ∧ w.disp.wt = w.wt ∧ w.disp.no = w.no ∧ w.disp.hd = w.hd ∧ w.disp.sq = w.sq ∧ w.disp.op = w.op ∧ w.disp.sk = w.sk := by
  unfold Wk.disp
  cases h : w.wt <;> simp [h]
theorem pend_flush (a : As) (d : Dp) : (pend a d).flush.en = d.flush.en ∧ (pend a d).flush.sh = d.flush.sh := by
  unfold pend Dp.lnk Dp.res Dp.flush Dp.show
  cases a.rs <;> cases h : d.wt <;> by_cases h2 : a.lk = -1 <;> simp [h, h2]
theorem reset_same {w : Wk} {a : As} {d : Dp} (h : Same w a d) : Same w.reset a.clr d := by
  obtain ⟨p1, p2⟩ := disp_same h.new h.wt h.sh h.out
  obtain ⟨q1, q2⟩ := pend_flush a d
  obtain ⟨r1, r2, r3, r4⟩ := flush_f d
  obtain ⟨s1, s2, s3, s4, s5, s6, s7, s8⟩ := disp_f w
  have e : pend a.clr d = { d.flush with old := -1, new := -1, lk := 0 } := by simp [pend, As.clr, Dp.res, Dp.lnk]
  refine ⟨?_, ?_, ?_, ?_, ?_, ?_, ?_, ?_, ?_, ?_, ?_, ?_, ?_⟩
  · exact s5.trans h.hd
  · exact s6.trans h.sq
  · exact s7.trans h.op
  · have := h.opr; rw [show w.reset.op = w.disp.op from rfl, s7]; exact this
  · rw [e]; rfl
  · rw [e]; rfl
  · rw [e]; exact r3.symm
  · rw [e]; rfl
  · rw [e]; exact p2.trans q2
  · rw [e]; exact p1.trans (by rw [q1])
  · exact Int.le_refl _
  · exact Int.le_refl _
  · exact Int.le_refl _
theorem drop_same {w : Wk} {a : As} {d : Dp} (h : Same w a d) : Same w.drop { a with op := -1 } d :=
  ⟨h.hd, h.sq, rfl, .inl rfl, h.old, h.new, h.wt, h.no, h.sh, h.out, h.nor, h.oldr, h.newr⟩
theorem frame_same {w : Wk} {a : As} {d : Dp} (h : Same w a d) (f l : Int) (hp : Pi) : Same (w.frame f l hp.ty) { a with rs := false, lk := -1 } (d.step ⟨f, l, a.sq, hp, a.rs, a.lk⟩) := by
  have e : ∀ x, pend { a with rs := false, lk := -1 } x = x := fun x => by simp [pend, Dp.res, Dp.lnk]
  have es : d.step ⟨f, l, a.sq, hp, a.rs, a.lk⟩ = (pend a d).frame ⟨f, l, a.sq, hp, a.rs, a.lk⟩ := rfl
  obtain ⟨h1, h2, h3, h4, h5, h6, h7, h8, h9, h10, h11, h12, h13⟩ := h
  rw [es]
  generalize pend a d = p at *
  have hlen : (w.out.length : Int) = (p.en.length : Int) := by rw [h10, List.length_map]
  unfold Wk.frame Dp.frame
  dsimp only
  by_cases ht : hp.ty = 3
  · rw [if_pos ht, if_pos ht]
    by_cases hc : p.lk ≠ 0 ∨ p.old = -1 ∨ p.new = -1
    · rw [if_pos hc, if_pos (by omega)]
      exact ⟨h1, h2, h3, h4, by rw [e]; exact h5, by rw [e]; exact h6, by rw [e]; exact h7, by rw [e]; exact h8, by rw [e]; exact h9, by rw [e]; exact h10, h11, h12, h13⟩
    · rw [if_neg hc, if_neg (by omega)]
      refine ⟨h1, h2, h3, h4, by rw [e]; exact h5, by rw [e]; exact h6, by rw [e]; exact h7, by rw [e]; exact h8, ?_, ?_, h11, h12, h13⟩
      · rw [e]; simp only [Dp.show]; rw [h9]
      · rw [e]
        simp only [Dp.show, Int.toNat_natCast, fmE]
        rw [map_set, List.map_append, ← h10, h5, h6, h9, ht]
        rw [show p.en.length = w.out.length by omega]
        simp [List.modify_eq_take_drop, setE]
  · rw [if_neg ht, if_neg ht]
    by_cases hc : hp.ty = 2 ∧ p.new = -1
    · rw [if_pos hc, if_pos (by omega)]
      exact ⟨h1, h2, h3, h4, by rw [e]; exact h5, by rw [e]; exact h6, by rw [e]; exact h7, by rw [e]; exact h8, by rw [e]; exact h9, by rw [e]; exact h10, h11, h12, h13⟩
    · rw [if_neg hc, if_neg (by omega)]
      obtain ⟨g1, g2⟩ := disp_same (w := { w with out := w.out ++ [⟨f, l, hp.ty, w.new, -1, 0⟩] }) (d := { p with en := p.en ++ [fmE ⟨f, l, a.sq, hp, a.rs, a.lk⟩ p.new (-1)] }) h6 h7 h9 (by simp [h10, h6, fmE])
      obtain ⟨r1, r2, r3, r4⟩ := flush_f { p with en := p.en ++ [fmE ⟨f, l, a.sq, hp, a.rs, a.lk⟩ p.new (-1)] }
      obtain ⟨s1, s2, s3, s4, s5, s6, s7, s8⟩ := disp_f { w with out := w.out ++ [⟨f, l, hp.ty, w.new, -1, 0⟩] }
      refine ⟨?_, ?_, ?_, ?_, ?_, ?_, ?_, ?_, ?_, ?_, ?_, ?_, ?_⟩
      · exact s5.trans h1
      · exact s6.trans h2
      · exact s7.trans h3
      · show Wk.op (Wk.disp _) = -1 ∨ 0 ≤ Wk.op (Wk.disp _)
        rw [s7]; exact h4
      · rw [e]; exact s2.trans (h6.trans r2.symm)
      · rw [e]; exact hlen
      · rw [e]
      · rw [e]
        show max 0 (Wk.no (Wk.disp _) - 1) = max 0 (Dp.lk (Dp.flush _) - 1)
        rw [s4, r4]
        show max 0 (w.no - 1) = max 0 (p.lk - 1)
        rw [h8]
      · rw [e]; exact g2
      · rw [e]; exact g1
      · exact Int.le_max_left _ _
      · show -1 ≤ Wk.new (Wk.disp _)
        rw [s2]; exact h13
      · show -1 ≤ (w.out.length : Int)
        omega
theorem pic_same {L : List It} {w : Wk} {a : As} {d : Dp} (h : Same w a d) (i : Int) (hi : 0 ≤ i) (hp : Pi) : Same (w.picture L i hp) (a.pic L i hp).1 (d.stepO (a.pic L i hp).2) := by
  have hd := drop_same h
  have hs : ∀ {v b x}, Same v b x → Same { v with sk := true } b x := fun h => ⟨h.1, h.2, h.3, h.4, h.5, h.6, h.7, h.8, h.9, h.10, h.11, h.12, h.13⟩
  unfold Wk.picture As.pic
  dsimp only
  rw [h.hd, h.sq]
  by_cases hv : (a.kn && pvalid a.sq hp) = false
  · rw [if_pos hv, if_pos (by cases hk : a.kn <;> simp_all)]
    exact hs hd
  rw [if_neg hv]
  have hv' : a.kn = true ∧ pvalid a.sq hp = true := by simpa using hv
  by_cases h3 : hp.st = 3
  · rw [if_pos h3, if_neg (by simp [hv', h3]), if_pos h3]
    exact frame_same hd i i hp
  simp only [if_neg h3]
  by_cases ho : a.op ≠ -1 ∧ pairP (hdA L a.op) hp = true
  · have h0 : 0 ≤ a.op := by have := h.opr; have := h.op; omega
    have e0 : max w.op 0 = a.op := by rw [h.op]; omega
    have e1 : (decide (0 ≤ w.op) && pairP (hdA L (max w.op 0)) hp) = true := by rw [e0, ho.2]; simp [h.op, h0]
    rw [if_pos ho, if_neg (by simp [hv', e1]), if_pos e1]
    have h' : Same { w with op := -1 } { a with op := -1 } d := ⟨h.hd, h.sq, rfl, .inl rfl, h.old, h.new, h.wt, h.no, h.sh, h.out, h.nor, h.oldr, h.newr⟩
    have := frame_same h' w.op i (hdA L w.op)
    rw [h.op, h.hd, h.sq] at this
    rw [h.op]
    exact this
  · have e1 : (decide (0 ≤ w.op) && pairP (hdA L (max w.op 0)) hp) = false := by
      by_cases h0 : 0 ≤ w.op
      · have e0 : max w.op 0 = a.op := by rw [← h.op]; omega
        have h1 : a.op ≠ -1 := by rw [← h.op]; omega
        rw [e0]
        simp only [not_and, Bool.not_eq_true] at ho
        rw [ho h1, Bool.and_false]
      · simp [h0]
    rw [if_neg ho]
    by_cases hl : leadP hp = true
    · rw [if_pos hl, if_neg (by simp [hv', hl]), if_neg (by rw [e1]; simp)]
      exact ⟨hd.1, hd.2, rfl, .inr hi, hd.5, hd.6, hd.7, hd.8, hd.9, hd.10, hd.11, hd.12, hd.13⟩
    · rw [if_neg hl, if_pos (by simp [hv', h3, e1, hl])]
      exact hs hd
theorem step_same {L : List It} {w : Wk} {a : As} {d : Dp} (h : Same w a d) (i : Int) (hi : 0 ≤ i) (x : It) : Same (w.step L i x) (a.item L i x).1 (d.stepO (a.item L i x).2) := by
  have hd := drop_same h
  unfold Wk.step As.item
  by_cases h3 : x.k = 3
  · rw [if_pos h3, if_pos h3]; exact pic_same h i hi x.p
  rw [if_neg h3, if_neg h3]
  by_cases h1 : x.k = 1
  · rw [if_pos h1, if_pos h1]
    unfold Wk.seq As.seq
    rw [hd.hd, hd.sq]
    by_cases hk : (a.kn && sqE a.sq x.s) = true
    · have hk' : a.kn = true ∧ sqE a.sq x.s = true := by simpa using hk
      rw [if_pos hk, if_neg (by simp [hk'])]
      exact hd
    · rw [if_neg hk, if_pos (by cases h' : a.kn <;> simp_all)]
      have := reset_same hd
      exact ⟨rfl, rfl, this.3, this.4, this.5, this.6, this.7, this.8, this.9, this.10, this.11, this.12, this.13⟩
  rw [if_neg h1, if_neg h1]
  by_cases h2 : x.k = 2
  · rw [if_pos h2, if_pos h2]
    unfold Wk.grp As.grp
    cases x.gc with
    | true => exact reset_same hd
    | false =>
      have lk : ∀ n, 0 ≤ n → Same { w.drop with no := n } { ({ a with op := -1 } : As) with lk := n } d := fun n hn => by
        have e : ∀ b : As, b.rs = a.rs → b.lk = n → pend b d = { d.res a.rs with lk := n } := fun b e1 e2 => by
          unfold pend Dp.lnk
          rw [e1, e2, if_pos (by omega)]
        have e' : ∀ y : Dp, y = d.res a.rs → (pend a d).old = y.old ∧ (pend a d).new = y.new ∧ (pend a d).wt = y.wt ∧ (pend a d).sh = y.sh ∧ (pend a d).en = y.en := fun y hy => by
          subst hy
          unfold pend Dp.lnk
          split <;> exact ⟨rfl, rfl, rfl, rfl, rfl⟩
        obtain ⟨q1, q2, q3, q4, q5⟩ := e' _ rfl
        refine ⟨hd.1, hd.2, hd.3, hd.4, ?_, ?_, ?_, ?_, ?_, ?_, hn, hd.12, hd.13⟩
        · rw [e { ({ a with op := -1 } : As) with lk := n } rfl rfl]; exact h.old.trans q1
        · rw [e { ({ a with op := -1 } : As) with lk := n } rfl rfl]; exact h.new.trans q2
        · rw [e { ({ a with op := -1 } : As) with lk := n } rfl rfl]; exact h.wt.trans q3
        · rw [e { ({ a with op := -1 } : As) with lk := n } rfl rfl]
        · rw [e { ({ a with op := -1 } : As) with lk := n } rfl rfl]; exact h.sh.trans q4
        · rw [e { ({ a with op := -1 } : As) with lk := n } rfl rfl]; exact h.out.trans (by rw [q5])
      cases x.gb with
      | true => exact lk 2 (by omega)
      | false => exact lk 0 (by omega)
  rw [if_neg h2, if_neg h2]
  by_cases h4 : x.k = 4
  · rw [if_pos h4, if_pos h4]
    have := reset_same hd
    exact ⟨rfl, this.2, this.3, this.4, this.5, this.6, this.7, this.8, this.9, this.10, this.11, this.12, this.13⟩
  · rw [if_neg h4, if_neg h4]; exact hd
theorem run_same (L : List It) : ∀ (r : List It) (i : Int) (w : Wk) (a : As) (d : Dp), 0 ≤ i → Same w a d → Same (wkN L w i r) (asN L a i r) (dpN L a d i r)
  | [], _, _, _, _, _, h => h
  | x :: r, i, w, a, d, hi, h => run_same L r (i + 1) _ _ _ (by omega) (step_same h i hi x)
/-- The entries are the reference's. -/
theorem stru_same (L : List It) : (stru L).map (·.1) = (walked L).out := by
  have h0 : Same wk0 (as0 sq0) dp0 := ⟨rfl, rfl, rfl, .inl rfl, rfl, rfl, rfl, rfl, rfl, rfl, by decide, by decide, by decide⟩
  have h := run_same L L 0 _ _ _ (Int.le_refl _) h0
  have h2 := (reset_same (drop_same h)).out
  have h3 : pend (As.clr { asN L (as0 sq0) 0 L with op := -1 }) (dpN L (as0 sq0) dp0 0 L) = { (dpN L (as0 sq0) dp0 0 L).flush with old := -1, new := -1, lk := 0 } := by simp [pend, As.clr, Dp.res, Dp.lnk]
  rw [h3] at h2
  exact h2.symm

end Go.Proofs.YtahomnplappbpaaGreatDoor.Sc
