/-
  Parts of the proof, put together in one text. No condition.
-/
import Derived.Test.YtjgmdlcjbgiekaaGreatDoorQ07
namespace Go.Proofs.YtjgmdlcjbgiekaaGreatDoor.Pm
set_option linter.all false
open Go.RowKit
variable {P:Program} {C:Ctx} {H:za} {w:World} {F:Fr} {a:Act} {N:Nat}
def Ctx.cut (C:Ctx) (n:Nat) (M:Nat→Nat→Option Value):Ctx:={ B:=C.B,top:=C.top,M:=M,mu:=C.mu.take n,vs:=C.vs.take n,cp:=C.cp.take n }
theorem VRel.cut {n:Nat} {M:Nat→Nat→Option Value} (hM:∀ b o u,C.M b o=some u→M b o=some u) {x:PV} {u:Value} (h:VRel C x u) (hs:Scoped n x):VRel (C.cut n M) x u:=by
 have tk:∀ {α:Type} {l:List α} {id:Nat} {v:α},id<n→l[id]? =some v→(l.take n)[id]? =some v:=fun hid h=>by rw [List.getElem?_take,if_pos hid];exact h
 induction h with
 | nl k=>exact .nl k
 | yl hl _ ih=>cases hs with|yl h=>exact .yl hl (fun j x u hx hu=>ih j x u hx hu (h j x hx))
 | int k n=>exact .int k n
 | bool b=>exact .bool b
 | str s=>exact .str _
 | nilp=>exact .nilp
 | ptr hm hv=>cases hs with|ptr hid=>exact .ptr (tk hid hm) (tk hid hv)
 | ptrS v h1 hv hlt=>cases hs with|ptr hid=>exact .ptrS v h1 (tk hid hv) hlt
 | ip hl hM' hc _ ih=>cases hs with|ip h=>exact .ip hl (fun j u hu=>hM _ _ _ (hM' j u hu)) hc (fun j x u hx hu=>ih j x u hx hu (h j x hx))
 | slice hl hM' hc _ hcap hmax hf ih=>cases hs with|slice h=>exact .slice hl (fun j u hu=>hM _ _ _ (hM' j u hu)) hc (fun j x u hx hu=>ih j x u hx hu (h j x hx)) hcap hmax hf
 | sliceN ad full=>exact .sliceN ad full
 | msl hm hv hcap hmax hg=>cases hs with|msl hid=>exact .msl (tk hid hm) (tk hid hv) hcap hmax (fun hgt=>⟨(hg hgt).1,tk hid (hg hgt).2⟩)
 | mslE hm hv hmax=>cases hs with|msl hid=>exact .mslE (tk hid hm) (tk hid hv) hmax
 | mslG ad hm hv=>cases hs with|msl hid=>exact .mslG ad ⟨tk hid hm.1,tk hid hm.2⟩ (tk hid hv)
 | mslS v h1 hv hlt=>cases hs with|msl hid=>exact .mslS v h1 (tk hid hv) hlt
 | mp hm hv hb=>cases hs with|mp hid=>exact .mp (tk hid hm) (tk hid hv) (tk hid hb)
 | mpS v h1 hv hlt=>cases hs with|mp hid=>exact .mpS v h1 (tk hid hv) hlt
 | agg hl hc _ ih=>cases hs with|agg h=>exact .agg hl hc (fun j x u hx hu=>ih j x u hx hu (h j x hx))
 | tup hl _ ih=>cases hs with|tup h=>exact .tup hl (fun j x u hx hu=>ih j x u hx hu (h j x hx))
 | func hl hl' _ _ ih ih'=>cases hs with|func h h'=>exact .func hl hl' (fun j x u hx hu=>ih j x u hx hu (h j x hx)) (fun j x u hx hu=>ih' j x u hx hu (h' j x hx))
 | undef v=>exact .undef v
def frz (n:Nat) (H:za):Nat→PV→Option PV
 | 0,_=>none
 | _+1,.int k m=>some (.int k m)
 | _+1,.bool b=>some (.bool b)
 | _+1,.str s=>some (.str s)
 | _+1,.nilp=>some .nilp
 | _+1,.nl k=>some (.nl k)
 | _+1,.yl _ _ _=>none
 | _+1,.lp _ _=>none
 | _+1,.undef=>some .undef
 | _+1,.ptr id ver off=>if id<n then some (.ptr id ver off) else none
 | _+1,.mp id ver=>if id<n then some (.mp id ver) else none
 | d+1,.ip xs off=>(xs.mapM (frz n H d)).map fun ys=>.ip ys off
 | d+1,.slice xs len _=>(xs.mapM (frz n H d)).map fun ys=>.slice ys len false
 | d+1,.msl id ver off len sz g=>if id<n then some (.msl id ver off len sz g) else match H[id]? with
  | some k=>if k.ver=ver∧off+len * sz≤k.cells.length then (((k.cells.drop off).take (len * sz)).mapM (frz n H d)).map fun ys=>.slice ys len false else none
  | none=>none
 | d+1,.agg cs=>(cs.mapM (frz n H d)).map .agg
 | d+1,.tup vs=>(vs.mapM (frz n H d)).map .tup
 | d+1,.func f fs cs=>match fs.mapM (frz n H d),cs.mapM (frz n H d) with|some fs',some cs'=>some (.func f fs' cs')|_,_=>none
theorem zgQ {f:PV→Option PV}:∀ {xs ys:List PV},xs.mapM f=some ys→ys.length=xs.length∧∀ (j:Nat) (y:PV),ys[j]? =some y→∃ x,xs[j]? =some x∧f x=some y
 | [],ys,h=>by simp at h;subst h;exact ⟨rfl,fun j y hy=>by simp at hy⟩
 | x::xs,ys,h=>by
  simp only [List.mapM_cons,Option.bind_eq_bind,Option.pure_def,Option.bind_eq_some_iff,Option.some.injEq] at h
  obtain ⟨y,hy,ys',hys,rfl⟩:=h
  obtain ⟨hl,hg⟩:=zgQ hys
  refine ⟨by simp [hl],fun j z hz=> ?_⟩
  cases j with
  | zero=>simp at hz;subst hz;exact ⟨x,rfl,hy⟩
  | succ j=>simpa using hg j z (by simpa using hz)
theorem zp0 {n d:Nat} {x y:PV} (h:frz n H d x=some y) (hc:x.cell=true):y.cell=true:=by
 cases d with
 | zero=>simp [frz] at h
 | succ d=>
  cases x<;>simp only [frz] at h
  case agg=>simp [PV.cell] at hc
  case tup=>simp [PV.cell] at hc
  case undef=>simp [PV.cell] at hc
  case lp=>simp [PV.cell] at hc
  case yl=>cases h
  case msl=>
   split at h
   ·injection h with h;subst h;rfl
   ·split at h
    ·split at h
     ·simp only [Option.map_eq_some_iff] at h;obtain ⟨_,_,rfl⟩:=h;rfl
     ·cases h
    ·cases h
  case func=>split at h<;>first|(injection h with h;subst h;rfl)|cases h
  case ptr=>split at h<;>first|(injection h with h;subst h;rfl)|cases h
  case mp=>split at h<;>first|(injection h with h;subst h;rfl)|cases h
  all_goals first|(injection h with h;subst h;rfl)|(simp only [Option.map_eq_some_iff] at h;obtain ⟨_,_,rfl⟩:=h;rfl)
def Ctx.given (C:Ctx) (n:Nat) (w:World):Nat→Nat→Option Value:=fun b o=>if (C.mu.drop n).contains (some b) then w.cell? ⟨b,o,none⟩ else C.M b o
theorem zex (hw:WRel C H w) (n b o:Nat) (u:Value) (h:C.M b o=some u):C.given n w b o=some u:=by
 unfold Ctx.given
 split
 ·exact hw.imm _ _ _ h
 ·exact h
theorem zdK (hw:WRel C H w) (n:Nat):∀ (d:Nat) (x y:PV) (u:Value),VRel C x u→frz n H d x=some y→VRel (C.cut n (C.given n w)) y u
 | 0,x,y,u,_,h=>by simp [frz] at h
 | d+1,x,y,u,hv,h=>by
  have hg:=fun b o u=>zex (C:=C) hw n b o u
  have lst:∀ {xs ys:List PV} {us:List Value},us.length=xs.length→Rel C xs us→xs.mapM (frz n H d)=some ys→us.length=ys.length∧Rel (C.cut n (C.given n w)) ys us:=fun hl hR hm=>by
   obtain ⟨h1,h2⟩:=zgQ hm
   refine ⟨by omega,fun j y u hy hu=> ?_⟩
   obtain ⟨x,hx,hf⟩:=h2 j y hy
   exact zdK hw n d x y u (hR j x u hx hu) hf
  have cls:∀ {xs ys:List PV},(∀ x∈xs,x.cell=true)→xs.mapM (frz n H d)=some ys→∀ y∈ys,y.cell=true:=fun hc hm y hy=>by
   obtain ⟨h1,h2⟩:=zgQ hm
   obtain ⟨j,hj,rfl⟩:=List.getElem_of_mem hy
   obtain ⟨x,hx,hf⟩:=h2 j _ (List.getElem?_eq_getElem hj)
   exact zp0 hf (hc x (List.mem_of_getElem? hx))
  cases x with
  | int k m=>simp only [frz,Option.some.injEq] at h;subst h;exact hv.cut hg (.int _ _)
  | bool b=>simp only [frz,Option.some.injEq] at h;subst h;exact hv.cut hg (.bool _)
  | str s=>simp only [frz,Option.some.injEq] at h;subst h;exact hv.cut hg (.str _)
  | nilp=>simp only [frz,Option.some.injEq] at h;subst h;exact hv.cut hg .nilp
  | nl k=>simp only [frz,Option.some.injEq] at h;subst h;exact hv.cut hg (.nl k)
  | yl l us fs=>simp [frz] at h
  | lp l r=>simp [frz] at h
  | undef=>simp only [frz,Option.some.injEq] at h;subst h;exact .undef _
  | ptr id ver off=>
   simp only [frz] at h
   split at h
   ·rename_i hid;injection h with h;subst h;exact hv.cut hg (.ptr hid)
   ·cases h
  | mp id ver=>
   simp only [frz] at h
   split at h
   ·rename_i hid;injection h with h;subst h;exact hv.cut hg (.mp hid)
   ·cases h
  | ip xs off=>
   simp only [frz,Option.map_eq_some_iff] at h
   obtain ⟨ys,hm,rfl⟩:=h
   cases hv with
   | ip hl hM hc hR=>
    obtain ⟨l1,l2⟩:=lst hl hR hm
    exact .ip l1 (fun j u hu=>hg _ _ _ (hM j u hu)) (cls hc hm) l2
  | slice xs len full=>
   simp only [frz,Option.map_eq_some_iff] at h
   obtain ⟨ys,hm,rfl⟩:=h
   cases hv with
   | slice hl hM hc hR hcap hmax hf=>
    obtain ⟨l1,l2⟩:=lst hl hR hm
    exact .slice l1 (fun j u hu=>hg _ _ _ (hM j u hu)) (cls hc hm) l2 hcap hmax (fun hft=>by cases hft)
   | sliceN=>
    simp at hm
    subst hm
    exact .sliceN _ _
  | agg cs=>
   simp only [frz,Option.map_eq_some_iff] at h
   obtain ⟨ys,hm,rfl⟩:=h
   cases hv with
   | agg hl hc hR=>
    obtain ⟨l1,l2⟩:=lst hl hR hm
    exact .agg l1 (cls hc hm) l2
  | tup vs=>
   simp only [frz,Option.map_eq_some_iff] at h
   obtain ⟨ys,hm,rfl⟩:=h
   cases hv with
   | tup hl hR=>
    obtain ⟨l1,l2⟩:=lst hl hR hm
    exact .tup l1 l2
  | func f fs cs=>
   simp only [frz] at h
   split at h
   ·rename_i fs' cs' h1 h2
    injection h with h
    subst h
    cases hv with
    | func hl hl' hR hR'=>
     obtain ⟨l1,l2⟩:=lst hl hR h1
     obtain ⟨l3,l4⟩:=lst hl' hR' h2
     exact .func l1 l3 l2 l4
   ·cases h
  | msl id ver off len sz g=>
   simp only [frz] at h
   split at h
   ·rename_i hid;injection h with h;subst h;exact hv.cut hg (.msl hid)
   ·rename_i hid
    split at h
    ·rename_i k hk
     split at h
     ·rename_i hq
      simp only [Option.map_eq_some_iff] at h
      obtain ⟨ys,hm,rfl⟩:=h
      have q2:=hw.ver id k hk
      rw [hq.1] at q2
      obtain ⟨b,cap,off',q1,rfl,hc1,hc2,ho,_⟩|⟨ad,hgh,h0,rfl⟩:=zbg hw hv q2
      rotate_left
      ·subst h0
       simp at hm
       subst hm
       exact .sliceN _ _
      obtain ⟨cur,q3,q5,q6,q7,q8,q9,q10⟩:=hw.blk hk q1
      have hmem:(C.mu.drop n).contains (some b)=true:=by
       rw [List.contains_iff_mem]
       refine List.mem_of_getElem? (i:=id - n) ?_
       rw [List.getElem?_drop,show n+(id - n)=id by omega]
       exact q1
      have hlen:(((cur.toList.take k.cells.length).drop off).take (len * sz)).length=((k.cells.drop off).take (len * sz)).length:=by simp;omega
      obtain ⟨l1,l2⟩:=lst hlen ((q9.drop off).take (len * sz)) hm
      refine .slice l1 (fun j u hu=> ?_) (cls (fun x hx=>q6 x (List.mem_of_mem_drop (List.mem_of_mem_take hx))) hm) l2 hc1 hc2 (fun hf=>by cases hf)
      show C.given n w b (off'+j)=some u
      unfold Ctx.given
      rw [if_pos hmem]
      rcases Nat.eq_zero_or_pos len with h0|h0
      ·subst h0;simp at hu
      ·obtain rfl:=ho h0
       have:=((q8.drop off').take (len * sz)) j u hu
       rwa [Nat.zero_add] at this
     ·cases h
    ·cases h
theorem WRel.giveN {K:za} (h0:HSc H) (hw:WRel C (H++K) w):CLeN H.length C (C.cut H.length (C.given H.length w))∧WRel (C.cut H.length (C.given H.length w)) H w:=by
 have hg:=fun b o u=>zex (C:=C) hw H.length b o u
 have e1:=hw.len
 have e2:=hw.lenv
 have e3:=hw.lenc
 simp only [List.length_append] at e1 e2 e3
 have tk:∀ {α:Type} {l:List α} {id:Nat},id<H.length→(l.take H.length)[id]? =l[id]? :=fun hid=>by rw [List.getElem?_take,if_pos hid]
 have tk':∀ {α:Type} {l:List α} {id:Nat} {v:α},(l.take H.length)[id]? =some v→id<H.length∧l[id]? =some v:=fun h=>by
  rw [List.getElem?_take] at h
  split at h
  ·exact ⟨by assumption,h⟩
  ·cases h
 refine ⟨⟨rfl,fun b o u hu=>hg _ _ _ hu,rfl,fun b o u hu=> ?_,fun b hb=>.inl (List.mem_of_mem_take hb),fun id ver hid hv=> ?_⟩,?_⟩
 ·simp only [Ctx.cut,Ctx.given] at hu
  split at hu
  ·rename_i hm;exact .inr (.inr (List.mem_of_mem_drop (List.contains_iff_mem.1 hm)))
  ·exact .inl hu
 ·exact ⟨ver,by simp only [Ctx.cut];rw [tk hid];exact hv,Nat.le_refl _,fun _=>⟨by simp only [Ctx.cut];rw [tk hid],by simp only [Ctx.cut];rw [tk hid]⟩⟩
 ·refine ⟨hw.gl.mono (fun b o u hu=>hg b o u hu),hw.base,hw.tople,fun b o u hu=> ?_,?_,?_,?_,?_,?_,?_,?_,?_,fun i j b mi mj ci cj=>hw.minj i j b (tk' mi).2 (tk' mj).2 (tk' ci).2 (tk' cj).2⟩
  ·simp only [Ctx.cut,Ctx.given] at hu
   split at hu
   ·exact hu
   ·exact hw.imm _ _ _ hu
  ·simp only [Ctx.cut,List.length_take];omega
  ·simp only [Ctx.cut,List.length_take];omega
  ·simp only [Ctx.cut,List.length_take];omega
  ·intro id k hk
   have hid:id<H.length:=(List.getElem?_eq_some_iff.1 hk).1
   simp only [Ctx.cut];rw [tk hid];exact hw.ver id k (by rw [List.getElem?_append_left hid];exact hk)
  ·intro id k hk hm
   have hid:id<H.length:=(List.getElem?_eq_some_iff.1 hk).1
   simp only [Ctx.cut] at hm ⊢
   rw [tk hid] at hm ⊢
   refine (hw.gho id k (by rw [List.getElem?_append_left hid];exact hk) hm).imp_right ?_
   rintro (⟨b,es,clock,q1,q2,q3,q4,q5⟩|⟨b,r,q1,q2,q3,q4⟩)
   ·exact .inl ⟨b,es,clock,q1,q2,q3,q4,fun j x e hx he=>(q5 j x e hx he).cut hg (h0 id k hk x (List.mem_of_getElem? hx))⟩
   ·exact .inr ⟨b,r,q1,q2,q3,q4⟩
  ·intro id k b hk hm
   have hid:id<H.length:=(List.getElem?_eq_some_iff.1 hk).1
   obtain ⟨cur,q3,q4,q5,q6,q7,q8⟩:=hw.own id k b (by rw [List.getElem?_append_left hid];exact hk) (by simp only [Ctx.cut] at hm;rw [tk hid] at hm;exact hm)
   refine ⟨cur,by simp only [Ctx.cut];rw [tk hid];exact q3,q4,q5,q6,q7,fun j x u hx hu=> ?_⟩
   exact (q8 j x u hx hu).cut hg (h0 id k hk x (List.mem_of_getElem? hx))
  ·intro id b hb o
   obtain ⟨hid,hb⟩:=tk' hb
   simp only [Ctx.cut,Ctx.given]
   rw [if_neg ?_]
   ·exact hw.disj id b hb o
   ·rw [List.contains_iff_mem]
    intro hmem
    obtain ⟨j,hj⟩:=List.mem_iff_getElem?.1 hmem
    rw [List.getElem?_drop] at hj
    have:=hw.inj _ _ _ hb hj
    omega
  ·intro i j b hi hj
   exact hw.inj i j b (tk' hi).2 (tk' hj).2
theorem WRel.give {K:za} {C0:Ctx} {w0:World} (h0:WRel C0 H w0) (hle:CLe C0 C) (hw:WRel C (H++K) w):CLe C0 (C.cut H.length (C.given H.length w))∧WRel (C.cut H.length (C.given H.length w)) H w:=by
 obtain ⟨g1,g2⟩:=WRel.giveN h0.hsc hw
 exact ⟨((hle.toN _).trans g1).full h0.lenv,g2⟩
inductive Fz (n:Nat) (H:za):PV→PV→Prop where
 | id {x:PV} (h:Scoped n x):Fz n H x x
 | slice {xs ys:List PV} {len:Nat} {full full':Bool} (hl:ys.length=xs.length) (h:∀ (j:Nat) (x y:PV),xs[j]? =some x→ys[j]? =some y→Fz n H x y) (hf:full'=true→full=true):Fz n H (.slice xs len full) (.slice ys len full')
 | ip {xs ys:List PV} {off:Nat} (hl:ys.length=xs.length) (h:∀ (j:Nat) (x y:PV),xs[j]? =some x→ys[j]? =some y→Fz n H x y):Fz n H (.ip xs off) (.ip ys off)
 | msl {id ver off len sz:Nat} {g:Bool} {k:Blk} {ys:List PV} (hn:n≤id) (hk:H[id]? =some k) (hv:k.ver=ver) (ho:off+len * sz≤k.cells.length)
   (hl:ys.length=((k.cells.drop off).take (len * sz)).length) (h:∀ (j:Nat) (x y:PV),((k.cells.drop off).take (len * sz))[j]? =some x→ys[j]? =some y→Fz n H x y):Fz n H (.msl id ver off len sz g) (.slice ys len false)
 | ptr {id ver off:Nat} {k:Blk} {ys:List PV} (hn:n≤id) (hk:H[id]? =some k) (hv:k.ver=ver)
   (hl:ys.length=k.cells.length) (h:∀ (j:Nat) (x y:PV),k.cells[j]? =some x→ys[j]? =some y→Fz n H x y):Fz n H (.ptr id ver off) (.ip ys off)
 | agg {xs ys:List PV} (hl:ys.length=xs.length) (h:∀ (j:Nat) (x y:PV),xs[j]? =some x→ys[j]? =some y→Fz n H x y):Fz n H (.agg xs) (.agg ys)
 | tup {xs ys:List PV} (hl:ys.length=xs.length) (h:∀ (j:Nat) (x y:PV),xs[j]? =some x→ys[j]? =some y→Fz n H x y):Fz n H (.tup xs) (.tup ys)
 | func {f:FuncId} {xs ys us vs:List PV} (hl:ys.length=xs.length) (h:∀ (j:Nat) (x y:PV),xs[j]? =some x→ys[j]? =some y→Fz n H x y)
   (hl':vs.length=us.length) (h':∀ (j:Nat) (x y:PV),us[j]? =some x→vs[j]? =some y→Fz n H x y):Fz n H (.func f xs us) (.func f ys vs)
theorem Fz.cell {n:Nat} {x y:PV} (h:Fz n H x y) (hc:x.cell=true):y.cell=true:=by
 cases h<;>first|exact hc|rfl|(simp [PV.cell] at hc;done)
theorem Fz.cells {n:Nat} {xs ys:List PV} (hl:ys.length=xs.length) (h:∀ (j:Nat) (x y:PV),xs[j]? =some x→ys[j]? =some y→Fz n H x y) (hc:∀ x∈xs,x.cell=true):∀ y∈ys,y.cell=true:=fun y hy=>by
 obtain ⟨j,hj,rfl⟩:=List.getElem_of_mem hy
 exact (h j _ _ (List.getElem?_eq_getElem (by omega)) (List.getElem?_eq_getElem hj)).cell (hc _ (List.getElem_mem _))
theorem Fz.rels {D:Ctx} {xs ys:List PV} {us:List Value} (hl:ys.length=xs.length) (hul:us.length=xs.length) (hR:Rel C xs us) (ih:∀ (j:Nat) (x y:PV),xs[j]? =some x→ys[j]? =some y→∀ {u:Value},VRel C x u→VRel D y u):us.length=ys.length∧Rel D ys us:=
 ⟨by omega,fun j y u hy hu=>by
  have hj:j<xs.length:=by have:=(List.getElem?_eq_some_iff.1 hy).1;omega
  exact ih j xs[j] y (List.getElem?_eq_getElem hj) hy (hR j _ u (List.getElem?_eq_getElem hj) hu)⟩
theorem Fz.sound {n:Nat} (hw:WRel C H w) {x y:PV} (h:Fz n H x y):∀ {u:Value},VRel C x u→VRel (C.cut n (C.given n w)) y u:=by
 have hg:=fun b o u=>zex (C:=C) hw n b o u
 have mem:∀ {id b:Nat},n≤id→C.mu[id]? =some (some b)→(C.mu.drop n).contains (some b)=true:=fun {id b} hn q1=>by
  rw [List.contains_iff_mem]
  refine List.mem_of_getElem? (i:=id - n) ?_
  rw [List.getElem?_drop,show n+(id - n)=id by omega]
  exact q1
 induction h with
 | id hs=>intro u hv;exact hv.cut hg hs
 | slice hl h hf ih=>
  intro u hv
  cases hv with
  | slice hul hM hc hR hcap hmax hfu=>
   obtain ⟨l1,l2⟩:=Fz.rels hl hul hR ih
   exact .slice l1 (fun j u hu=>hg _ _ _ (hM j u hu)) (Fz.cells hl h hc) l2 hcap hmax (fun e=>hfu (hf e))
  | sliceN=>
   have e:=List.eq_nil_of_length_eq_zero hl
   subst e
   exact .sliceN _ _
 | ip hl h ih=>
  intro u hv
  cases hv with
  | ip hul hM hc hR=>
   obtain ⟨l1,l2⟩:=Fz.rels hl hul hR ih
   exact .ip l1 (fun j u hu=>hg _ _ _ (hM j u hu)) (Fz.cells hl h hc) l2
 | @msl id ver off len sz g k ys hn hk hv' ho hl h ih=>
  intro u hv
  have q2:=hw.ver id k hk
  rw [hv'] at q2
  obtain ⟨b,cap,off',q1,rfl,hc1,hc2,ho',_⟩|⟨ad,hgh,h0,rfl⟩:=zbg hw hv q2
  ·obtain ⟨cur,q3,q5,q6,q7,q8,q9,q10⟩:=hw.blk hk q1
   have hlen:(((cur.toList.take k.cells.length).drop off).take (len * sz)).length=((k.cells.drop off).take (len * sz)).length:=by simp;omega
   obtain ⟨l1,l2⟩:=Fz.rels hl hlen ((q9.drop off).take (len * sz)) ih
   refine .slice l1 (fun j u hu=> ?_) (Fz.cells hl h (fun x hx=>q6 x (List.mem_of_mem_drop (List.mem_of_mem_take hx)))) l2 hc1 hc2 (fun hf=>by cases hf)
   show C.given n w b (off'+j)=some u
   unfold Ctx.given
   rw [if_pos (mem hn q1)]
   rcases Nat.eq_zero_or_pos len with h0|h0
   ·subst h0;simp at hu
   ·obtain rfl:=ho' h0
    have:=((q8.drop off').take (len * sz)) j u hu
    rwa [Nat.zero_add] at this
  ·subst h0
   have e:ys=[]:=List.eq_nil_of_length_eq_zero (by rw [hl];simp)
   subst e
   exact .sliceN _ _
 | @ptr id ver off k ys hn hk hv' hl h ih=>
  intro u hv
  have q2:=hw.ver id k hk
  rw [hv'] at q2
  obtain ⟨b,q1,rfl⟩:=zby hw hv q2
  obtain ⟨cur,q3,q5,q6,q7,q8,q9,q10⟩:=hw.blk hk q1
  obtain ⟨l1,l2⟩:=Fz.rels hl q10 q9 ih
  have:=VRel.ip (C:=C.cut n (C.given n w)) (off:=off) (b:=b) (o:=0) l1 (fun j u hu=>by
   show C.given n w b (0+j)=some u
   unfold Ctx.given
   rw [if_pos (mem hn q1)]
   exact q8 j u hu) (Fz.cells hl h q6) l2
  rwa [Nat.zero_add] at this
 | agg hl h ih=>
  intro u hv
  cases hv with
  | agg hul hc hR=>
   obtain ⟨l1,l2⟩:=Fz.rels hl hul hR ih
   exact .agg l1 (Fz.cells hl h hc) l2
 | tup hl h ih=>
  intro u hv
  cases hv with
  | tup hul hR=>
   obtain ⟨l1,l2⟩:=Fz.rels hl hul hR ih
   exact .tup l1 l2
 | func hl h hl' h' ih ih'=>
  intro u hv
  cases hv with
  | func hul hul' hR hR'=>
   obtain ⟨l1,l2⟩:=Fz.rels hl hul hR ih
   obtain ⟨l3,l4⟩:=Fz.rels hl' hul' hR' ih'
   exact .func l1 l3 l2 l4
def CutH (H H1:za):Prop:=H1.length≤H.length∧∀ (j:Nat) (k1:Blk),H1[j]? =some k1→∃ k,H[j]? =some k∧k1.e=k.e∧k1.ver=k.ver∧k1.cells.length=k.cells.length∧∀ (i:Nat) (x y:PV),k.cells[i]? =some x→k1.cells[i]? =some y→Fz H1.length H x y
theorem WRel.cutN {H1:za} (hw:WRel C H w) (hH:CutH H H1):CLeN H1.length C (C.cut H1.length (C.given H1.length w))∧WRel (C.cut H1.length (C.given H1.length w)) H1 w:=by
 have hg:=fun b o u=>zex (C:=C) hw H1.length b o u
 have hle:=hH.1
 have e1:=hw.len
 have e2:=hw.lenv
 have e3:=hw.lenc
 have tk:∀ {α:Type} {l:List α} {id:Nat},id<H1.length→(l.take H1.length)[id]? =l[id]? :=fun hid=>by rw [List.getElem?_take,if_pos hid]
 have tk':∀ {α:Type} {l:List α} {id:Nat} {v:α},(l.take H1.length)[id]? =some v→id<H1.length∧l[id]? =some v:=fun h=>by
  rw [List.getElem?_take] at h
  split at h
  ·exact ⟨by assumption,h⟩
  ·cases h
 refine ⟨⟨rfl,fun b o u hu=>hg _ _ _ hu,rfl,fun b o u hu=> ?_,fun b hb=>.inl (List.mem_of_mem_take hb),fun id ver hid hv=> ?_⟩,?_⟩
 ·simp only [Ctx.cut,Ctx.given] at hu
  split at hu
  ·rename_i hm;exact .inr (.inr (List.mem_of_mem_drop (List.contains_iff_mem.1 hm)))
  ·exact .inl hu
 ·exact ⟨ver,by simp only [Ctx.cut];rw [tk hid];exact hv,Nat.le_refl _,fun _=>⟨by simp only [Ctx.cut];rw [tk hid],by simp only [Ctx.cut];rw [tk hid]⟩⟩
 ·refine ⟨hw.gl.mono (fun b o u hu=>hg b o u hu),hw.base,hw.tople,fun b o u hu=> ?_,?_,?_,?_,?_,?_,?_,?_,?_,fun i j b mi mj ci cj=>hw.minj i j b (tk' mi).2 (tk' mj).2 (tk' ci).2 (tk' cj).2⟩
  ·simp only [Ctx.cut,Ctx.given] at hu
   split at hu
   ·exact hu
   ·exact hw.imm _ _ _ hu
  ·simp only [Ctx.cut,List.length_take];omega
  ·simp only [Ctx.cut,List.length_take];omega
  ·simp only [Ctx.cut,List.length_take];omega
  ·intro id k1 hk1
   have hid:id<H1.length:=(List.getElem?_eq_some_iff.1 hk1).1
   obtain ⟨k,hk,he,hv,_,_⟩:=hH.2 id k1 hk1
   simp only [Ctx.cut];rw [tk hid,hv];exact hw.ver id k hk
  ·intro id k1 hk1 hm
   have hid:id<H1.length:=(List.getElem?_eq_some_iff.1 hk1).1
   obtain ⟨k,hk,he,hv,hl,hfz⟩:=hH.2 id k1 hk1
   simp only [Ctx.cut] at hm ⊢
   rw [tk hid] at hm ⊢
   rcases hw.gho id k hk hm with ⟨g1,g2⟩|⟨b,es,clock,q1,q2,q3,q4,q5⟩|⟨b,r,q1,q2,q3,q4⟩
   ·exact .inl ⟨g1,List.eq_nil_of_length_eq_zero (by rw [hl,g2];rfl)⟩
   ·refine .inr (.inl ⟨b,es,clock,q1,q2,q3,by omega,fun j y e hy he=> ?_⟩)
    have hj:j<k.cells.length:=by have:=(List.getElem?_eq_some_iff.1 hy).1;omega
    exact (hfz j _ y (List.getElem?_eq_getElem hj) hy).sound hw (q5 j _ e (List.getElem?_eq_getElem hj) he)
   ·refine .inr (.inr ⟨b,r,q1,q2,q3,?_,q4.2⟩)
    rw [q4.1] at hl
    obtain ⟨y,hy⟩:=List.length_eq_one_iff.1 hl
    have h1:=hfz 0 (.lp b r) y (by rw [q4.1];rfl) (by rw [hy];rfl)
    rw [hy]
    cases h1
    rfl
  ·intro id k1 b hk1 hm
   have hid:id<H1.length:=(List.getElem?_eq_some_iff.1 hk1).1
   obtain ⟨k,hk,he,hv,hl,hc⟩:=hH.2 id k1 hk1
   obtain ⟨cur,q3,q4,q5,q6,q7,q8⟩:=hw.own id k b hk (by simp only [Ctx.cut] at hm;rw [tk hid] at hm;exact hm)
   refine ⟨cur,by simp only [Ctx.cut];rw [tk hid];exact q3,q4,by rw [he];exact q5,Fz.cells hl hc q6,by omega,fun j y u hy hu=> ?_⟩
   have hj:j<k.cells.length:=by have:=(List.getElem?_eq_some_iff.1 hy).1;omega
   exact (hc j _ y (List.getElem?_eq_getElem hj) hy).sound hw (q8 j _ u (List.getElem?_eq_getElem hj) hu)
  ·intro id b hb o
   obtain ⟨hid,hb⟩:=tk' hb
   simp only [Ctx.cut,Ctx.given]
   rw [if_neg ?_]
   ·exact hw.disj id b hb o
   ·rw [List.contains_iff_mem]
    intro hmem
    obtain ⟨j,hj⟩:=List.mem_iff_getElem?.1 hmem
    rw [List.getElem?_drop] at hj
    have:=hw.inj _ _ _ hb hj
    omega
  ·intro i j b hi hj
   exact hw.inj i j b (tk' hi).2 (tk' hj).2
theorem CLeN.less {n m:Nat} {C C':Ctx} (h:CLeN n C C') (hm:m≤n):CLeN m C C':=⟨h.B,h.M,h.top,h.mnew,h.unew,fun id ver hid=>h.ids id ver (by omega)⟩
def zce:List PV→Nat→Fr
 | [],_=>[]
 | x::r,i=>(i,x)::zce r (i+1)
theorem zcE:∀ (xs:List PV) (i t:Nat),slot (zce xs i) t=if i≤t then xs.getD (t - i) .undef else .undef
 | [],i,t=>by simp [zce,slot]
 | x::r,i,t=>by
  show (match Nat.beq i t with|true=>x|false=>slot (zce r (i+1)) t)=_
  cases hb:Nat.beq i t with
  | true=>rw [Nat.eq_of_beq_eq_true hb];simp
  | false=>
   have hne:i≠t:=fun h=>by subst h;rw [Nat.beq_refl] at hb;cases hb
   simp only [zcE r (i+1) t]
   by_cases h:i≤t
   ·have e:t - i=(t - (i+1))+1:=by omega
    rw [if_pos h,if_pos (by omega),e]
    simp
   ·rw [if_neg h,if_neg (by omega)]
def zg (P:Program) (F:Nat→PV) (H:za):ResultVar→Option PV
 | .tmp t=>some (F t)
 | .cell t ty=>match F t with
  | .ptr id ver off=>zc8 P H ty (.ptr id ver off)
  | _=>none
def zd (P:Program) (rs:List ResultVar) (F:Nat→PV) (H:za):Option PV:=
 match rs with
 | [r]=>zg P F H r
 | rs=>(rs.mapM (zg P F H)).map .tup
def zoM (P:Program) (rs:List ResultVar) (R:PV→za→Prop):Exit→Fr→za→Prop
 | .ret,F,H=>∃ v,zd P rs (slot F) H=some v∧R v H
 | .normal,F,H=>∃ v,zd P rs (slot F) H=some v∧R v H
 | _,_,_=>False
def zoH (tmps:Array Value):ResultVar→Sem Value
 | .tmp t=>pure (tmps.getD t Go.undef)
 | .cell t ty=>do loadVar ty (←asAddr (tmps.getD t Go.undef))
theorem zhd {f:Nat→PV} {r:ResultVar} {v:PV} (hw:WRel C H w) (hf:FRel C N f a) (h:zg P f H r=some v):∃ u,VRel C v u∧(zoH a.tmps r).run P w= .ok u w:=by
 cases r with
 | tmp t=>simp only [zg,Option.some.injEq] at h;subst h;exact ⟨_,hf.2 t,rfl⟩
 | cell t ty=>
  simp only [zg] at h
  split at h
  ·rename_i id ver off he
   have hv:=hf.2 t
   rw [he] at hv
   have hlive:C.vs[id]? =some ver:=by
    simp only [zc8] at h
    split at h
    ·rename_i k hk
     split at h
     ·rename_i hver
      rw [←hver];exact hw.ver id k hk
     ·cases h
    ·cases h
   obtain ⟨b,hb,hq⟩:=zby hw hv hlive
   obtain ⟨u,hu,hr⟩:=zfs (P:=P) hw hv h
   refine ⟨u,hu,?_⟩
   rw [hq] at hr
   simpa [zoH,hq,Instr.loadAt,Instr.sureAddr,asAddr] using hr
  ·cases h
theorem zjQ {α β:Type} {f:α→Option β}:∀ {xs:List α} {ys:List β},xs.mapM f=some ys→ys.length=xs.length
 | [],ys,h=>by simp at h;subst h;rfl
 | x::xs,ys,h=>by
  simp only [List.mapM_cons,Option.bind_eq_bind,Option.pure_def,Option.bind_eq_some_iff,Option.some.injEq] at h
  obtain ⟨y,hy,ys',hys,rfl⟩:=h
  simp [zjQ hys]
theorem zbb {f:Nat→PV} {fn:Func} {v:PV} (hw:WRel C H w) (hf:FRel C N f a) (h:zd P fn.results.toList f H=some v):∃ u,VRel C v u∧(results fn a.tmps).run P w= .ok u w:=by
 have lst:∀ (rs:List ResultVar) (vs:List PV),rs.mapM (zg P f H)=some vs→∃ us,VRels C vs us∧(rs.mapM (zoH a.tmps)).run P w= .ok us w:=by
  intro rs
  induction rs with
  | nil=>intro vs h;simp at h;subst h;exact ⟨[],⟨rfl,fun j x u hx=>by simp at hx⟩,by simp⟩
  | cons r rs ih=>
   intro vs h
   simp only [List.mapM_cons,Option.bind_eq_bind,Option.pure_def,Option.bind_eq_some_iff,Option.some.injEq] at h
   obtain ⟨v,hv,vs',hvs,rfl⟩:=h
   obtain ⟨u,hu,hr⟩:=zhd hw hf hv
   obtain ⟨us,hus,hrs⟩:=ih vs' hvs
   refine ⟨u::us,⟨by simp [hus.1],fun j x u' hx hu'=> ?_⟩,?_⟩
   ·cases j with
    | zero=>simp at hx hu';subst hx;subst hu';exact hu
    | succ j=>exact hus.2 j x u' (by simpa using hx) (by simpa using hu')
   ·simp [List.mapM_cons,hr,hrs]
 have hres:∀ us,(fn.results.toList.mapM (zoH a.tmps)).run P w= .ok us w→(results fn a.tmps).run P w= .ok (if h:us.toArray.size=1 then us.toArray[0] else .tuple us.toArray) w:=fun us hus=>by
  have e:results fn a.tmps=(do let vs←fn.results.mapM (zoH a.tmps);pure (if h:vs.size=1 then vs[0] else .tuple vs)):=by
   unfold results
   congr 1
  rw [e,Array.mapM_eq_mapM_toList]
  simp only [Sem.run_bind,Sem.run_map,hus,Result.andThen_ok,Sem.run_pure]
 unfold zd at h
 split at h
 ·rename_i r hr
  obtain ⟨us,hus,hrun⟩:=lst [r] [v] (by simp [List.mapM_cons,h])
  rw [hr] at hres
  have:=hres us hrun
  match us,hus with
  | [u],hus=>exact ⟨u,hus.2 0 v u rfl rfl,by simpa using this⟩
  | [],hus=>simp [VRels] at hus
  | _::_::_,hus=>simp [VRels] at hus
 ·rename_i hne
  simp only [Option.map_eq_some_iff] at h
  obtain ⟨vs,hvs,rfl⟩:=h
  obtain ⟨us,hus,hrun⟩:=lst _ vs hvs
  have hl:=zjQ hvs
  have hsz:¬ us.toArray.size=1:=by
   intro h1
   have h2:fn.results.toList.length=1:=by rw [←hl,←hus.1];simpa using h1
   obtain ⟨r,hr⟩:=List.length_eq_one_iff.1 h2
   exact hne r hr
  refine ⟨.tuple us.toArray,.tup hus.1 hus.2,?_⟩
  rw [hres us hrun]
  simp only [hsz,dite_false]
def zqO (H:za) (R:PV→za→Prop) (v':PV) (H':za):Prop:=
 R v' H'∨(∃ K d v,H'=H++K∧R v H∧frz H.length H' d v'=some v)∨(HSc H→∃ v Hout,R v Hout∧H.length≤Hout.length∧CutH H' Hout∧Fz Hout.length H' v' v)
theorem CallEx.intro {f:FuncId} {fn:Func} {c:Code} {args:List PV} {R:PV→za→Prop} (hf:P.funcs[f]? =some fn) (hb:fn.body=some c) (hcall:zaE P f=true) (hn:args.length≤fn.ntmps)
  (h:PW P ⟨fn.ntmps,H⟩ c (zce args 0) H (zoM P fn.results.toList (zqO H R))):CallEx P f args H R:=by
 refine ⟨hcall,fun C us w hw hargs=>calls_of_wp hf hb ?_⟩
 have hfr:FRel C fn.ntmps (slot (zce args 0)) { tmps:=us.toArray++Array.replicate (fn.ntmps - us.toArray.size) Go.undef,defers:=[] }:=by
  refine ⟨by simp [hargs.1];omega,fun t=> ?_⟩
  rw [zcE]
  simp only [Nat.zero_le,if_true,Nat.sub_zero]
  by_cases ht:t<args.length
  ·have htu:t<us.length:=by rw [hargs.1];exact ht
   have e1:args.getD t .undef=args[t]:=by simp [List.getD,ht]
   have e2:(us.toArray++Array.replicate (fn.ntmps - us.toArray.size) Go.undef).getD t Go.undef=us[t]:=by
    rw [Array.getD_eq_getD_getElem?,Array.getElem?_append_left (by simpa using htu)]
    simp [htu]
   rw [e1,e2]
   exact hargs.2 t _ _ (List.getElem?_eq_getElem ht) (List.getElem?_eq_getElem htu)
  ·have e1:args.getD t .undef= .undef:=by simp [List.getD,List.getElem?_eq_none (by omega:args.length≤t)]
   rw [e1]
   exact .undef _
 refine wp_mono (h hw.hsc C _ w rfl hw hfr) ?_
 rintro e a' w' ⟨C',F',H',q1,q2,q3,q4,q5,q6⟩
 have q1':=q1.full hw.lenv
 have fin:(∃ v',zd P fn.results.toList (slot F') H'=some v'∧zqO H R v' H')→
   a'.defers=[]∧∃ u,(results fn a'.tmps).run P w'= .ok u w'∧∃ C'' u' v Hout,R v Hout∧CLe C C''∧WRel C'' Hout w'∧Below C.B w w'∧Ending.returned u= .returned u'∧VRel C'' v u':=by
  rintro ⟨v',hv',hR⟩
  obtain ⟨u,hu,hr⟩:=zbb q3 q5 hv'
  refine ⟨q2,u,hr,?_⟩
  rcases hR with hR|⟨K,d,v,rfl,hR,hfz⟩|hR
  ·exact ⟨C',u,v',H',hR,q1',q3,q4,rfl,hu⟩
  ·obtain ⟨g1,g2⟩:=WRel.give hw q1' q3
   exact ⟨_,u,v,H,hR,g1,g2,q4,rfl,zdK q3 _ d v' v u hu hfz⟩
  ·obtain ⟨v,Hout,hR,hlen,hcut,hfz⟩:=hR hw.hsc
   obtain ⟨g1,g2⟩:=q3.cutN hcut
   exact ⟨_,u,v,Hout,hR,(q1.trans (g1.less hlen)).full hw.lenv,g2,q4,rfl,hfz.sound q3 hu⟩
 cases e with
 | ret=>exact fin q6
 | normal=>exact fin q6
 | _=>exact q6.elim
def Fin (H:za) (v:PV) (Hout:za) (v':PV) (H':za):Prop:=(v'=v∧H'=Hout)∨(∃ K d,H'=H++K∧Hout=H∧frz H.length H' d v'=some v)∨(HSc H→H.length≤Hout.length∧CutH H' Hout∧Fz Hout.length H' v' v)
theorem CallOk.body {f:FuncId} {fn:Func} {c:Code} {rs:Array ResultVar} {F0:Fr} {args:List PV} {v:PV} {Hout:za} (hf:P.funcs[f]? =some fn) (hb:fn.body=some c) (hN:fn.ntmps=N) (hrs:fn.results=rs) (hF:zce args 0=F0)
  (hcall:zaE P f=true) (hn:Nat.ble args.length N=true) (h:PW P ⟨N,H⟩ c F0 H (zoM P rs.toList (Fin H v Hout))):CallOk P f args H v Hout:=by
 subst hN hrs hF
 refine (CallEx.intro hf hb hcall (Nat.le_of_ble_eq_true hn) (h.mono fun e F' H' hq=> ?_)).one
 have key:∀ v' H',Fin H v Hout v' H'→zqO H (fun v' H''=>v'=v∧H''=Hout) v' H':=fun v' H' hf=>by
  rcases hf with hf|⟨K,d,h1,h2,h3⟩|hf
  ·exact .inl hf
  ·exact .inr (.inl ⟨K,d,v,h1,⟨rfl,h2.symm⟩,h3⟩)
  ·exact .inr (.inr fun hs=>⟨v,Hout,⟨rfl,rfl⟩,hf hs⟩)
 cases e with
 | ret=>obtain ⟨v',h1,h2⟩:=hq;exact ⟨v',h1,key v' H' h2⟩
 | normal=>obtain ⟨v',h1,h2⟩:=hq;exact ⟨v',h1,key v' H' h2⟩
 | _=>exact hq
theorem CallEx.body {f:FuncId} {fn:Func} {c:Code} {rs:Array ResultVar} {F0:Fr} {args:List PV} {R:PV→za→Prop} (hf:P.funcs[f]? =some fn) (hb:fn.body=some c) (hN:fn.ntmps=N) (hrs:fn.results=rs) (hF:zce args 0=F0)
  (hcall:zaE P f=true) (hn:Nat.ble args.length N=true) (h:PW P ⟨N,H⟩ c F0 H (zoM P rs.toList (zqO H R))):CallEx P f args H R:=by
 subst hN hrs hF
 exact CallEx.intro hf hb hcall (Nat.le_of_ble_eq_true hn) h
section rules
variable {E:Env} {Q:Exit→Fr→za→Prop}
end rules
end Go.Proofs.YtjgmdlcjbgiekaaGreatDoor.Pm
