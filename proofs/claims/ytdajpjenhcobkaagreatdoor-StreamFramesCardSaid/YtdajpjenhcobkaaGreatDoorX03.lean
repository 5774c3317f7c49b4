/-
  Parts of the proof. No condition.
-/
import Derived.Test.YtdajpjenhcobkaaGreatDoorX02
import Derived.ProofKit
import Derived.OpenShut
import Derived.ChangeOld
import Derived.Carry
import Derived.RangeFuncRecord
import Derived.RangeFuncIn
import Derived.Test.YtdajpjenhcobkaaGreatDoorRows
import Derived.LaidMore
import Derived.MakeChecks
import Derived.LaidHandle
import Derived.FnData
open Array renaming length_toList → jB, getElem?_eq_some_iff → jI
open Bool renaming and_eq_true → qH
open List renaming getElem?_eq_getElem → qA, getElem?_eq_some_iff → qB, getElem?_append_left → qD, mem_of_getElem? → qI, eq_nil_of_length_eq_zero → qK, getElem?_map → qL, flatten_cons → qM, length_take → qN, contains_iff_mem → qO, mem_of_mem_take → qP, mem_cons_of_mem → qQ, getElem?_set_ne → qR, append_nil → qS, range → qT, mem_cons_self → qU, mapM_cons → qV, getElem?_append_right → qW, mem_cons → qX, all_eq_true → qY, all_append → qZ, flatten_append → jC, getElem_mem → jF, mem_append → jH, length_eq_one_iff → jJ, mem_iff_getElem? → jM, range_eq_range' → jO, mem_of_mem_drop → jP, mem_map_of_mem → jQ, getElem_of_mem → jR
open Nat renaming le_refl → qG, eq_zero_or_pos → jD, zero_le → jG, lt_or_ge → jK, beq → jL, le_of_ble_eq_true → jN
open Option renaming map_eq_some_iff → qE, some → qF, bind_eq_some_iff → qJ, bind_eq_bind → jA, pure_def → jE
set_option linter.all false
set_option maxRecDepth 100000
set_option maxHeartbeats 32000000
namespace Go.Proofs.YtdajpjenhcobkaaGreatDoor.Pm
open Go.RowKit
variable {P:Program} {C:Ctx} {H:za} {w:World} {F:Fr} {a:Act} {N:Nat}
def Ctx.cut(C:Ctx)(n:Nat)(M:Nat->Nat->Option Value):Ctx:={ B:=C.B,top:=C.top,M:=M,mu:=C.mu.take n,vs:=C.vs.take n,cp:=C.cp.take n }
theorem VRel.cut{n:Nat}{M:Nat->Nat->Option Value}(hM:∀ b o u,C.M b o=some u->M b o=some u){x:PV}{u:Value}(h:VRel C x u)(hs:Scoped n x):VRel (C.cut n M) x u:=by
 have tk:∀{α:Type} {l:List α} {id:Nat} {v:α},id<n->l[id]? =some v->(l.take n)[id]? =some v:=λhid h=>by simp_all
 induction h with
 | nl k=>exact .nl k
 | yl hl _ ih=>cases hs with|yl h=>exact .yl hl (λj x u hx hu=>ih j x u hx hu (h j x hx))
 | int k n=>exact .int k n
 | bool b=>exact .bool b
 | str s=>exact .str _
 | nilp=>exact .nilp
 | ptr hm hv=>cases hs with|ptr hid=>exact .ptr (tk hid hm) (tk hid hv)
 | ptrS v h1 hv hlt=>cases hs with|ptr hid=>exact .ptrS v h1 (tk hid hv) hlt
 | ip hl hM' hc _ ih=>cases hs with|ip h=>exact .ip hl (λj u hu=>hM _ _ _ (hM' j u hu)) hc (λj x u hx hu=>ih j x u hx hu (h j x hx))
 | slice hl hM' hc _ hcap hmax hf ih=>cases hs with|slice h=>exact .slice hl (λj u hu=>hM _ _ _ (hM' j u hu)) hc (λj x u hx hu=>ih j x u hx hu (h j x hx)) hcap hmax hf
 | sliceN ad full=>exact .sliceN ad full
 | msl hm hv hcap hmax hg=>cases hs with|msl hid=>exact .msl (tk hid hm) (tk hid hv) hcap hmax (λhgt=>⟨(hg hgt).1,tk hid (hg hgt).2⟩)
 | mslE hm hv hmax=>cases hs with|msl hid=>exact .mslE (tk hid hm) (tk hid hv) hmax
 | mslG ad hm hv=>cases hs with|msl hid=>exact .mslG ad ⟨tk hid hm.1,tk hid hm.2⟩ (tk hid hv)
 | mslS v h1 hv hlt=>cases hs with|msl hid=>exact .mslS v h1 (tk hid hv) hlt
 | mp hm hv hb=>cases hs with|mp hid=>exact .mp (tk hid hm) (tk hid hv) (tk hid hb)
 | mpS v h1 hv hlt=>cases hs with|mp hid=>exact .mpS v h1 (tk hid hv) hlt
 | agg hl hc _ ih=>cases hs with|agg h=>exact .agg hl hc (λj x u hx hu=>ih j x u hx hu (h j x hx))
 | tup hl _ ih=>cases hs with|tup h=>exact .tup hl (λj x u hx hu=>ih j x u hx hu (h j x hx))
 | func hl hl' _ _ ih ih'=>cases hs with|func h h'=>exact .func hl hl' (λj x u hx hu=>ih j x u hx hu (h j x hx)) (λj x u hx hu=>ih' j x u hx hu (h' j x hx))
 | undef v=>exact .undef v
def frz(n:Nat)(H:za):Nat->PV->Option PV
 | 0,_=>none
 | _+1,.int k m=>some (.int k m)
 | _+1,.bool b=>some (.bool b)
 | _+1,.str s=>some (.str s)
 | _+1,.nilp=>some .nilp
 | _+1,.nl k=>some (.nl k)
 | _+1,.yl _ _ _=>none
 | _+1,.lp _ _=>none
 | _+1,.undef=>some .undef
 | _+1,.ptr id ver off=>if id<n then some (.ptr id ver off)else none
 | _+1,.mp id ver=>if id<n then some (.mp id ver)else none
 | d+1,.ip xs off=>(xs.mapM (frz n H d)).map λys=>.ip ys off
 | d+1,.slice xs len _=>(xs.mapM (frz n H d)).map λys=>.slice ys len false
 | d+1,.msl id ver off len sz g=>if id<n then some (.msl id ver off len sz g)else match H[id]? with
  | some k=>if k.ver=ver/\off+len * sz<=k.cells.length then(((k.cells.drop off).take (len * sz)).mapM (frz n H d)).map λys=>.slice ys len false else none
  | none=>none
 | d+1,.agg cs=>(cs.mapM (frz n H d)).map .agg
 | d+1,.tup vs=>(vs.mapM (frz n H d)).map .tup
 | d+1,.func f fs cs=>match fs.mapM (frz n H d),cs.mapM (frz n H d)with|some fs',some cs'=>some (.func f fs' cs')|_,_=>none
theorem zhY{f:PV->Option PV}:∀{xs ys:List PV},xs.mapM f=some ys->ys.length=xs.length/\∀(j:Nat) (y:PV),ys[j]? =some y->∃ x,xs[j]? =some x/\f x=some y
 | [],ys,h=>by simp at h;subst h;exact⟨rfl,λj y hy=>by simp at hy⟩
 | x::xs,ys,h=>by simp only[qV,jA,jE,qJ,qF.injEq]at h;obtain⟨y,hy,ys',hys,rfl⟩:=h;obtain⟨hl,hg⟩:=zhY hys;grind
theorem zrN{n d:Nat}{x y:PV}(h:frz n H d x=some y)(hc:x.cell=true):y.cell=true:=by
 cases d with
 | zero=>simp[frz]at h
 | succ d=>cases x<;>simp only[frz]at h;all_goals grind[PV.cell,qE]
def Ctx.given(C:Ctx)(n:Nat)(w:World):Nat->Nat->Option Value:=λb o=>if(C.mu.drop n).contains (some b)then w.cell? ⟨b,o,none⟩else C.M b o
theorem zfn(hw:WRel C H w)(n b o:Nat)(u:Value)(h:C.M b o=some u):C.given n w b o=some u:=by
 unfold Ctx.given;split
 .exact hw.imm _ _ _ h
 .exact h
theorem zen(hw:WRel C H w)(n:Nat):∀(d:Nat) (x y:PV) (u:Value),VRel C x u->frz n H d x=some y->VRel (C.cut n (C.given n w)) y u
 | 0,x,y,u,_,h=>by simp[frz]at h
 | d+1,x,y,u,hv,h=>by
  have hg:=λb o u=>zfn (C:=C) hw n b o u;have lst:∀{xs ys:List PV} {us:List Value},us.length=xs.length->Rel C xs us->xs.mapM (frz n H d)=some ys->us.length=ys.length/\Rel (C.cut n (C.given n w)) ys us:=λhl hR hm=>by obtain⟨h1,h2⟩:=zhY hm;refine⟨om,λj y u hy hu=> ?_⟩;obtain⟨x,hx,hf⟩:=h2 j y hy;exact zen hw n d x y u (hR j x u hx hu) hf
  have cls:∀{xs ys:List PV},(∀ x∈xs,x.cell=true)->xs.mapM (frz n H d)=some ys->∀ y∈ys,y.cell=true:=λhc hm y hy=>by obtain⟨h1,h2⟩:=zhY hm;obtain⟨j,hj,rfl⟩:=jR hy;obtain⟨x,hx,hf⟩:=h2 j _ (qA hj);grind[zrN,qI]
  cases x with
  | int k m=>simp only[frz,qF.injEq]at h;subst h;exact hv.cut hg (.int _ _)
  | bool b=>simp only[frz,qF.injEq]at h;subst h;exact hv.cut hg (.bool _)
  | str s=>simp only[frz,qF.injEq]at h;subst h;exact hv.cut hg (.str _)
  | nilp=>simp only[frz,qF.injEq]at h;subst h;exact hv.cut hg .nilp
  | nl k=>simp only[frz,qF.injEq]at h;subst h;exact hv.cut hg (.nl k)
  | yl l us fs=>simp[frz]at h
  | lp l r=>simp[frz]at h
  | undef=>simp only[frz,qF.injEq]at h;subst h;exact .undef _
  | ptr id ver off=>
   simp only[frz]at h;split at h
   .rename_i hid;injection h with h;subst h;exact hv.cut hg (.ptr hid)
   .cases h
  | mp id ver=>
   simp only[frz]at h;split at h
   .rename_i hid;injection h with h;subst h;exact hv.cut hg (.mp hid)
   .cases h
  | ip xs off=>
   simp only[frz,qE]at h;obtain⟨ys,hm,rfl⟩:=h;cases hv with
   | ip hl hM hc hR=>
    obtain⟨l1,l2⟩:=lst hl hR hm;exact .ip l1 (λj u hu=>hg _ _ _ (hM j u hu)) (cls hc hm) l2
  | slice xs len full=>
   simp only[frz,qE]at h;obtain⟨ys,hm,rfl⟩:=h;cases hv with
   | slice hl hM hc hR hcap hmax hf=>
    obtain⟨l1,l2⟩:=lst hl hR hm;exact .slice l1 (λj u hu=>hg _ _ _ (hM j u hu)) (cls hc hm) l2 hcap hmax (λhft=>by cases hft)
   | sliceN=>
    simp at hm;subst hm;exact .sliceN _ _
  | agg cs=>
   simp only[frz,qE]at h;obtain⟨ys,hm,rfl⟩:=h;cases hv with
   | agg hl hc hR=>
    obtain⟨l1,l2⟩:=lst hl hR hm;exact .agg l1 (cls hc hm) l2
  | tup vs=>
   simp only[frz,qE]at h;obtain⟨ys,hm,rfl⟩:=h;cases hv with
   | tup hl hR=>
    obtain⟨l1,l2⟩:=lst hl hR hm;exact .tup l1 l2
  | func f fs cs=>
   simp only[frz]at h;split at h
   .rename_i fs' cs' h1 h2;injection h with h;subst h;cases hv with
    | func hl hl' hR hR'=>obtain⟨l1,l2⟩:=lst hl hR h1;obtain⟨l3,l4⟩:=lst hl' hR' h2;exact .func l1 l3 l2 l4
   .cases h
  | msl id ver off len sz g=>
   simp only[frz]at h;split at h
   .rename_i hid;injection h with h;subst h;exact hv.cut hg (.msl hid)
   .rename_i hid;split at h
    .rename_i k hk;split at h
     .rename_i hq;simp only[qE]at h;obtain⟨ys,hm,rfl⟩:=h;have q2:=hw.ver id k hk;rw[hq.1]at q2;obtain⟨b,cap,off',q1,rfl,hc1,hc2,ho,_⟩|⟨ad,hgh,h0,rfl⟩:=zbv hw hv q2;rotate_left
      .subst h0;simp at hm;subst hm;exact .sliceN _ _
      obtain⟨cur,q3,q5,q6,q7,q8,q9,q10⟩:=hw.blk hk q1;have hmem:(C.mu.drop n).contains (some b)=true:=by rw[qO];refine qI (i:=id - n) ?_;simp_all
      have hlen:(((cur.toList.take k.cells.length).drop off).take (len * sz)).length=((k.cells.drop off).take (len * sz)).length:=by simp;omega
      obtain⟨l1,l2⟩:=lst hlen ((q9.drop off).take (len * sz)) hm;refine .slice l1 (λj u hu=> ?_) (cls (λx hx=>q6 x (jP (qP hx))) hm) l2 hc1 hc2 (λhf=>by cases hf);show C.given n w b (off'+j)=some u;unfold Ctx.given;rw[if_pos hmem];rcases jD len with h0|h0
      .simp_all
      .obtain rfl:=ho h0;have:=((q8.drop off').take (len * sz)) j u hu;simp_all
     .cases h
    .cases h
theorem WRel.giveN{K:za}(h0:HSc H)(hw:WRel C (H++K) w):CLeN H.length C (C.cut H.length (C.given H.length w))/\WRel (C.cut H.length (C.given H.length w)) H w:=by
 have hg:=λb o u=>zfn (C:=C) hw H.length b o u;have e1:=hw.len;have e2:=hw.lenv;have e3:=hw.lenc;simp only[List.length_append]at e1 e2 e3;have tk:∀{α:Type} {l:List α} {id:Nat},id<H.length->(l.take H.length)[id]? =l[id]? :=λhid=>by simp_all
 have tk':∀{α:Type} {l:List α} {id:Nat} {v:α},(l.take H.length)[id]? =some v->id<H.length/\l[id]? =some v:=λh=>by grind
 refine⟨⟨rfl,λb o u hu=>hg _ _ _ hu,rfl,λb o u hu=> ?_,λb hb=>.inl (qP hb),λid ver hid hv=> ?_⟩,?_⟩
 .simp only[Ctx.cut,Ctx.given]at hu;grind
 .exact⟨ver,by simp only[Ctx.cut];rw[tk hid];exact hv,qG _,λ_=>⟨by simp only[Ctx.cut];rw[tk hid],by simp only[Ctx.cut];rw[tk hid]⟩⟩
 .refine⟨hw.gl.mono (λb o u hu=>hg b o u hu),hw.base,hw.tople,λb o u hu=> ?_,?_,?_,?_,?_,?_,?_,?_,?_,λi j b mi mj ci cj=>hw.minj i j b (tk' mi).2 (tk' mj).2 (tk' ci).2 (tk' cj).2⟩
  .simp only[Ctx.cut,Ctx.given]at hu;split at hu
   .exact hu
   .exact hw.imm _ _ _ hu
  .simp only[Ctx.cut,qN];omega
  .simp only[Ctx.cut,qN];omega
  .simp only[Ctx.cut,qN];omega
  .intro id k hk;have hid:id<H.length:=(qB.1 hk).1;simp only[Ctx.cut];rw[tk hid];exact hw.ver id k (by rw[qD hid];exact hk)
  .intro id k hk hm;have hid:id<H.length:=(qB.1 hk).1;simp only[Ctx.cut]at hm |-;rw[tk hid]at hm |-;refine(hw.gho id k (by rw[qD hid];exact hk) hm).imp_right ?_;rintro(⟨b,es,clock,q1,q2,q3,q4,q5⟩|⟨b,r,q1,q2,q3,q4⟩)
   .exact .inl ⟨b,es,clock,q1,q2,q3,q4,λj x e hx he=>(q5 j x e hx he).cut hg (h0 id k hk x (qI hx))⟩
   .exact .inr ⟨b,r,q1,q2,q3,q4⟩
  .intro id k b hk hm;have hid:id<H.length:=(qB.1 hk).1;obtain⟨cur,q3,q4,q5,q6,q7,q8⟩:=hw.own id k b (by rw[qD hid];exact hk) (by simp only[Ctx.cut]at hm;rw[tk hid]at hm;exact hm);refine⟨cur,by simp only[Ctx.cut];rw[tk hid];exact q3,q4,q5,q6,q7,λj x u hx hu=> ?_⟩;exact(q8 j x u hx hu).cut hg (h0 id k hk x (qI hx))
  .intro id b hb o;obtain⟨hid,hb⟩:=tk' hb;simp only[Ctx.cut,Ctx.given];rw[if_neg ?_]
   .exact hw.disj id b hb o
   .rw[qO];intro hmem;obtain⟨j,hj⟩:=jM.1 hmem;rw[List.getElem?_drop]at hj;have:=hw.inj _ _ _ hb hj;omega
  .intro i j b hi hj;exact hw.inj i j b (tk' hi).2 (tk' hj).2
theorem WRel.give{K:za}{C0:Ctx}{w0:World}(h0:WRel C0 H w0)(hle:CLe C0 C)(hw:WRel C (H++K) w):CLe C0 (C.cut H.length (C.given H.length w))/\WRel (C.cut H.length (C.given H.length w)) H w:=by obtain⟨g1,g2⟩:=WRel.giveN h0.hsc hw;exact⟨((hle.toN _).trans g1).full h0.lenv,g2⟩
inductive Fz(n:Nat)(H:za):PV->PV->Prop where
 | id {x:PV} (h:Scoped n x):Fz n H x x
 | slice {xs ys:List PV} {len:Nat} {full full':Bool} (hl:ys.length=xs.length) (h:∀(j:Nat) (x y:PV),xs[j]? =some x->ys[j]? =some y->Fz n H x y) (hf:full'=true->full=true):Fz n H (.slice xs len full) (.slice ys len full')
 | ip {xs ys:List PV} {off:Nat} (hl:ys.length=xs.length) (h:∀(j:Nat) (x y:PV),xs[j]? =some x->ys[j]? =some y->Fz n H x y):Fz n H (.ip xs off) (.ip ys off)
 | msl {id ver off len sz:Nat} {g:Bool} {k:Blk} {ys:List PV} (hn:n<=id) (hk:H[id]? =some k) (hv:k.ver=ver) (ho:off+len * sz<=k.cells.length)
   (hl:ys.length=((k.cells.drop off).take (len * sz)).length) (h:∀(j:Nat) (x y:PV),((k.cells.drop off).take (len * sz))[j]? =some x->ys[j]? =some y->Fz n H x y):Fz n H (.msl id ver off len sz g) (.slice ys len false)
 | ptr {id ver off:Nat} {k:Blk} {ys:List PV} (hn:n<=id) (hk:H[id]? =some k) (hv:k.ver=ver)
   (hl:ys.length=k.cells.length) (h:∀(j:Nat) (x y:PV),k.cells[j]? =some x->ys[j]? =some y->Fz n H x y):Fz n H (.ptr id ver off) (.ip ys off)
 | agg {xs ys:List PV} (hl:ys.length=xs.length) (h:∀(j:Nat) (x y:PV),xs[j]? =some x->ys[j]? =some y->Fz n H x y):Fz n H (.agg xs) (.agg ys)
 | tup {xs ys:List PV} (hl:ys.length=xs.length) (h:∀(j:Nat) (x y:PV),xs[j]? =some x->ys[j]? =some y->Fz n H x y):Fz n H (.tup xs) (.tup ys)
 | func {f:FuncId} {xs ys us vs:List PV} (hl:ys.length=xs.length) (h:∀(j:Nat) (x y:PV),xs[j]? =some x->ys[j]? =some y->Fz n H x y)
   (hl':vs.length=us.length) (h':∀(j:Nat) (x y:PV),us[j]? =some x->vs[j]? =some y->Fz n H x y):Fz n H (.func f xs us) (.func f ys vs)
theorem Fz.cell{n:Nat}{x y:PV}(h:Fz n H x y)(hc:x.cell=true):y.cell=true:=by cases h<;>first|exact hc|rfl|(simp[PV.cell]at hc;done)
theorem Fz.cells{n:Nat}{xs ys:List PV}(hl:ys.length=xs.length)(h:∀(j:Nat) (x y:PV),xs[j]? =some x->ys[j]? =some y->Fz n H x y)(hc:∀ x∈xs,x.cell=true):∀ y∈ys,y.cell=true:=λy hy=>by obtain⟨j,hj,rfl⟩:=jR hy;exact(h j _ _ (qA om) (qA hj)).cell (hc _ (jF _))
theorem Fz.rels{D:Ctx}{xs ys:List PV}{us:List Value}(hl:ys.length=xs.length)(hul:us.length=xs.length)(hR:Rel C xs us)(ih:∀(j:Nat) (x y:PV),xs[j]? =some x->ys[j]? =some y->∀{u:Value},VRel C x u->VRel D y u):us.length=ys.length/\Rel D ys us:=
 ⟨om,λj y u hy hu=>by
  have hj:j<xs.length:=by have:=(qB.1 hy).1;omega
  exact ih j xs[j] y (qA hj) hy (hR j _ u (qA hj) hu)⟩
theorem Fz.sound{n:Nat}(hw:WRel C H w){x y:PV}(h:Fz n H x y):∀{u:Value},VRel C x u->VRel (C.cut n (C.given n w)) y u:=by
 have hg:=λb o u=>zfn (C:=C) hw n b o u;have mem:∀{id b:Nat},n<=id->C.mu[id]? =some (some b)->(C.mu.drop n).contains (some b)=true:=fun{id b} hn q1=>by rw[qO];refine qI (i:=id - n) ?_;simp_all
 induction h with
 | id hs=>intro u hv;exact hv.cut hg hs
 | slice hl h hf ih=>
  intro u hv;cases hv with
  | slice hul hM hc hR hcap hmax hfu=>
   obtain⟨l1,l2⟩:=Fz.rels hl hul hR ih;exact .slice l1 (λj u hu=>hg _ _ _ (hM j u hu)) (Fz.cells hl h hc) l2 hcap hmax (λe=>hfu (hf e))
  | sliceN=>
   have e:=qK hl;subst e;exact .sliceN _ _
 | ip hl h ih=>
  intro u hv;cases hv with
  | ip hul hM hc hR=>
   obtain⟨l1,l2⟩:=Fz.rels hl hul hR ih;exact .ip l1 (λj u hu=>hg _ _ _ (hM j u hu)) (Fz.cells hl h hc) l2
 | @msl id ver off len sz g k ys hn hk hv' ho hl h ih=>
  intro u hv;have q2:=hw.ver id k hk;rw[hv']at q2;obtain⟨b,cap,off',q1,rfl,hc1,hc2,ho',_⟩|⟨ad,hgh,h0,rfl⟩:=zbv hw hv q2
  .obtain⟨cur,q3,q5,q6,q7,q8,q9,q10⟩:=hw.blk hk q1;have hlen:(((cur.toList.take k.cells.length).drop off).take (len * sz)).length=((k.cells.drop off).take (len * sz)).length:=by simp;omega
   obtain⟨l1,l2⟩:=Fz.rels hl hlen ((q9.drop off).take (len * sz)) ih;refine .slice l1 (λj u hu=> ?_) (Fz.cells hl h (λx hx=>q6 x (jP (qP hx)))) l2 hc1 hc2 (λhf=>by cases hf);show C.given n w b (off'+j)=some u;unfold Ctx.given;rw[if_pos (mem hn q1)];rcases jD len with h0|h0
   .simp_all
   .obtain rfl:=ho' h0;have:=((q8.drop off').take (len * sz)) j u hu;simp_all
  .subst h0;have e:ys=[]:=qK (by rw[hl];simp);subst e;exact .sliceN _ _
 | @ptr id ver off k ys hn hk hv' hl h ih=>
  intro u hv;have q2:=hw.ver id k hk;rw[hv']at q2;obtain⟨b,q1,rfl⟩:=zbU hw hv q2;obtain⟨cur,q3,q5,q6,q7,q8,q9,q10⟩:=hw.blk hk q1;obtain⟨l1,l2⟩:=Fz.rels hl q10 q9 ih;have:=VRel.ip (C:=C.cut n (C.given n w)) (off:=off) (b:=b) (o:=0) l1 (λj u hu=>by
   show C.given n w b (0+j)=some u;unfold Ctx.given;rw[if_pos (mem hn q1)];exact q8 j u hu) (Fz.cells hl h q6) l2
  simp_all
 | agg hl h ih=>
  intro u hv;cases hv with
  | agg hul hc hR=>
   obtain⟨l1,l2⟩:=Fz.rels hl hul hR ih;exact .agg l1 (Fz.cells hl h hc) l2
 | tup hl h ih=>
  intro u hv;cases hv with
  | tup hul hR=>
   obtain⟨l1,l2⟩:=Fz.rels hl hul hR ih;exact .tup l1 l2
 | func hl h hl' h' ih ih'=>
  intro u hv;cases hv with
  | func hul hul' hR hR'=>obtain⟨l1,l2⟩:=Fz.rels hl hul hR ih;obtain⟨l3,l4⟩:=Fz.rels hl' hul' hR' ih';exact .func l1 l3 l2 l4
def CutH(H H1:za):Prop:=H1.length<=H.length/\∀(j:Nat) (k1:Blk),H1[j]? =some k1->∃ k,H[j]? =some k/\k1.e=k.e/\k1.ver=k.ver/\k1.cells.length=k.cells.length/\∀(i:Nat) (x y:PV),k.cells[i]? =some x->k1.cells[i]? =some y->Fz H1.length H x y
theorem WRel.cutN{H1:za}(hw:WRel C H w)(hH:CutH H H1):CLeN H1.length C (C.cut H1.length (C.given H1.length w))/\WRel (C.cut H1.length (C.given H1.length w)) H1 w:=by
 have hg:=λb o u=>zfn (C:=C) hw H1.length b o u;have hle:=hH.1;have e1:=hw.len;have e2:=hw.lenv;have e3:=hw.lenc;have tk:∀{α:Type} {l:List α} {id:Nat},id<H1.length->(l.take H1.length)[id]? =l[id]? :=λhid=>by simp_all
 have tk':∀{α:Type} {l:List α} {id:Nat} {v:α},(l.take H1.length)[id]? =some v->id<H1.length/\l[id]? =some v:=λh=>by grind
 refine⟨⟨rfl,λb o u hu=>hg _ _ _ hu,rfl,λb o u hu=> ?_,λb hb=>.inl (qP hb),λid ver hid hv=> ?_⟩,?_⟩
 .simp only[Ctx.cut,Ctx.given]at hu;grind
 .exact⟨ver,by simp only[Ctx.cut];rw[tk hid];exact hv,qG _,λ_=>⟨by simp only[Ctx.cut];rw[tk hid],by simp only[Ctx.cut];rw[tk hid]⟩⟩
 .refine⟨hw.gl.mono (λb o u hu=>hg b o u hu),hw.base,hw.tople,λb o u hu=> ?_,?_,?_,?_,?_,?_,?_,?_,?_,λi j b mi mj ci cj=>hw.minj i j b (tk' mi).2 (tk' mj).2 (tk' ci).2 (tk' cj).2⟩
  .simp only[Ctx.cut,Ctx.given]at hu;split at hu
   .exact hu
   .exact hw.imm _ _ _ hu
  .simp only[Ctx.cut,qN];omega
  .simp only[Ctx.cut,qN];omega
  .simp only[Ctx.cut,qN];omega
  .intro id k1 hk1;have hid:id<H1.length:=(qB.1 hk1).1;obtain⟨k,hk,he,hv,_,_⟩:=hH.2 id k1 hk1;simp only[Ctx.cut];rw[tk hid,hv];exact hw.ver id k hk
  .intro id k1 hk1 hm;have hid:id<H1.length:=(qB.1 hk1).1;obtain⟨k,hk,he,hv,hl,hfz⟩:=hH.2 id k1 hk1;simp only[Ctx.cut]at hm |-;rw[tk hid]at hm |-;rcases hw.gho id k hk hm with⟨g1,g2⟩|⟨b,es,clock,q1,q2,q3,q4,q5⟩|⟨b,r,q1,q2,q3,q4⟩
   .simp_all
   .refine .inr (.inl ⟨b,es,clock,q1,q2,q3,om,λj y e hy he=> ?_⟩);have hj:j<k.cells.length:=by grind
    exact(hfz j _ y (qA hj) hy).sound hw (q5 j _ e (qA hj) he)
   .refine .inr (.inr ⟨b,r,q1,q2,q3,?_,q4.2⟩);rw[q4.1]at hl;obtain⟨y,hy⟩:=jJ.1 hl;have h1:=hfz 0 (.lp b r) y (by rw[q4.1];rfl) (by rw[hy];rfl);rw[hy];cases h1;rfl
  .intro id k1 b hk1 hm;have hid:id<H1.length:=(qB.1 hk1).1;obtain⟨k,hk,he,hv,hl,hc⟩:=hH.2 id k1 hk1;obtain⟨cur,q3,q4,q5,q6,q7,q8⟩:=hw.own id k b hk (by simp only[Ctx.cut]at hm;rw[tk hid]at hm;exact hm);refine⟨cur,by simp only[Ctx.cut];rw[tk hid];exact q3,q4,by rw[he];exact q5,Fz.cells hl hc q6,om,λj y u hy hu=> ?_⟩;have hj:j<k.cells.length:=by grind
   exact(hc j _ y (qA hj) hy).sound hw (q8 j _ u (qA hj) hu)
  .intro id b hb o;obtain⟨hid,hb⟩:=tk' hb;simp only[Ctx.cut,Ctx.given];rw[if_neg ?_]
   .exact hw.disj id b hb o
   .rw[qO];intro hmem;obtain⟨j,hj⟩:=jM.1 hmem;rw[List.getElem?_drop]at hj;have:=hw.inj _ _ _ hb hj;omega
  .intro i j b hi hj;exact hw.inj i j b (tk' hi).2 (tk' hj).2
theorem CLeN.less{n m:Nat}{C C':Ctx}(h:CLeN n C C')(hm:m<=n):CLeN m C C':=⟨h.B,h.M,h.top,h.mnew,h.unew,λid ver hid=>h.ids id ver om⟩
def zcy:List PV->Nat->Fr
 | [],_=>[]
 | x::r,i=>(i,x)::zcy r (i+1)
theorem zem:∀(xs:List PV) (i t:Nat),slot (zcy xs i) t=if i<=t then xs.getD (t - i) .undef else .undef
 | [],i,t=>by simp[zcy,slot]
 | x::r,i,t=>by
  show(match jL i t with|true=>x|false=>slot (zcy r (i+1)) t)=_;cases hb:jL i t with
  | true=>rw[Nat.eq_of_beq_eq_true hb];simp
  | false=>
   have hne:i≠t:=λh=>by simp_all
   simp only[zem r (i+1) t];grind
def zo(P:Program)(F:Nat->PV)(H:za):ResultVar->Option PV
 | .tmp t=>some (F t)
 | .cell t ty=>match F t with
  | .ptr id ver off=>zdF P H ty (.ptr id ver off)
  | _=>none
def zk(P:Program)(rs:List ResultVar)(F:Nat->PV)(H:za):Option PV:=
 match rs with
 | [r]=>zo P F H r
 | rs=>(rs.mapM (zo P F H)).map .tup
def zta(P:Program)(rs:List ResultVar)(R:PV->za->Prop):Exit->Fr->za->Prop
 | .ret,F,H=>∃ v,zk P rs (slot F) H=some v/\R v H
 | .normal,F,H=>∃ v,zk P rs (slot F) H=some v/\R v H
 | _,_,_=>False
def zqo(tmps:Array Value):ResultVar->Sem Value
 | .tmp t=>pure (tmps.getD t Go.undef)
 | .cell t ty=>do loadVar ty (<-asAddr (tmps.getD t Go.undef))
theorem zin{f:Nat->PV}{r:ResultVar}{v:PV}(hw:WRel C H w)(hf:FRel C N f a)(h:zo P f H r=some v):∃ u,VRel C v u/\(zqo a.tmps r).run P w= .ok u w:=by
 cases r with
 | tmp t=>simp only[zo,qF.injEq]at h;subst h;exact⟨_,hf.2 t,rfl⟩
 | cell t ty=>
  simp only[zo]at h;split at h
  .rename_i id ver off he;have hv:=hf.2 t;rw[he]at hv;have hlive:C.vs[id]? =some ver:=by
    simp only[zdF]at h;split at h
    .rename_i k hk;split at h
     .rename_i hver;rw[<-hver];exact hw.ver id k hk
     .cases h
    .cases h
   obtain⟨b,hb,hq⟩:=zbU hw hv hlive;obtain⟨u,hu,hr⟩:=zgm (P:=P) hw hv h;refine⟨u,hu,?_⟩;rw[hq]at hr;simpa[zqo,hq,Instr.loadAt,Instr.sureAddr,asAddr]using hr
  .cases h
theorem zlj{α β:Type}{f:α->Option β}:∀{xs:List α} {ys:List β},xs.mapM f=some ys->ys.length=xs.length
 | [],ys,h=>by simp_all
 | x::xs,ys,h=>by simp only[qV,jA,jE,qJ,qF.injEq]at h;obtain⟨y,hy,ys',hys,rfl⟩:=h;simp[zlj hys]
theorem zcr{f:Nat->PV}{fn:Func}{v:PV}(hw:WRel C H w)(hf:FRel C N f a)(h:zk P fn.results.toList f H=some v):∃ u,VRel C v u/\(results fn a.tmps).run P w= .ok u w:=by
 have lst:∀(rs:List ResultVar) (vs:List PV),rs.mapM (zo P f H)=some vs->∃ us,VRels C vs us/\(rs.mapM (zqo a.tmps)).run P w= .ok us w:=by
  intro rs;induction rs with
  | nil=>intro vs h;simp at h;subst h;exact⟨[],⟨rfl,λj x u hx=>by simp at hx⟩,by simp⟩
  | cons r rs ih=>
   intro vs h;simp only[qV,jA,jE,qJ,qF.injEq]at h;obtain⟨v,hv,vs',hvs,rfl⟩:=h;obtain⟨u,hu,hr⟩:=zin hw hf hv;obtain⟨us,hus,hrs⟩:=ih vs' hvs;refine⟨u::us,⟨by simp[hus.1],λj x u' hx hu'=> ?_⟩,?_⟩
   .cases j with
    | zero=>simp at hx hu';subst hx;subst hu';exact hu
    | succ j=>exact hus.2 j x u' (by simpa using hx) (by simpa using hu')
   simp_all
 have hres:∀ us,(fn.results.toList.mapM (zqo a.tmps)).run P w= .ok us w->(results fn a.tmps).run P w= .ok (if h:us.toArray.size=1 then us.toArray[0]else .tuple us.toArray) w:=λus hus=>by
  have e:results fn a.tmps=(do let vs<-fn.results.mapM (zqo a.tmps);pure (if h:vs.size=1 then vs[0]else .tuple vs)):=by rfl
  simp_all[Array.mapM_eq_mapM_toList]
 unfold zk at h;split at h
 .rename_i r hr;obtain⟨us,hus,hrun⟩:=lst [r] [v] (by simp[qV,h]);rw[hr]at hres;have:=hres us hrun
  match us,hus with
  | [u],hus=>exact⟨u,hus.2 0 v u rfl rfl,by simpa using this⟩
  | [],hus=>simp[VRels]at hus
  | _::_::_,hus=>simp[VRels]at hus
 .rename_i hne;simp only[qE]at h;obtain⟨vs,hvs,rfl⟩:=h;obtain⟨us,hus,hrun⟩:=lst _ vs hvs;have hl:=zlj hvs;have hsz:¬ us.toArray.size=1:=by
   intro h1;have h2:fn.results.toList.length=1:=by rw[<-hl,<-hus.1];simpa using h1
   obtain⟨r,hr⟩:=jJ.1 h2;simp_all
  refine⟨.tuple us.toArray,.tup hus.1 hus.2,?_⟩;simp_all
def zm1(H:za)(R:PV->za->Prop)(v':PV)(H':za):Prop:=R v' H'\/(∃ K d v,H'=H++K/\R v H/\frz H.length H' d v'=some v)\/(HSc H->∃ v Hout,R v Hout/\H.length<=Hout.length/\CutH H' Hout/\Fz Hout.length H' v' v)
theorem CallEx.intro{f:FuncId}{fn:Func}{c:Code}{args:List PV}{R:PV->za->Prop}(hf:P.funcs[f]? =some fn)(hb:fn.body=some c)(hcall:zaR P f=true)(hn:args.length<=fn.ntmps)
  (h:PW P ⟨fn.ntmps,H⟩ c (zcy args 0) H (zta P fn.results.toList (zm1 H R))):CallEx P f args H R:=by
 refine⟨hcall,λC us w hw hargs=>calls_of_wp hf hb ?_⟩;have hfr:FRel C fn.ntmps (slot (zcy args 0)) { tmps:=us.toArray++Array.replicate (fn.ntmps - us.toArray.size) Go.undef,defers:=[] }:=by
  refine⟨by simp[hargs.1];omega,λt=> ?_⟩;rw[zem];simp only[jG,if_true,Nat.sub_zero];by_cases ht:t<args.length
  .have htu:t<us.length:=by rw[hargs.1];exact ht
   have e1:args.getD t .undef=args[t]:=by simp_all
   have e2:(us.toArray++Array.replicate (fn.ntmps - us.toArray.size) Go.undef).getD t Go.undef=us[t]:=by simp_all[Array.getD_eq_getD_getElem?,Array.getElem?_append_left]
   rw[e1,e2];exact hargs.2 t _ _ (qA ht) (qA htu)
  .have e1:args.getD t .undef= .undef:=by simp_all
   rw[e1];exact .undef _
 refine wp_mono (h hw.hsc C _ w rfl hw hfr) ?_;rintro e a' w' ⟨C',F',H',q1,q2,q3,q4,q5,q6⟩;have q1':=q1.full hw.lenv;have fin:(∃ v',zk P fn.results.toList (slot F') H'=some v'/\zm1 H R v' H')->
   a'.defers=[]/\∃ u,(results fn a'.tmps).run P w'= .ok u w'/\∃ C'' u' v Hout,R v Hout/\CLe C C''/\WRel C'' Hout w'/\Below C.B w w'/\Ending.returned u= .returned u'/\VRel C'' v u':=by
  rintro⟨v',hv',hR⟩;obtain⟨u,hu,hr⟩:=zcr q3 q5 hv';refine⟨q2,u,hr,?_⟩;rcases hR with hR|⟨K,d,v,rfl,hR,hfz⟩|hR
  .exact⟨C',u,v',H',hR,q1',q3,q4,rfl,hu⟩
  .obtain⟨g1,g2⟩:=WRel.give hw q1' q3;exact⟨_,u,v,H,hR,g1,g2,q4,rfl,zen q3 _ d v' v u hu hfz⟩
  .obtain⟨v,Hout,hR,hlen,hcut,hfz⟩:=hR hw.hsc;obtain⟨g1,g2⟩:=q3.cutN hcut;exact⟨_,u,v,Hout,hR,(q1.trans (g1.less hlen)).full hw.lenv,g2,q4,rfl,hfz.sound q3 hu⟩
 cases e with
 | ret=>exact fin q6
 | normal=>exact fin q6
 | _=>exact q6.elim
def Fin(H:za)(v:PV)(Hout:za)(v':PV)(H':za):Prop:=(v'=v/\H'=Hout)\/(∃ K d,H'=H++K/\Hout=H/\frz H.length H' d v'=some v)\/(HSc H->H.length<=Hout.length/\CutH H' Hout/\Fz Hout.length H' v' v)
theorem CallOk.body{f:FuncId}{fn:Func}{c:Code}{rs:Array ResultVar}{F0:Fr}{args:List PV}{v:PV}{Hout:za}(hf:P.funcs[f]? =some fn)(hb:fn.body=some c)(hN:fn.ntmps=N)(hrs:fn.results=rs)(hF:zcy args 0=F0)
  (hcall:zaR P f=true) (hn:Nat.ble args.length N=true) (h:PW P ⟨N,H⟩ c F0 H (zta P rs.toList (Fin H v Hout))):CallOk P f args H v Hout:=by
 subst hN hrs hF;refine(CallEx.intro hf hb hcall (jN hn) (h.mono λe F' H' hq=> ?_)).one;have key:∀ v' H',Fin H v Hout v' H'->zm1 H (λv' H''=>v'=v/\H''=Hout) v' H':=λv' H' hf=>by
  rcases hf with hf|⟨K,d,h1,h2,h3⟩|hf
  .exact .inl hf
  .exact .inr (.inl ⟨K,d,v,h1,⟨rfl,h2.symm⟩,h3⟩)
  .exact .inr (.inr λhs=>⟨v,Hout,⟨rfl,rfl⟩,hf hs⟩)
 cases e with
 | ret=>obtain⟨v',h1,h2⟩:=hq;exact⟨v',h1,key v' H' h2⟩
 | normal=>obtain⟨v',h1,h2⟩:=hq;exact⟨v',h1,key v' H' h2⟩
 | _=>exact hq
theorem CallEx.body{f:FuncId}{fn:Func}{c:Code}{rs:Array ResultVar}{F0:Fr}{args:List PV}{R:PV->za->Prop}(hf:P.funcs[f]? =some fn)(hb:fn.body=some c)(hN:fn.ntmps=N)(hrs:fn.results=rs)(hF:zcy args 0=F0)
  (hcall:zaR P f=true) (hn:Nat.ble args.length N=true) (h:PW P ⟨N,H⟩ c F0 H (zta P rs.toList (zm1 H R))):CallEx P f args H R:=by
 subst hN hrs hF;exact CallEx.intro hf hb hcall (jN hn) h
section rules
variable {E:Env} {Q:Exit->Fr->za->Prop}
end rules
end Go.Proofs.YtdajpjenhcobkaaGreatDoor.Pm
namespace Go.Proofs.YtdajpjenhcobkaaGreatDoor.Pm
open Go.RowKit Go.ChangeShapes Go.WideShapes
inductive Shp(P:Program):TypeId->List PV->Prop where
 | bool {t:TypeId} (b:Bool) (ht:P.underlying t=some .bool):Shp P t [.bool b]
 | int {t:TypeId} {k:IntKind} {n:Int} (ht:P.underlying t=some (.int k)) (hw:(Lit.int k n).wf=true):Shp P t [.int k n]
 | str {t:TypeId} {s:List UInt8} (ht:P.underlying t=some .string) (hs:s.length<=maxLen):Shp P t [.str s]
 | slice {t e:TypeId} {pss:List (List PV)} (ht:P.underlying t=some (.slice e)) (hm:pss.length<=maxLen/\pss.length * P.bytesOf e<=reachBytes) (h:∀ ps∈pss,Shp P e ps):Shp P t [.slice pss.flatten pss.length false]
 | struct {t:TypeId} {fs:Array Field} {pss:List (List PV)} (ht:P.underlying t=some (.struct fs)) (hl:pss.length=fs.size) (h:∀(i:Nat) (f:Field) (ps:List PV),fs[i]? =some f->pss[i]? =some ps->Shp P f.type ps):Shp P t pss.flatten
 | array {t e:TypeId} {n:Nat} {pss:List (List PV)} (ht:P.underlying t=some (.array n e)) (hl:pss.length=n) (h:∀ ps∈pss,Shp P e ps):Shp P t pss.flatten
def zpR(P:Program):List Field->Nat->Option Nat
 | [],off=>some off
 | f::r,off=>if f.offset=off then zpR P r (off+P.cellsOf f.type)else none
def zcR(P:Program):Nat->TypeId->Bool
 | 0,_=>false
 | n+1,t=>match P.underlying t with
  | some .bool|some (.int _)|some .string=>true
  | some (.slice e)=>decide (0<P.cellsOf e)&&zcR P n e
  | some (.array m e)=>decide (P.cellsOf t=m * P.cellsOf e)&&zcR P n e
  | some (.struct fs)=>decide (zpR P fs.toList 0=some (P.cellsOf t))&&fs.toList.all λf=>zcR P n f.type
  | _=>false
def Ctx.start(W:World):Ctx:=⟨W.heap.size,λb o=>W.cell? ⟨b,o,none⟩,[],[],[],0⟩
theorem WRel.start(W:World)(hg:Glob (Ctx.start W).M):WRel (Ctx.start W) [] W:=⟨hg,qG _,jG _,λ_ _ _ h=>h,rfl,rfl,rfl,λid k h=>by simp at h,λid k h=>by simp at h,λid k b h=>by simp at h,λid b h=>by simp[Ctx.start]at h,λi j b h=>by simp[Ctx.start]at h,λi j b h=>by simp[Ctx.start]at h⟩
theorem VRels.nil'{C:Ctx}:VRels C [] []:=⟨rfl,λj x u h=>by simp at h⟩
theorem VRels.append{C:Ctx}{a b:List PV}{u v:List Value}(h:VRels C a u)(k:VRels C b v):VRels C (a++b) (u++v):=by
 refine⟨by simp[h.1,k.1],λj x w hx hw=> ?_⟩;rcases jK j a.length with hj|hj
 .rw[qD hj]at hx;rw[qD (by rw[h.1];exact hj)]at hw;exact h.2 j x w hx hw
 .rw[qW hj]at hx;rw[qW (by rw[h.1];exact hj),h.1]at hw;exact k.2 _ x w hx hw
def zu3(P:Program)(W:World)(t:TypeId)(cs:List Value)(ps:List PV):Prop:=Shp P t ps/\(∀ p∈ps,p.cell=true)/\VRels (Ctx.start W) ps cs
variable {H:Type} {enc:TypeId×Value->H} {P:Program} {W:World}
theorem zgp{ts:List TypeId}:∀(parts:List (List Value)),parts.length=ts.length->(∀(i:Nat) (t:TypeId) (cs:List Value),ts[i]? =some t->parts[i]? =some cs->∃ ps,zu3 P W t cs ps)->
  ∃ pss:List (List PV),pss.length=ts.length/\(∀(i:Nat) (t:TypeId) (ps:List PV),ts[i]? =some t->pss[i]? =some ps->Shp P t ps)/\(∀ p∈pss.flatten,p.cell=true)/\VRels (Ctx.start W) pss.flatten parts.flatten:=by
 induction ts with
 | nil=>
  intro parts hl _;have:parts=[]:=by cases parts<;>simp_all
  subst this;exact⟨[],rfl,λi t ps h=>by simp at h,λp hp=>by simp at hp,VRels.nil'⟩
 | cons t ts ih=>
  intro parts hl h;cases parts with
  | nil=>simp at hl
  | cons c parts=>
   obtain⟨ps,h1,h2,h3⟩:=h 0 t c rfl rfl;obtain⟨pss,g1,g2,g3,g4⟩:=ih parts (by simpa using hl) (λi t' cs' ht hc=>h (i+1) t' cs' (by simpa using ht) (by simpa using hc));refine⟨ps::pss,by simp[g1],?_,?_,?_⟩
   .intro i t' ps' ht hp;cases i with
    | zero=>simp at ht hp;subst ht hp;exact h1
    | succ i=>exact g2 i t' ps' (by simpa using ht) (by simpa using hp)
   .intro p hp;rw[qM,jH]at hp;exact hp.elim (h2 p) (g3 p)
   .rw[qM,qM];exact h3.append g4
theorem ziz:∀(fs:List Field) (off tot:Nat) (cs:List Value),zpR P fs off=some tot->cs.length=tot->cs.drop off=(fs.map λf=>(cs.drop f.offset).take (P.cellsOf f.type)).flatten
 | [],off,tot,cs,h,hl=>by
  simp[zpR]at h;subst h;simp[hl]
 | f::r,off,tot,cs,h,hl=>by
  simp only[zpR]at h;split at h
  .rename_i ho;have:=ziz r _ tot cs h hl;rw[List.map_cons,qM,<-this,ho,<-List.drop_drop,List.take_append_drop]
  .cases h
theorem zmU(sz:Nat):∀(n:Nat) (cs:List Value),cs.length=n * sz->cs=((qT n).map λi=>(cs.drop (i * sz)).take sz).flatten:=by
 intro n cs hl;have key:∀ m,m<=n->cs.take (m * sz)=((qT m).map λi=>(cs.drop (i * sz)).take sz).flatten:=by
  intro m;induction m with
  | zero=>intro _;simp
  | succ m ih=>intro hm;rw[List.range_succ,List.map_append,jC,<-ih om,Nat.succ_mul,List.take_add];simp
 rw[<-key n (qG _),<-hl,List.take_length]
def Wok(P:Program)(t:TypeId)(d:DataW H):Prop:=(d.weights P t).all (· <=reachBytes)=true
theorem zi8{e:TypeId}{d:DataW H}:∀{l:List (DataW H)},(DataW.weightsAll P e l).all (· <=reachBytes)=true->d∈l->Wok P e d
 | a::l,h,hd=>by
  rw[DataW.weightsAll,qZ,qH]at h;rcases qX.1 hd with rfl|hd
  .exact h.1
  .exact zi8 h.2 hd
theorem zko:∀{ts:List TypeId} {ds:List (DataW H)} {i:Nat} {t:TypeId} {d:DataW H},(DataW.weightsEach P ts ds).all (· <=reachBytes)=true->ts[i]? =some t->ds[i]? =some d->Wok P t d
 | t::ts,d::ds,i,u,v,h,ht,hd=>by
  rw[DataW.weightsEach,qZ,qH]at h;cases i with
  | zero=>simp at ht hd;subst ht hd;exact h.1
  | succ i=>exact zko h.2 (by simpa using ht) (by simpa using hd)
 | [],_,i,u,v,h,ht,hd=>by simp at ht
 | _::_,[],i,u,v,h,ht,hd=>by simp at hd
theorem zpz:∀(fuel n:Nat) (t:TypeId) (cs:List Value) (x:DataW H×List MemPlace),zcR P n t=true->Wok P t x.1->DataW.trod enc P W 0 (λ_=>true) true fuel t cs=some x->∃ ps,zu3 P W t cs ps:=by
 intro fuel;induction fuel with
 | zero=>intro n t cs x _ _ h;simp[DataW.trod]at h
 | succ fuel ih=>
  intro n t cs x hp hq h;cases n with
  | zero=>simp[zcR]at hp
  | succ n=>
   unfold zcR at hp;split at hp
   .rename_i ht;obtain⟨b,rfl,_⟩:=DataW.trod_bool ht h;exact⟨[.bool b],.bool b ht,λp hp=>by simp at hp;subst hp;rfl,VRels.append (a:=[.bool b]) (u:=[.bool b]) ⟨rfl,λj x u hx hu=>by cases j<;>simp at hx hu;subst hx hu;exact .bool b⟩ VRels.nil'⟩
   .rename_i k ht;obtain⟨m,rfl,_,hw⟩:=DataW.trod_int ht h;exact⟨[.int k m],.int ht hw,λp hp=>by simp at hp;subst hp;rfl,⟨rfl,λj x u hx hu=>by cases j<;>simp at hx hu;subst hx hu;exact .int k m⟩⟩
   .rename_i ht;obtain⟨s,rfl,_,hw⟩:=DataW.trod_string ht h;exact⟨[.str s.data.toList],.str ht (by rw[jB];exact hw),λp hp=>by simp at hp;subst hp;rfl,⟨rfl,λj x u hx hu=>by cases j<;>simp at hx hu;subst hx hu;exact .str s⟩⟩
   .rename_i e ht;simp only[qH,decide_eq_true_eq]at hp;rcases DataW.trod_slice ht h with⟨rfl,_⟩|⟨a,len,cap,elems,rest,m,hfm,rfl,rfl,hb,hlc,hm,hlen,hel,hsp,_⟩
    .refine⟨[.slice [] 0 false],Shp.slice (pss:=[]) ht ⟨jG _,by simp⟩ (λps hp=>by simp at hp),λp hp=>by simp at hp;subst hp;rfl,⟨rfl,λj x u hx hu=> ?_⟩⟩;cases j<;>simp at hx hu;subst hx hu;exact .sliceN _ _
    .injection hfm with hfm;subst hfm;simp only[Wok,DataW.weights,ht,List.all_cons,qZ,qH,decide_eq_true_eq,List.length_map]at hq;obtain⟨hq1,hq2,_⟩:=hq;have hcell:∀ i,i<cap->∃ cs' y,W.cells? 0 (a.add (i * P.cellsOf e)) (P.cellsOf e)=some cs'/\DataW.trod enc P W 0 (λ_=>true) true fuel e cs'=some y:=by
      intro i hi;obtain⟨hrl,hrest⟩:=hsp rfl;have:∃ y,(W.cells? 0 (a.add (i * P.cellsOf e)) (P.cellsOf e)).bind (DataW.trod enc P W 0 (λ_=>true) true fuel e)=some y:=by
       rcases jK i len with hil|hil
       .exact⟨elems[i]'om,by rw[hel i hil];exact qA om⟩
       .have:=hrest (i - len) om;rw[show len+(i - len)=i from om]at this;exact⟨rest[i - len]'om,by rw[this];exact qA om⟩
      obtain⟨y,hy⟩:=this;obtain⟨cs',h1,h2⟩:=qJ.1 hy;exact⟨cs',y,h1,h2⟩
     rcases jD cap with h0|h0
     .subst h0;obtain rfl:len=0:=om;refine⟨[.slice [] 0 false],Shp.slice (pss:=[]) ht ⟨jG _,by simp⟩ (λps hp=>by simp at hp),λp hp=>by simp at hp;subst hp;rfl,⟨rfl,λj x u hx hu=> ?_⟩⟩;cases j<;>simp at hx hu;subst hx hu;exact .sliceN _ _
     .have hspot:a=⟨a.block,a.off,none⟩:=by
       obtain⟨cs',y,h1,_⟩:=hcell 0 h0;have h2:=(World.cells?_some h1).2;have h3:=h2.2 0 hp.1;rw[Nat.zero_mul]at h3;have h4:a.add 0=a:=by simp[Addr.add]
       rw[h4,h4,qA om]at h3;have:a.spot=none:=by
        unfold World.cell? at h3;split at h3
        .split at h3
         .cases h3
         .rename_i hs;simpa using hs
        .cases h3
       cases a;simp at this;subst this;rfl
      have key:∀ m,m<=len->∃(pss:List (List PV)) (us:List Value),pss.length=m/\us.length=m * P.cellsOf e/\(∀ ps∈pss,Shp P e ps)/\(∀ p∈pss.flatten,p.cell=true)/\VRels (Ctx.start W) pss.flatten us/\
        ∀(j:Nat) (u:Value),us[j]? =some u->W.cell? ⟨a.block,a.off+j,none⟩=some u:=by
       intro m;induction m with
       | zero=>intro _;exact⟨[],[],rfl,by simp,λps hp=>by simp at hp,λp hp=>by simp at hp,VRels.nil',λj u hu=>by simp at hu⟩
       | succ m ihm=>
        intro hm';obtain⟨pss,us,g1,g2,g3,g4,g5,g6⟩:=ihm om;obtain⟨cs',h1,h2⟩:=qJ.1 ((hel m om).trans (qA om));obtain⟨ps,k1,k2,k3⟩:=ih n e cs' _ hp.2 (zi8 hq2 (jQ (jF om))) h2;obtain⟨_,hcl,hcc⟩:=World.cells?_some h1;refine⟨pss++[ps],us++cs',by simp[g1],by simp[g2,hcl,Nat.succ_mul],?_,?_,?_,?_⟩
        .intro q hq;rcases jH.1 hq with hq|hq
         .exact g3 q hq
         .simp at hq;subst hq;exact k1
        .intro p hq;simp only[jC,qM,List.flatten_nil,qS,jH]at hq;exact hq.elim (g4 p) (k2 p)
        .simp only[jC,qM,List.flatten_nil,qS];exact g5.append k3
        .intro j u hu;rcases jK j us.length with hj|hj
         .rw[qD hj]at hu;exact g6 j u hu
         .rw[qW hj]at hu;have hlt:=(qB.1 hu).1;have:=hcc (j - us.length) om;rw[hu,hspot,Addr.add_lit,Addr.add_lit]at this;rw[<-this];congr 2;omega
      obtain⟨pss,us,g1,g2,g3,g4,g5,g6⟩:=key len (qG _);refine⟨[.slice pss.flatten pss.length false],Shp.slice ht ⟨om,Nat.le_trans (Nat.mul_le_mul_right _ om) hq1⟩ g3,λp hp=>by simp at hp;subst hp;rfl,⟨rfl,λj x u hx hu=> ?_⟩⟩;cases j<;>simp at hx hu;subst hx hu;rw[hspot,<-g1];exact .slice (us:=us) g5.1 g6 g4 g5.2 om hm (λhf=>by cases hf)
   .rename_i m e ht;simp only[qH,decide_eq_true_eq]at hp;obtain⟨xs,m',hfm,rfl,hl,hxl,hx⟩:=DataW.trod_array ht h;injection hfm with hfm;subst hfm;simp only[Wok,DataW.weights,ht]at hq;obtain⟨pss,g1,g2,g3,g4⟩:=zgp (P:=P) (W:=W) (ts:=List.replicate m e) ((qT m).map λi=>(cs.drop (i * P.cellsOf e)).take (P.cellsOf e)) sp (by
     intro i t' cs' ht' hc';have hi:i<m:=by have:=(qB.1 ht').1;simpa using this
     simp[hi]at ht' hc';subst ht' hc';have:=hx i hi;rw[qA om]at this;exact ih n e _ _ hp.2 (zi8 hq (jQ (jF om))) this)
    rw[<-zmU (P.cellsOf e) m cs (by rw[hl,hp.1])]at g4;refine⟨pss.flatten,.array ht (by simpa using g1) (λps hps=> ?_),g3,g4⟩;obtain⟨i,hi⟩:=List.getElem?_of_mem hps;have hi':=(qB.1 hi).1;have hi2:i<m:=by simp at g1;omega
    exact g2 i e ps (by simp[hi2]) hi
   .rename_i fs ht;simp only[qH,decide_eq_true_eq,qY]at hp;obtain⟨xs,m',hfm,rfl,hl,hxl,hx⟩:=DataW.trod_struct ht h;injection hfm with hfm;subst hfm;simp only[Wok,DataW.weights,ht]at hq;obtain⟨pss,g1,g2,g3,g4⟩:=zgp (P:=P) (W:=W) (ts:=fs.toList.map (·.type)) (fs.toList.map λf=>(cs.drop f.offset).take (P.cellsOf f.type)) sp (by
     intro i t' cs' ht' hc';simp only[qL,qE]at ht' hc';obtain⟨f,hf,rfl⟩:=ht';obtain⟨f',hf',rfl⟩:=hc';rw[hf]at hf';injection hf' with hf';subst hf';have hi:=(qB.1 hf).1;have:=hx i f (by simpa using hf);rw[qA (by simp at hi;omega)]at this;exact ih n f.type _ _ (hp.2 f (qI hf)) (zko (i:=i) hq (by rw[qL,hf];rfl) (by rw[qL,qA];rfl)) this)
    rw[<-ziz fs.toList 0 _ cs hp.1 hl,List.drop_zero]at g4;refine⟨pss.flatten,.struct ht (by simpa using g1) (λi f ps hf hps=>g2 i f.type ps (by simp;exact⟨f,by simpa using hf,rfl⟩) hps),g3,g4⟩
   .cases hp
def ArgShp(P:Program)(t:TypeId)(x:PV):Prop:=∃ ps,Shp P t ps/\((zcF P t=true/\x= .agg ps)\/(zcF P t=false/\ps=[x]))
def ArgsShp(P:Program):List TypeId->List PV->Prop
 | [],[]=>True
 | t::ts,x::xs=>ArgShp P t x/\ArgsShp P ts xs
 | _,_=>False
theorem zuf{t:TypeId}{v:Value}{d:DataW H}{p:List MemPlace}{r:Reach}{b0 n:Nat}(hn:zcR P n t=true)(hw:Wok P t d)(hv:Value.okWide P W r b0 t v)(h:DataW.Trod enc P W 0 (λ_=>true) true t v d p):
  ∃ x,ArgShp P t x/\VRel (Ctx.start W) x v:=by
 obtain⟨fuel,hf⟩:=h;obtain⟨ps,h1,h2,h3⟩:=zpz fuel n t _ _ hn hw hf;have one:zcF P t=false->(∀ cs,v≠.agg cs)->∃ x,ArgShp P t x/\VRel (Ctx.start W) x v:=by
  intro ha hna;have hc:v.cells.toList=[v]:=by cases v<;>first|rfl|exact absurd rfl (hna _)
  rw[hc]at h3
  match ps,h3.1 with
  | [x],_=>exact⟨x,⟨[x],h1,.inr ⟨ha,rfl⟩⟩,h3.2 0 x v rfl rfl⟩
 have many:zcF P t=true->(∃ cs,v= .agg cs)->∃ x,ArgShp P t x/\VRel (Ctx.start W) x v:=by rintro ha ⟨cs,rfl⟩;refine⟨.agg ps,⟨ps,h1,.inl ⟨ha,rfl⟩⟩,?_⟩;have:=VRel.agg (C:=Ctx.start W) (cs:=ps) (us:=cs.toList) h3.1 h2 h3.2;simpa using this
 unfold zcR at hn;split at hn
 .cases hn
 split at hn
 .rename_i ht;exact one (by simp[zcF,ht]) (λcs e=>by subst e;simp[Value.okWide,ht,Cell.okWide,Cell.ok]at hv)
 .rename_i ht;exact one (by simp[zcF,ht]) (λcs e=>by subst e;simp[Value.okWide,ht,Cell.okWide,Cell.ok]at hv)
 .rename_i ht;exact one (by simp[zcF,ht]) (λcs e=>by subst e;simp[Value.okWide,ht,Cell.okWide,Cell.ok]at hv)
 .rename_i ht;exact one (by simp[zcF,ht]) (λcs e=>by subst e;simp[Value.okWide,ht,Cell.okWide,Cell.ok]at hv)
 .rename_i ht;exact many (by simp[zcF,ht]) (by simp only[Value.okWide,ht]at hv;obtain⟨cs,h,_⟩:=hv;exact⟨cs,h⟩)
 .rename_i ht;exact many (by simp[zcF,ht]) (by simp only[Value.okWide,ht]at hv;obtain⟨cs,h,_⟩:=hv;exact⟨cs,h⟩)
 .cases hn
theorem zlI{r:Reach}{b0 n:Nat}{X:List TypeId}:∀{ts:List TypeId} {vs:List Value} {ds:List (DataW H)} {p:List MemPlace},(∀ t∈ts,zcR P n t=true)->(DataW.weightsEach P (ts++X) ds).all (· <=reachBytes)=true->(∀(j:Nat) t v,ts[j]? =some t->vs[j]? =some v->Value.okWide P W r b0 t v)->
  DataW.TrodAll enc P W 0 (λ_=>true) true ts vs ds p->∃ xs,ArgsShp P ts xs/\VRels (Ctx.start W) xs vs
 | [],[],[],p,_,_,_,_=>⟨[],trivial,VRels.nil'⟩
 | t::ts,v::vs,d::ds,p,hn,hw,hv,h=>by
  obtain⟨p1,q1,h1,h2,_⟩:=h;rw[List.cons_append,DataW.weightsEach,qZ,qH]at hw;obtain⟨x,a1,a2⟩:=zuf (hn t (qU ..)) hw.1 (hv 0 t v rfl rfl) h1;obtain⟨xs,b1,b2⟩:=zlI (λt' ht=>hn t' (qQ _ ht)) hw.2 (λj t' v' ht hv'=>hv (j+1) t' v' (by simpa using ht) (by simpa using hv')) h2;exact⟨x::xs,⟨a1,b1⟩,VRels.append (a:=[x]) (u:=[v]) ⟨rfl,λj x' u hx hu=>by cases j<;>simp at hx hu;subst hx hu;exact a2⟩ b2⟩
 | [],[],_::_,_,_,_,_,h=>h.elim
 | [],_::_,_,_,_,_,_,h=>h.elim
 | _::_,[],_,_,_,_,_,h=>h.elim
 | _::_,_::_,[],_,_,_,_,h=>h.elim
theorem ziY{W':World}(hl:laidOutB P=true)(hb:Below W.heap.size W W'):∀{ts:List TypeId} {vs:List Value} {ds:List (DataW H)} {p:List MemPlace},(∀ t∈ts,P.readableRec t=true/\t<P.types.size)->
  DataW.TrodAll enc P W 0 (λ_=>true) true ts vs ds p->DataW.TrodAll enc P W' 0 (λb=>decide (b<W.heap.size)) true ts vs ds p
 | [],[],[],p,_,h=>h
 | t::ts,v::vs,d::ds,p,hr,h=>by
  obtain⟨p1,q1,h1,h2,h3⟩:=h;obtain⟨r1,r2⟩:=hr t (qU ..);refine⟨p1,q1,Below.trod hl r1 r2 h1 hb ?_,ziY hl hb (λt' ht=>hr t' (qQ _ ht)) h2,h3⟩;obtain⟨m,hm⟩:=h1;exact DataW.trod_lt m _ _ _ hm
 | [],[],_::_,_,_,h=>h.elim
 | [],_::_,_,_,_,h=>h.elim
 | _::_,[],_,_,_,h=>h.elim
 | _::_,_::_,[],_,_,h=>h.elim
theorem zrx{f:FuncId}{fn:Func}{s:ChangeSpec}{apart fresh handsOn:Bool}{r:Reach}{b0 n:Nat}{args:Array Value}{ds gs:List (DataW H)}{before:List MemPlace}{tb:TypeId}{X:List TypeId}
  (hsz:(DataW.weightsEach P (fn.params.toList++X) (ds++gs)).all (· <=reachBytes)=true) (hg:Glob (Ctx.start W).M) (hlaw:∀ xs,ArgsShp P fn.params.toList xs->CallOk P f xs [] (.bool true) [])
  (hl:laidOutB P=true) (hplain:fn.params.toList.all (zcR P n)=true) (hread:fn.params.toList.all (λt=>P.readableRec t&&decide (t<P.types.size))=true)
  (hres:fn.resultTypes= #[tb]) (htb:P.underlying tb=some .bool) (hvars:s.vars=[])
  (hfn:∀ ds:List (DataW H),ds.length=fn.params.size->s.fn H ds={ results:=[.lit (.bool true)],args:=ds })
  (hval:∀(j:Nat) t v,fn.params[j]? =some t->args[j]? =some v->Value.okWide P W r b0 t v)
  (hW:DataW.Whole enc P fn.params.toList s.vars apart W args.toList ds gs before):
  Calls P f args W λe W'=>∃ v,e= .returned v/\s.post enc P fn apart fresh handsOn false W args v W':=by
 have hW':=hW;obtain⟨p,q,hA,hV,hpq,hfz,hnd⟩:=hW;rw[hvars]at hV;obtain⟨rfl,rfl⟩:=trodVars_none hV;obtain⟨xs,x1,x2⟩:=zlI (n:=n) (X:=X) (qY.1 hplain) (by simpa using hsz) (λj t v ht hv=>hval j t v (by simpa using ht) (by simpa using hv)) hA;have hlen:ds.length=fn.params.size:=by
  have:∀{ts:List TypeId} {vs:List Value} {ds:List (DataW H)} {p:List MemPlace},DataW.TrodAll enc P W 0 (λ_=>true) true ts vs ds p->ds.length=ts.length:=by
   intro ts;induction ts with
   | nil=>intro vs ds p h;cases vs<;>cases ds<;>first|rfl|exact h.elim
   | cons t ts ih=>
    intro vs ds p h;cases vs with
    | nil=>exact h.elim
    | cons v vs=>
     cases ds with
     | nil=>exact h.elim
     | cons d ds=>obtain⟨_,_,_,h2,_⟩:=h;simp[ih h2]
  simpa using this hA
 have hc:=(hlaw xs x1).2 (Ctx.start W) args.toList W (WRel.start W hg) x2;have hc:Calls P f args W λe w'=>∃ C' u,CLe (Ctx.start W) C'/\WRel C' [] w'/\Below (Ctx.start W).B W w'/\e= .returned u/\VRel C' (.bool true) u:=by simpa using hc
 refine hc.mono λe W' ⟨C',u,_,_,bel,he,hu⟩=> ?_;cases hu;refine⟨_,he,ds,[],before,[],p,[],hW',?_,?_,?_,bel.frame _,λh=>by cases h⟩
 .rw[qS,hfn ds hlen,hres];exact trodAll_mk1 (shut_bool htb _)
 .rw[qS,hfn ds hlen];exact ziY hl bel (λt ht=>by have:=qY.1 hread t ht;simpa using this) hA
 .rw[qS,hfn ds hlen,hvars];rfl
theorem Shp.of_bool{t:TypeId}{ps:List PV}(ht:P.underlying t=some .bool)(h:Shp P t ps):∃ b,ps=[.bool b]:=by cases h<;>simp_all
theorem Shp.of_int{t:TypeId}{k:IntKind}{ps:List PV}(ht:P.underlying t=some (.int k))(h:Shp P t ps):∃ n,ps=[.int k n]/\(Lit.int k n).wf=true:=by
 cases h with
 | int ht' hw=>rw[ht]at ht';cases ht';exact⟨_,rfl,hw⟩
 | _=>simp_all
theorem Shp.of_slice{t e:TypeId}{ps:List PV}(ht:P.underlying t=some (.slice e))(h:Shp P t ps):∃ pss:List (List PV),ps=[.slice pss.flatten pss.length false]/\pss.length<=maxLen/\∀ q∈pss,Shp P e q:=by
 cases h with
 | slice ht' hm h=>rw[ht]at ht';cases ht';exact⟨_,rfl,hm.1,h⟩
 | _=>simp_all
theorem Shp.fit{t e:TypeId}{qs:List PV}{n:Nat}{f:Bool}(ht:P.underlying t=some (.slice e))(h:Shp P t [.slice qs n f]):n * P.bytesOf e<=reachBytes:=by
 generalize hp:[PV.slice qs n f]=ps at h;cases h with
 | slice ht' hm h=>rw[ht]at ht';cases ht';cases hp;exact hm.2
 | _=>simp_all
theorem Shp.of_struct{t:TypeId}{fs:Array Field}{ps:List PV}(ht:P.underlying t=some (.struct fs))(h:Shp P t ps):
  ∃ pss:List (List PV),ps=pss.flatten/\pss.length=fs.size/\∀(i:Nat) (f:Field) (ps:List PV),fs[i]? =some f->pss[i]? =some ps->Shp P f.type ps:=by
 cases h with
 | struct ht' hl h=>rw[ht]at ht';cases ht';exact⟨_,rfl,hl,h⟩
 | _=>simp_all
theorem Shp.of_array{t e:TypeId}{n:Nat}{ps:List PV}(ht:P.underlying t=some (.array n e))(h:Shp P t ps):∃ pss:List (List PV),ps=pss.flatten/\pss.length=n/\∀ q∈pss,Shp P e q:=by
 cases h with
 | array ht' hl h=>rw[ht]at ht';cases ht';exact⟨_,rfl,hl,h⟩
 | _=>simp_all
theorem Shp.of_ints{t e:TypeId}{k:IntKind}{ps:List PV}(ht:P.underlying t=some (.slice e))(he:P.underlying e=some (.int k))(h:Shp P t ps):
  ∃ zs:List Int,ps=[.slice (zs.map (.int k)) zs.length false]/\zs.length<=maxLen/\∀ z∈zs,(Lit.int k z).wf=true:=by
 obtain⟨pss,rfl,hm,h⟩:=h.of_slice ht;have:∀ pss:List (List PV),(∀ q∈pss,Shp P e q)->∃ zs:List Int,pss.flatten=zs.map (.int k)/\zs.length=pss.length/\∀ z∈zs,(Lit.int k z).wf=true:=by
  intro pss;induction pss with
  | nil=>intro _;exact⟨[],rfl,rfl,λz hz=>by simp at hz⟩
  | cons a r ih=>intro h;obtain⟨n,rfl,hw⟩:=(h a (qU ..)).of_int he;obtain⟨zs,h1,h2,h3⟩:=ih (λq hq=>h q (qQ _ hq));exact⟨n::zs,by simp[h1],by simp[h2],λz hz=>by rcases qX.1 hz with rfl|hz;exact hw;exact h3 z hz⟩
 obtain⟨zs,h1,h2,h3⟩:=this pss h;exact⟨zs,by rw[h1,h2],om,h3⟩
theorem Shp.of_list{α:Type}{t e:TypeId}{ps:List PV}{enc:α->List PV}{good:α->Prop}(ht:P.underlying t=some (.slice e))(he:∀ q,Shp P e q->∃ x,q=enc x/\good x)(h:Shp P t ps):
  ∃ xs:List α,ps=[.slice (xs.flatMap enc) xs.length false]/\xs.length<=maxLen/\∀ x∈xs,good x:=by
 obtain⟨pss,rfl,hm,hq⟩:=h.of_slice ht;have key:∀ pss:List (List PV),(∀ q∈pss,Shp P e q)->∃ xs:List α,pss=xs.map enc/\∀ x∈xs,good x:=by
  intro pss;induction pss with
  | nil=>intro _;exact⟨[],rfl,λx hx=>by cases hx⟩
  | cons q r ih=>intro hq;obtain⟨x,hx,hg⟩:=he q (hq q sp);obtain⟨xs,hxs,hgs⟩:=ih λy hy=>hq y (by simp[hy]);exact⟨x::xs,by simp[hx,hxs],λy hy=>by rcases qX.1 hy with rfl|hy;exact hg;exact hgs y hy⟩
 obtain⟨xs,rfl,hg⟩:=key pss hq;refine⟨xs,by rw[List.length_map,List.flatMap_def],by simpa using hm,hg⟩
def FieldsShp(P:Program):List Field->List (List PV)->Prop
 | [],[]=>True
 | f::r,a::b=>Shp P f.type a/\FieldsShp P r b
 | _,_=>False
theorem FieldsShp.of:∀(fs:List Field) (pss:List (List PV)),pss.length=fs.length->(∀(i:Nat) (f:Field) (ps:List PV),fs[i]? =some f->pss[i]? =some ps->Shp P f.type ps)->FieldsShp P fs pss
 | [],[],_,_=>trivial
 | f::r,a::b,hl,h=>⟨h 0 f a rfl rfl,FieldsShp.of r b (by simpa using hl) λi f ps hf hp=>h (i+1) f ps (by simpa using hf) (by simpa using hp)⟩
 | [],_::_,hl,_=>by simp at hl
 | _::_,[],hl,_=>by simp at hl
theorem Shp.fields{t:TypeId}{fs:Array Field}{ps:List PV}(ht:P.underlying t=some (.struct fs))(h:Shp P t ps):∃ pss:List (List PV),ps=pss.flatten/\FieldsShp P fs.toList pss:=by obtain⟨pss,h1,h2,h3⟩:=h.of_struct ht;exact⟨pss,h1,FieldsShp.of _ _ (by simpa using h2) λi f ps hf hp=>h3 i f ps (by simpa using hf) hp⟩
theorem Shp.arr_ints{t e n:Nat}{k:IntKind}{ps:List PV}(ht:P.underlying t=some (.array n e))(he:P.underlying e=some (.int k))(h:Shp P t ps):∃ zs:List Int,ps=zs.map (.int k)/\zs.length=n/\∀ z∈zs,(Lit.int k z).wf=true:=by
 obtain⟨pss,rfl,hm,h⟩:=h.of_array ht;have:∀ pss:List (List PV),(∀ q∈pss,Shp P e q)->∃ zs:List Int,pss.flatten=zs.map (.int k)/\zs.length=pss.length/\∀ z∈zs,(Lit.int k z).wf=true:=by
  intro pss;induction pss with
  | nil=>intro _;exact⟨[],rfl,rfl,λz hz=>by simp at hz⟩
  | cons a r ih=>intro h;obtain⟨n,rfl,hw⟩:=(h a (qU ..)).of_int he;obtain⟨zs,h1,h2,h3⟩:=ih (λq hq=>h q (qQ _ hq));exact⟨n::zs,by simp[h1],by simp[h2],λz hz=>by rcases qX.1 hz with rfl|hz;exact hw;exact h3 z hz⟩
 obtain⟨zs,h1,h2,h3⟩:=this pss h;exact⟨zs,h1,om,h3⟩
theorem ArgShp.agg{t:TypeId}{x:PV}(h:ArgShp P t x)(ha:zcF P t=some true):∃ ps,Shp P t ps/\x= .agg ps:=by
 obtain⟨ps,hp,⟨_,rfl⟩|⟨hf,_⟩⟩:=h
 .exact⟨ps,hp,rfl⟩
 .rw[ha]at hf;cases hf
theorem ArgShp.one{t:TypeId}{x:PV}(h:ArgShp P t x)(ha:zcF P t=some false):Shp P t [x]:=by
 obtain⟨ps,hp,⟨hf,_⟩|⟨_,rfl⟩⟩:=h
 .rw[ha]at hf;cases hf
 .exact hp
theorem ArgsShp.cons{t:TypeId}{ts:List TypeId}{xs:List PV}(h:ArgsShp P (t::ts) xs):∃ x r,xs=x::r/\ArgShp P t x/\ArgsShp P ts r:=by
 match xs,h with
 | x::r,h=>exact⟨x,r,rfl,h.1,h.2⟩
theorem ArgsShp.nil{xs:List PV}(h:ArgsShp P [] xs):xs=[]:=by
 match xs,h with
 | [],_=>rfl
end Go.Proofs.YtdajpjenhcobkaaGreatDoor.Pm
namespace Go.Proofs.YtdajpjenhcobkaaGreatDoor.Pm
open Go.RowKit
variable {P:Program} {C:Ctx} {H:za} {w:World} {F:Fr} {a:Act} {N:Nat}
def zam(ds:List (Option Nat))(F:Fr)(o:Oper):Option Bool:=
 match o.guard with
 | none=>some true
 | some (j,b)=>match ds[j]? with
  | some (some d)=>match slot F d with
   | .bool x=>some (x==b)
   | .tup []=>some false
   | _=>none
  | _=>none
theorem zw(all:List Oper)(F:Fr)(o:Oper){b:Bool}(h:zam (all.map (·.dst)) F o=some b):zby all (slot F) o=some b:=by unfold zam at h;unfold zby;grind
def stp(P:Program)(ds:List (Option Nat))(o:Oper)(F:Fr)(H:za):Option (Fr×za):=
 match zam ds F o with
 | some true=>match pop P o.op (slot F) H with
  | some (v,H')=>some (put F o.dst v,H')
  | none=>none
 | some false=>some (put F o.dst (.tup []),H)
 | none=>none
def zJ:Op->Bool
 | .call { callee:=.value _,.. }=>true
 | _=>false
def VC(P:Program)(ds:List (Option Nat))(o:Oper)(F:Fr)(H:za)(K:Fr->za->Prop):Prop:=
 match zam ds F o with
 | some true=>match zn o.op (slot F)with
  | some (g,args)=>∃ R,CallEx P g args H R/\∀ v H',R v H'->K (put F o.dst v) H'
  | none=>False
 | some false=>K (put F o.dst (.tup [])) H
 | none=>False
def VO(P:Program)(ds:List (Option Nat)):List Oper->Option (Fr×za)->(Fr->za->Prop)->Prop
 | _,none,_=>False
 | [],some (F,H),K=>K F H
 | o::r,some (F,H),K=>match zJ o.op with
  | false=>VO P ds r (stp P ds o F H) K
  | true=>VC P ds o F H λF' H'=>VO P ds r (some (F',H')) K
def VR(P:Program)(ds:List (Option Nat))(r:List Oper)(K:Fr->za->Prop)(F:Fr)(H:za):Prop:=VO P ds r (some (F,H)) K
theorem zwM(ds:List (Option Nat))(K:Fr->za->Prop)(F:Fr)(H:za):VO P ds [] (some (F,H)) K=K F H:=rfl
theorem zkk(ds:List (Option Nat))(l:List Oper)(K:Fr->za->Prop):VO P ds l none K=False:=by cases l<;>rfl
theorem zog{ds:List (Option Nat)}{o:Oper}{r:List Oper}{K:Fr->za->Prop}{F:Fr}{H:za}(h:zJ o.op=false):VO P ds (o::r) (some (F,H)) K=VO P ds r (stp P ds o F H) K:=by simp only[VO,h]
theorem zfA{ds:List (Option Nat)}{o:Oper}{r:List Oper}{K:Fr->za->Prop}{F:Fr}{H:za}(h:zJ o.op=true):VO P ds (o::r) (some (F,H)) K=VC P ds o F H (VR P ds r K):=by simp only[VO,h];rfl
theorem zun(ds:List (Option Nat))(o:Oper)(r:List Oper)(K:Fr->za->Prop)(F:Fr)(H:za):
  VO P ds (o::r) (some (F,H)) K=match zJ o.op with|false=>VO P ds r (stp P ds o F H) K|true=>VC P ds o F H (VR P ds r K):=by
 cases h:zJ o.op with
 | false=>exact zog h
 | true=>exact zfA h
theorem VC.call{ds:List (Option Nat)}{o:Oper}{K:Fr->za->Prop}{g:FuncId}{args:List PV}{v:PV}{H':za}(h:CallOk P g args H v H')(hw:zam ds F o=some true)(hc:zn o.op (slot F)=some (g,args))
  (hk:K (put F o.dst v) H'):VC P ds o F H K:=by
 unfold VC;rw[hw];simp only[hc];exact⟨_,h.toEx,λv' H'' e=>by rw[e.1,e.2];exact hk⟩
theorem VC.callR{ds:List (Option Nat)}{o:Oper}{K:Fr->za->Prop}{g:FuncId}{args:List PV}{R:PV->za->Prop}(h:CallEx P g args H R)(hw:zam ds F o=some true)(hc:zn o.op (slot F)=some (g,args))
  (hk:∀ v H',R v H'->K (put F o.dst v) H'):VC P ds o F H K:=by
 unfold VC;rw[hw];simp only[hc];exact⟨R,h,hk⟩
theorem zaS{all:List Oper}{K:Fr->za->Prop}:∀(l:List Oper) (F:Fr) (H:za),VO P (all.map (·.dst)) l (some (F,H)) K->zco P all l K F H
 | [],F,H,h=>h
 | o::r,F,H,h=>by
  have hcl:zJ o.op=false->zn o.op (slot F)=none:=λhc=>by unfold zn;grind[zJ]
  cases hc:zJ o.op with
  | false=>
   rw[zog hc]at h;unfold stp at h;split at h
   .rename_i hb;simp only[zco,zw all F o hb,true_implies,reduceCtorEq,false_implies,and_true,hcl hc];split at h
    .rename_i v H' hp;simp only[hp];exact zaS r _ _ h
    simp_all[zkk]
   .rename_i hb;simp only[zco,zw all F o hb,true_implies,reduceCtorEq,false_implies,true_and];exact zaS r _ _ h
   .rw[zkk]at h;exact h.elim
  | true=>
   rw[zfA hc]at h;unfold VC at h;split at h
   .rename_i hb;simp only[zco,zw all F o hb,true_implies,reduceCtorEq,false_implies,and_true];split at h
    .rename_i g args hp;obtain⟨R,h1,h2⟩:=h;simp only[hp];exact⟨R,h1,λv H' hR=>zaS r _ _ (h2 v H' hR)⟩
    simp_all
   .rename_i hb;simp only[zco,zw all F o hb,true_implies,reduceCtorEq,false_implies,true_and];exact zaS r _ _ h
   simp_all
section rules
variable {E:Env} {Q:Exit->Fr->za->Prop}
theorem PW.rg{id:Nat}{ops:Array Oper}(hd:ops.toList.all (zU E.N)=true)(h:∀ K:Fr->za->Prop,(∀ F' H',Q .normal F' H'->K F' H')->VO P (ops.toList.map (·.dst)) ops.toList (some (F,H)) K):
  PW P E (.region id ops false) F H Q:=PW.region hd (zaS _ _ _ (h _ λ_ _ h=>h))
theorem PW.rg1{id:Nat}{ops:Array Oper}(ks:List Nat)(F1:Fr)(H1:za)(hd:ops.toList.all (zU E.N)=true)(h:VO P (ops.toList.map (·.dst)) ops.toList (some (F,H)) (λF' H'=>kp ks F'=F1/\H'=H1))(hq:Q .normal F1 H1):
  PW P E (.region id ops false) F H Q:=PW.region_to ks F1 H1 hd (zaS _ _ _ h) hq
end rules
theorem PW.join{E:Env}{Q:Exit->Fr->za->Prop}{x y:Code}(ks:List Nat)(J:Fr->za->Prop)(h:PW P E x F H (ziA (λF' H'=>J (kp ks F') H') Q))(hj:∀ F' H',J F' H'->PW P E y F' H' Q):PW P E (.seq x y) F H Q:=
 PW.seq (h.mono λe F' H' hq=>by
  cases e with
  | normal=>exact(hj _ _ hq).keep ks
  | _=>exact hq)
theorem hp0(H K:za)(b:Blk):(H++b::K)[H.length]? =some b:=by simp
theorem hp1(H K:za)(a b:Blk):(H++a::b::K)[H.length+1]? =some b:=by simp_all
theorem hp2(H K:za)(a b c:Blk):(H++a::b::c::K)[H.length+2]? =some c:=by simp_all
theorem hp3(H K:za)(a b c d:Blk):(H++a::b::c::d::K)[H.length+3]? =some d:=by simp_all
theorem hs0(H K:za)(b x:Blk):(H++b::K).set H.length x=H++x::K:=by simp
theorem hs1(H K:za)(a b x:Blk):(H++a::b::K).set (H.length+1) x=H++a::x::K:=by simp_all
theorem hs2(H K:za)(a b c x:Blk):(H++a::b::c::K).set (H.length+2) x=H++a::b::x::K:=by simp_all
theorem hl1(H:za)(a:Blk):(H++[a]).length=H.length+1:=by simp
theorem hl2(H:za)(a b:Blk):(H++[a,b]).length=H.length+2:=by simp
theorem hl3(H:za)(a b c:Blk):(H++[a,b,c]).length=H.length+3:=by simp
theorem zwd{α:Type}{c:Prop}[Decidable c](x y:α)(h:c):(if c then x else y)=x:=if_pos h
theorem zwe{α:Type}{c:Prop}[Decidable c](x y:α)(h:¬ c):(if c then x else y)=y:=if_neg h
theorem zxO{c:Prop}[Decidable c](h:c):decide c=true:=decide_eq_true h
theorem zxP{c:Prop}[Decidable c](h:¬ c):decide c=false:=decide_eq_false h
theorem zxV{a b:Int}(h:a=b):(a==b)=true:=by simp[h]
theorem zxW{a b:Int}(h:¬ a=b):(a==b)=false:=by simp[h]
theorem zxR{a b:Int}(h:¬ a=b):(a !=b)=true:=by simp[h]
theorem zxS{a b:Int}(h:a=b):(a !=b)=false:=by simp[h]
theorem w64(n:Int)(h: -9223372036854775808<=n/\n<=9223372036854775807):IntKind.i64.wrap n=n:=IntWalk.i64_in n h
theorem w8(n:Int)(h:0<=n/\n<=255):IntKind.u8.wrap n=n:=IntWalk.u8_in n h
theorem w32(n:Int)(h:0<=n/\n<=4294967295):IntKind.u32.wrap n=n:=IntWalk.u32_in n h
def own:PV->Option Nat
 | .msl id _ _ _ _ _=>some id
 | _=>none
def Acc(B e sz:Nat)(H:za)(v:PV)(xs:List PV)(n:Nat):Prop:=xs.length=n * sz/\(v= .slice xs n true\/∃ id ver,B<=id/\v= .msl id ver 0 n sz true/\H[id]? =some ⟨e,ver,xs⟩/\ver<=xs.length)
theorem Acc.nil(B e sz:Nat)(H:za):Acc B e sz H (.slice [] 0 true) [] 0:=⟨by simp,.inl rfl⟩
def Kept(B:Nat)(H H1:za):Prop:=B<=H1.length/\∀ j,j<B->H1[j]? =H[j]?
theorem Kept.refl(H:za):Kept H.length H H:=⟨qG _,λ_ _=>rfl⟩
theorem Kept.more(H K:za):Kept H.length H (H++K):=⟨by simp,λj hj=>qD hj⟩
theorem Kept.split{H H1:za}(h:Kept H.length H H1):H1=H++H1.drop H.length:=by
 apply List.ext_getElem?;intro j;by_cases hj:j<H.length
 .rw[qD hj];exact h.2 j hj
 grind
theorem Kept.trans{B:Nat}{H H1 H2:za}(h:Kept B H H1)(h':Kept B H1 H2):Kept B H H2:=⟨h'.1,λj hj=>(h'.2 j hj).trans (h.2 j hj)⟩
structure Grew(H H2:za)(o:Option Nat):Prop where
 len:H.length<=H2.length
 other:∀ j,j<H.length->o≠some j->H2[j]? =H[j]?
theorem Kept.grew{B:Nat}{H H1 H2:za}{o:Option Nat}(h:Kept B H H1)(g:Grew H1 H2 o)(ho:∀ j,o=some j->B<=j):Kept B H H2:=⟨Nat.le_trans h.1 g.len,λj hj=>(g.other j (Nat.lt_of_lt_of_le hj h.1) (λe=>by have:=ho j e;omega)).trans (h.2 j hj)⟩
theorem Acc.grew{B e sz n:Nat}{H H2:za}{o:Option Nat}{v:PV}{xs:List PV}(h:Acc B e sz H v xs n)(g:Grew H H2 o)(hne:own v=none\/own v≠o):Acc B e sz H2 v xs n:=by
 refine⟨h.1,?_⟩;rcases h.2 with h1|⟨id,ver,hb,rfl,hk,hvl⟩
 .simp_all
 .refine .inr ⟨id,ver,hb,rfl,?_,hvl⟩;rw[g.other id (qB.1 hk).1 (by rcases hne with h1|h1;cases h1;exact λe=>h1 e.symm)];exact hk
theorem Acc.append{B e sz n b m:Nat}{t tx:TypeId}{H:za}{v x:PV}{xs news z:List PV}(h:Acc B e sz H v xs n)(ht:P.underlying t=some (.slice e))(hs:szT P e=some sz)(hb:byT P e=some b)(hz:zaz P e=some z)
  (hpos:0<sz) (hzl:z.length=sz) (hx:zbx P H e sz tx x=some (news,m)) (hm:news.length=m * sz) (h1:(n+m) * b<=140737488355328) (h2:n+m<=140737488355328) (hB:B<=H.length):
  ∃ v2 H2,pappend P H t tx v x=some (v2,H2)/\Acc B e sz H2 v2 (xs++news) (n+m)/\Grew H H2 (own v)/\(own v2=own v\/own v2=some H.length):=by
 have hlen:(xs++news).length=(n+m) * sz:=by rw[List.length_append,h.1,hm,Nat.add_mul]
 unfold pappend;simp only[ht,hs,hb,hz,hpos,hzl,and_self,if_true,hx];rcases h.2 with rfl|⟨id,ver,hid,rfl,hk,hvl⟩
 .by_cases h0:m=0
  .subst h0;have hn:news=[]:=qK (by simpa using hm);subst hn;exact⟨_,_,by simp,by simpa using h,⟨qG _,λ_ _ _=>rfl⟩,.inl rfl⟩
  .refine⟨.msl H.length (xs++news).length 0 (n+m) sz true,H++[⟨e,(xs++news).length,xs++news⟩],by simp[h0,h1,h2,h.1],⟨hlen,.inr ⟨H.length,_,hB,rfl,by simp,qG _⟩⟩,⟨by simp,λj hj _=>by rw[qD hj]⟩,.inr rfl⟩
 .have hlt:=(qB.1 hk).1;by_cases h0:m=0
  .subst h0;have hn:news=[]:=qK (by simpa using hm);subst hn;simp only[Nat.add_zero]at h1 h2;refine⟨_,_,by simp[hk,h.1,h1,h2,h.1▸hvl],by simpa using h,⟨qG _,λ_ _ _=>rfl⟩,.inl rfl⟩
  .refine⟨.msl id (xs++news).length 0 (n+m) sz true,H.set id ⟨e,(xs++news).length,xs++news⟩,by simp[hk,h.1,h1,h2,h0,h.1▸hvl],⟨hlen,.inr ⟨id,_,hid,rfl,by simp[hlt],qG _⟩⟩,⟨by simp,λj hj hne=> ?_⟩,.inl rfl⟩;rw[qR (by intro e;subst e;exact hne rfl)]
theorem Acc.len{B e sz n:Nat}{t:TypeId}{H:za}{v:PV}{xs:List PV}(h:Acc B e sz H v xs n)(ht:P.underlying t=some (.slice e)):zgx P H t v=some (.int .i64 (n:Nat)):=by rcases h.2 with rfl|⟨id,ver,hid,rfl,hk,hvl⟩;all_goals simp_all[zgx,zbK]
theorem Acc.cells{B e sz n:Nat}{H:za}{v:PV}{xs:List PV}(h:Acc B e sz H v xs n):zaT H sz v=some (xs,n):=by
 rcases h.2 with rfl|⟨id,ver,hid,rfl,hk,hvl⟩
 .simp[zaT,h.1]
 .simp[zaT,hk,h.1];rw[<-h.1,List.take_length]
def Frz(n:Nat)(H:za)(x y:PV):Prop:=∃ d,∀ d',d<=d'->frz n H d' x=some y
def Still(x:PV):Prop:=∃ d,∀ n H d',d<=d'->frz n H d' x=some x
theorem Still.int(k:IntKind)(m:Int):Still (.int k m):=⟨1,λn H d hd=>by obtain⟨d,rfl⟩:∃ e,d=e+1:=⟨d - 1,om⟩;rfl⟩
theorem Still.bool(b:Bool):Still (.bool b):=⟨1,λn H d hd=>by obtain⟨d,rfl⟩:∃ e,d=e+1:=⟨d - 1,om⟩;rfl⟩
theorem Still.str(s:List UInt8):Still (.str s):=⟨1,λn H d hd=>by obtain⟨d,rfl⟩:∃ e,d=e+1:=⟨d - 1,om⟩;rfl⟩
theorem Still.nilp:Still .nilp:=⟨1,λn H d hd=>by obtain⟨d,rfl⟩:∃ e,d=e+1:=⟨d - 1,om⟩;rfl⟩
theorem Still.all:∀{xs:List PV},(∀ x∈xs,Still x)->∃ d,∀ n H d',d<=d'->xs.mapM (frz n H d')=some xs
 | [],_=>⟨0,λn H d' _=>by simp⟩
 | x::xs,h=>by obtain⟨d1,h1⟩:=h x sp;obtain⟨d2,h2⟩:=Still.all (xs:=xs) (λy hy=>h y (by simp[hy]));exact⟨max d1 d2,λn H d' hd=>by simp[qV,h1 n H d' om,h2 n H d' om]⟩
theorem Still.slice{xs:List PV}{len:Nat}(h:∀ x∈xs,Still x):Still (.slice xs len false):=by obtain⟨d,hd⟩:=Still.all h;exact⟨d+1,λn H d' hd'=>by obtain⟨e,rfl⟩:∃ e,d'=e+1:=⟨d' - 1,om⟩;simp[frz,hd n H e om]⟩
theorem Still.agg{xs:List PV}(h:∀ x∈xs,Still x):Still (.agg xs):=by obtain⟨d,hd⟩:=Still.all h;exact⟨d+1,λn H d' hd'=>by obtain⟨e,rfl⟩:∃ e,d'=e+1:=⟨d' - 1,om⟩;simp[frz,hd n H e om]⟩
theorem Still.frz{x:PV}(h:Still x)(n:Nat)(H:za):Frz n H x x:=by obtain⟨d,hd⟩:=h;exact⟨d,λd' h'=>hd n H d' h'⟩
theorem Frz.slice{n len:Nat}{H:za}{xs:List PV}{full:Bool}(h:∀ x∈xs,Still x):Frz n H (.slice xs len full) (.slice xs len false):=by obtain⟨d,hd⟩:=Still.all h;exact⟨d+1,λd' hd'=>by obtain⟨e,rfl⟩:∃ e,d'=e+1:=⟨d' - 1,om⟩;simp[Pm.frz,hd n H e om]⟩
theorem Fin.give{H H':za}{v v':PV}(hk:Kept H.length H H')(hf:Frz H.length H' v' v):Fin H v H v' H':=by obtain⟨d,hd⟩:=hf;exact .inr (.inl ⟨_,d,hk.split,rfl,hd d (qG _)⟩)
def Two(v u:PV):Prop:=∀ j,own v=some j->own u≠some j
theorem Two.of{v u v2:PV}{H:za}(h:Two v u)(hu:∀ j,own u=some j->j<H.length)(ho:own v2=own v\/own v2=some H.length):Two v2 u:=λj hj=>by
 rcases ho with ho|ho
 .exact h j (by rw[<-ho];exact hj)
 grind
theorem Two.symm{v u:PV}(h:Two v u):Two u v:=λj hj hv=>h j hv hj
theorem Two.ne{v u:PV}(h:Two v u):own u=none\/own u≠own v:=by
 cases hu:own u with
 | none=>exact .inl rfl
 | some j=>exact .inr (λe=>h j e.symm hu)
theorem Acc.more{B e sz n:Nat}{H:za}{v:PV}{xs:List PV}(h:Acc B e sz H v xs n)(K:za):Acc B e sz (H++K) v xs n:=h.grew (o:=none) ⟨by simp,λj hj _=>qD hj⟩ (by cases hv:own v;exact .inl rfl;exact .inr sp)
theorem Kept.add{B:Nat}{H H1:za}(h:Kept B H H1)(K:za):Kept B H (H1++K):=⟨by have:=h.1;simp;omega,λj hj=>by rw[qD (by have:=h.1;omega)];exact h.2 j hj⟩
def FrzF(n:Nat)(H:za):Fr->Fr->Prop
 | [],[]=>True
 | (t,x)::r,(t',y)::s=>t=t'/\Frz n H x y/\FrzF n H r s
 | _,_=>False
theorem Frz.undef(n:Nat)(H:za):Frz n H .undef .undef:=⟨1,λd hd=>by obtain⟨d,rfl⟩:∃ e,d=e+1:=⟨d - 1,om⟩;rfl⟩
theorem FrzF.slot{n:Nat}{H:za}:∀{F F1:Fr},FrzF n H F F1->∀ t,Frz n H (slot F t) (slot F1 t)
 | [],[],_,t=>Frz.undef n H
 | (k,x)::r,(k',y)::s,h,t=>by
  obtain⟨rfl,h1,h2⟩:=h;show Frz n H (match jL k t with|true=>x|false=>Pm.slot r t) (match jL k t with|true=>y|false=>Pm.slot s t);cases jL k t with
  | true=>exact h1
  | false=>exact FrzF.slot h2 t
 | [],_::_,h,_=>h.elim
 | _::_,[],h,_=>h.elim
theorem PW.give{E:Env}{Q:Exit->Fr->za->Prop}{c:Code}(ks:List Nat)(F1:Fr)(hk:Kept E.H0.length E.H0 H)(hz:FrzF E.H0.length H (kp ks F) F1)(h:PW P E c F1 E.H0 Q):PW P E c F H Q:=λhs C a w hd hw hf=>by have e:H=E.H0++H.drop E.H0.length:=hk.split;rw[e]at hw;obtain⟨g1,g2⟩:=WRel.giveN hs hw;rw[<-e]at hw;refine wp_mono (h hs _ a w hd g2 ⟨hf.1,λt=> ?_⟩) λ_ _ _ hp=>hp.trans g1 (.refl _ _);obtain⟨d,hd'⟩:=hz.slot t;exact zen hw _ d _ _ _ ((hf.keep ks).2 t) (hd' d (qG _))
end Go.Proofs.YtdajpjenhcobkaaGreatDoor.Pm
namespace Go.Proofs.YtdajpjenhcobkaaGreatDoor.Pm
open Go.RowKit
variable {P:Program} {C:Ctx} {H:za} {w:World} {F:Fr} {a:Act} {N:Nat}
abbrev wFe(rd:Option Nat):Fence:={ Fence.wide with round:=rd }
section lift
variable {rd:Option Nat} {Q:Exit->Act->World->Prop}
theorem rows_in{row:String}{args:Array Value}{R:Value->World->Prop}{n:Nat}(h:Rows P row args w R):RowsIn (wFe rd) n P row args w R:=by intro c cs _;obtain⟨v,w',r,s⟩:=h c cs;exact⟨v,w',r,stepsIn_wide.2 s⟩
theorem zfF{n:Nat}:(wFe rd).depth.isSome=true->1<=n:=λe=>by simp[Fence.wide]at e
theorem zsO{o:Oper}{next:Act->World->Prop}:∀{r:Result Next},o.upon P a next Q r->o.uponIn (wFe rd) 0 P a next Q r
 | .ok v w,h=>by
  cases v<;>first
   | exact h
   | exact False.elim h
   | exact⟨zfF,callsIn_wide.2 h⟩
   | exact⟨zfF,rows_in h⟩
 | .halt p w,h=>by
  cases p<;>first
   | exact h
   | exact False.elim h
def zbQ(o:Oper):Bool:=match o.op with| .defer _=>false|_=>true
theorem zuK{o:Oper}{next:Act->World->Prop}(hd:zbQ o=true)(h:o.wp P a w next Q):o.wpIn (wFe rd) 0 P a w next Q:=by
 refine⟨λ_ _=>trivial,?_⟩;have e:o.semAt (wFe rd).round a.eval=execOp a.eval o:=Oper.semAt_eq _ _ _ λc hc=>by rw[zbQ,hc]at hd;cases hd
 rw[e];exact zsO h
theorem zty{o:Oper}{next next':Act->World->Prop}(hn:∀ a w,next a w->next' a w)(h:o.wp P a w next Q):o.wp P a w next' Q:=by
 unfold Oper.wp at *;generalize (execOp a.eval o).run P w=r at *;cases r with
 | ok v w=>cases v<;>first
   | exact hn _ _ h
   | exact False.elim h
   | (refine Calls.mono h λe w' he=> ?_;cases e<;>first|exact hn _ _ he|exact he)
   | exact Rows.mono h λ_ _ he=>hn _ _ he
 | halt p w=>cases p<;>exact h
theorem znJ{ops:Array Oper}(hd:∀ o∈ops.toList,zbQ o=true)(lo:¬ LetsOut Q):∀(l:List Oper) (k:Nat),(∀ j,j<l.length->l[j]? =ops[k+j]?)->∀(a:Act) (w:World),wpList P ops Q l a w->wpOpsIn (wFe rd) 0 P ops Q (List.range' k l.length) a w
 | [],k,_,a,w,h=>h
 | o::r,k,hj,a,w,h=>by
  have h0:ops[k]? =some o:=by have:=hj 0 sp;simpa using this.symm
  have hr:=znJ hd lo r (k+1) λj hl=>by have:=hj (j+1) (by simp;omega);grind
  rw[List.length_cons,List.range'_succ];unfold wpOpsIn;rw[h0];unfold wpList at h;have hm:zbQ o=true:=hd o (by rw[Array.mem_toList_iff];exact Array.mem_of_getElem? h0);dsimp only;split
  .grind[zuK,zty]
  .rename_i hw;rw[if_neg hw]at h;exact⟨λ_ _=>trivial,hr _ _ h⟩
theorem zoy{id:Nat}{ops:Array Oper}(hd:ops.toList.all zbQ=true)(lo:¬ LetsOut Q)(h:wpList P ops Q ops.toList a w):(Code.region id ops false).wpIn (wFe rd) 0 P Q a w:=by refine wpIn_region ?_;grind[jO,jB,znJ,qY.1]
end lift
def PWr(P:Program)(E:Env)(l:Nat)(c:Code)(F:Fr)(H:za)(Q:Exit->Fr->za->Prop):Prop:=HSc E.H0->∀(C:Ctx) (a:Act) (w:World),a.defers=[]->WRel C H w->FRel C E.N (slot F) a->c.wpIn (wFe (some l)) 0 P (Post E C w Q) a w
section rules
variable {E:Env} {l:Nat} {Q:Exit->Fr->za->Prop}
theorem PWr.skip(h:Q .normal F H):PWr P E l .skip F H Q:=λhs C a w hd hw hf=>wpIn_skip ⟨C,F,H,.refl _,hd,hw,.refl _ _,hf,h⟩
theorem PWr.exit{id:Nat}(h:Q (.exit id) F H):PWr P E l (.exit id) F H Q:=λhs C a w hd hw hf=>wpIn_exit ⟨C,F,H,.refl _,hd,hw,.refl _ _,hf,h⟩
theorem PWr.seq{x y:Code}(h:PWr P E l x F H (ziA (λF' H'=>PWr P E l y F' H' Q) Q)):PWr P E l (.seq x y) F H Q:=λhs C a w hd hw hf=>by
 refine wpIn_seq (wpIn_mono (h hs C a w hd hw hf) ?_);rintro e a1 w1 ⟨C1,F1,H1,q1,q2,q3,q4,q5,q6⟩;cases e with
 | normal=>exact wpIn_mono (q6 hs C1 a1 w1 q2 q3 q5) λ_ _ _ hp=>hp.trans q1 q4
 | _=>exact⟨C1,F1,H1,q1,q2,q3,q4,q5,q6⟩
theorem PWr.cond{c:Operand}{x y:Code}{t:Bool}(hc:ev (slot F) c= .bool t)(h1:t=true->PWr P E l x F H Q)(h2:t=false->PWr P E l y F H Q):PWr P E l (.cond c x y) F H Q:=λhs C a w hd hw hf=>by have hv:=zy hf c;rw[hc]at hv;exact wpIn_cond_split (zar hv) (λht=>h1 ht hs C a w hd hw hf) (λht=>h2 ht hs C a w hd hw hf)
theorem PWr.block{id:Nat}{c:Code}(h:PWr P E l c F H (zd8 id Q)):PWr P E l (.block id c) F H Q:=λhs C a w hd hw hf=>by
 refine wpIn_block (wpIn_mono (h hs C a w hd hw hf) ?_);rintro e a1 w1 ⟨C1,F1,H1,q1,q2,q3,q4,q5,q6⟩;cases e with
 | exit id'=>
  simp only[zd8]at q6;simp only[Exit.inBlock];split
  .rename_i he;rw[if_pos he]at q6;exact⟨C1,F1,H1,q1,q2,q3,q4,q5,q6⟩
  .rename_i he;rw[if_neg he]at q6;exact⟨C1,F1,H1,q1,q2,q3,q4,q5,q6⟩
 | _=>exact⟨C1,F1,H1,q1,q2,q3,q4,q5,q6⟩
theorem PWr.region{id:Nat}{ops:Array Oper}(hd:ops.toList.all (zU E.N)=true)(hn:ops.toList.all zbQ=true)(lo:∀ F H,¬ Q .outgrown F H)(h:zco P ops.toList ops.toList (λF' H'=>Q .normal F' H') F H):PWr P E l (.region id ops false) F H Q:=λhs C a w hdf hw hf=>by
 refine zoy hn ?_ ?_
 .rintro⟨a,w,C',F',H',_,_,_,_,_,hq⟩;simp_all
 have:=zbA (P:=P) (all:=ops.toList) ops.toList F H hd h C a w hdf hw hf (Post E C w Q) (λC' F' H' a' w' p1 p2 p3 p4 p5 p6=>⟨C',F',H',p1.toN _,p2,p3,p4,p5,p6⟩);omega
theorem PWr.keep{c:Code}(ks:List Nat)(h:PWr P E l c (kp ks F) H Q):PWr P E l c F H Q:=λhs C a w hd hw hf=>h hs C a w hd hw (hf.keep ks)
end rules
theorem WRel.lpAt(h:WRel C H w){id l:Nat}{o:Obj}{k:Blk}(hk:H[id]? =some k)(hc:k.cells=[.lp l o]):C.mu[id]? =some none/\C.cp[id]? =some (l+1)/\C.B<=l/\w.heap[l]? =some o/\zmI o=false:=by
 obtain⟨m,hm⟩:∃ m,C.mu[id]? =some m:=⟨C.mu[id]'(by rw[h.len];exact(qB.1 hk).1),qA _⟩;cases m with
 | none=>
  rcases h.gho id k hk hm with h0|⟨b,es,clock,q1,q2,q3,q4,q5⟩|⟨b,r,q1,q2,q3,q4⟩
  .simp_all
  .have h1:0<es.size:=by simp_all
   cases q5 0 (.lp l o) es[0] (by rw[hc];rfl) (Array.getElem?_eq_getElem h1)
  simp_all
 | some b=>obtain⟨cur,_,_,_,q6,_⟩:=h.own id k b hk hm;have:=q6 (.lp l o) (by rw[hc];simp);cases this
theorem WRel.lpAlloc(h:WRel C H w)(e v:Nat)(ob:Obj)(hcl:zmI ob=false):CLe C (C.more none (w.heap.size+1) v)/\WRel (C.more none (w.heap.size+1) v) (H++[⟨e,v,[.lp w.heap.size ob]⟩]) (w.alloc ob)/\Below C.B w (w.alloc ob):=by
 have hle:CLe C (C.more none (w.heap.size+1) v):=C.le_more _ _ _ (λb' e=>by cases e) (h.len.trans h.lenv.symm) (h.lenc.trans h.lenv.symm);refine⟨hle,?_,(Below.refl _ _).alloc h.base _⟩;have e1:=h.len;have e2:=h.lenv;have e3:=h.lenc;refine⟨h.gl.mono hle.M,?_,?_,?_,?_,?_,?_,?_,?_,?_,?_,?_,zei h (λp _ hp i hi hc=> ?_)⟩
 .have:=h.base;simp only[Ctx.more,World.size_alloc];omega
 .have:=h.tople;simp only[Ctx.more,World.size_alloc];omega
 .intro b o u hu;have hb:=h.imm_lt (o:=o) hu;exact(World.cell?_alloc_lt w _ ⟨b,o,none⟩ hb).trans (h.imm b o u hu)
 .simp[Ctx.more,e1]
 .simp[Ctx.more,e2]
 .simp[Ctx.more,e3]
 .intro id k hk;simp only[Ctx.more];rcases zF hk with⟨hid,hk⟩|⟨rfl,rfl⟩
  .rw[qD om];exact h.ver id k hk
  simp_all
 .intro id k hk hm;simp only[Ctx.more]at hm |-;rcases zF hk with⟨hid,hk⟩|⟨rfl,rfl⟩
  .rw[qD om]at hm |-;exact(h.gho id k hk hm).imp_right (λm=>m.mono hle rfl (λb es c hp hb=>by rw[Below.heap_alloc _ _ _ (jI.1 hb).1];exact hb))
  .exact .inr (.inr ⟨w.heap.size,ob,by simp[<-e3],h.base,heap_alloc_new w _,rfl,hcl⟩)
 .intro id k b hk hm;simp only[Ctx.more]at hm |-;rcases zF hk with⟨hid,hk⟩|⟨rfl,rfl⟩
  .rw[qD om]at hm;obtain⟨c,q3,q4,q5,q6,q7,q8⟩:=h.own id k b hk hm;exact⟨c,by rw[qD om];exact q3,q4,by rw[Below.heap_alloc _ _ _ (h.mu_lt hm)];exact q5,q6,q7,λj x u hx hu=>(q8 j x u hx hu).mono hle⟩
  simp_all
 .intro id b hb o;simp only[Ctx.more]at hb |-;rcases zF hb with⟨hid,hb1⟩|⟨rfl,hb1⟩
  .exact h.disj id b hb1 o
  .cases hb1
 .intro i j b hi hj;simp only[Ctx.more]at hi hj;rcases zF hi with⟨li,hi⟩|⟨li,hi⟩<;>rcases zF hj with⟨lj,hj⟩|⟨lj,hj⟩
  .exact h.inj i j b hi hj
  all_goals simp_all
 .have:=h.map_lt hi hc;omega
theorem WRel.lpSet(h:WRel C H w){id l:Nat}{o:Obj}{k:Blk}(hk:H[id]? =some k)(hc:k.cells=[.lp l o])(o':Obj)(hcl:zmI o'=false):
  WRel C (H.set id ⟨k.e,k.ver,[.lp l o']⟩) (w.putObj l o')/\Below C.B w (w.putObj l o'):=by
 obtain⟨hm,hp,hB,hb,hcl0⟩:=h.lpAt hk hc;have hid:id<H.length:=(qB.1 hk).1;have hbl:l<w.heap.size:=(jI.1 hb).1;have e1:=h.len;have e2:=h.lenv;have e3:=h.lenc;have oth:∀ b',b'≠l->(w.heap.setIfInBounds l o')[b']? =w.heap[b']? :=λb' hne=>by grind
 refine⟨⟨h.gl,?_,?_,?_,?_,?_,?_,?_,?_,?_,h.disj,h.inj,h.minj⟩,rfl,rfl,rfl,by simp,λi hi=>oth i om⟩
 .have:=h.base;simpa using this
 .have:=h.tople;simpa using this
 .intro b' o2 u hu;have hcu:=h.imm b' o2 u hu;have hne:b'≠l:=by rintro rfl;cases o<;>first|(simp[World.cell?,hb]at hcu;done)|(simp[zmI]at hcl0;done)
  simp only[World.cell?,World.putObj]at hcu |-;rw[oth b' hne];exact hcu
 .simp[e1]
 .simp[e2]
 .simp[e3]
 .intro i k' hk';by_cases hi:i=id
  .subst hi;simp[hid]at hk';subst hk';exact h.ver i k hk
  .rw[qR om]at hk';exact h.ver i k' hk'
 .intro i k' hk' hm';by_cases hi:i=id
  .subst hi;simp[hid]at hk';subst hk';exact .inr (.inr ⟨l,o',hp,hB,World.putObj_heap_same hbl,rfl,hcl⟩)
  .rw[qR om]at hk';exact(h.gho i k' hk' hm').imp_right (λm=>m.mono (.refl _) rfl (λb2 es2 c2 hp2 hb2=>by
    have hne:b2≠l:=by rintro rfl;exact hi (h.minj i id b2 hm' hm hp2 hp)
    exact(oth b2 hne).trans hb2))
 .intro i k' b' hk' hm';by_cases hi:i=id
  .subst hi;rw[hm]at hm';cases hm'
  .rw[qR om]at hk';obtain⟨c,q3,q4,q5,q6,q7,q8⟩:=h.own i k' b' hk' hm';have hne:b'≠l:=by grind[zmI]
   exact⟨c,q3,q4,(oth b' hne).trans q5,q6,q7,q8⟩
def YldOk(P:Program)(y:PV)(args:List PV)(H:za)(v:PV)(H':za):Prop:=
 ∀(C:Ctx) (q:Value) (us:List Value) (w:World),WRel C H w->VRel C y q->VRels C args us->∃ l fn tmps assign body,q= .func (.yield l) #[] #[]/\(Instr.yield l us.toArray).run P w= .ok (.round l fn tmps assign body) w/\
  RoundIn Fence.wide 0 P l fn tmps assign body w λe w'=>∃ C' u,CLe C C'/\WRel C' H' w'/\Below C.B w w'/\e= .returned u/\VRel C' v u
def zha(rd:Option Nat)(P:Program)(ops:Array Oper)(Q:Exit->Act->World->Prop):List Oper->Act->World->Prop
 | [],a,w=>Q .normal a w
 | o::r,a,w=>if Region.wanted o (yielded ops a.tmps)then o.wpIn (wFe rd) 0 P a w (zha rd P ops Q r) Q else zha rd P ops Q r (a.put o.dst undef) w
theorem zsH{rd:Option Nat}{ops:Array Oper}{Q:Exit->Act->World->Prop}:∀(l:List Oper) (k:Nat),(∀ j,j<l.length->l[j]? =ops[k+j]?)->∀(a:Act) (w:World),zha rd P ops Q l a w->wpOpsIn (wFe rd) 0 P ops Q (List.range' k l.length) a w
 | [],k,_,a,w,h=>h
 | o::r,k,hj,a,w,h=>by
  have h0:ops[k]? =some o:=by have:=hj 0 sp;simpa using this.symm
  have hr:=zsH (rd:=rd) (Q:=Q) r (k+1) λj hl=>by have:=hj (j+1) (by simp;omega);simpa[Nat.add_assoc,Nat.add_comm 1 j]using this
  rw[List.length_cons,List.range'_succ];unfold wpOpsIn;rw[h0];unfold zha at h;dsimp only;split
  .rename_i hw;rw[if_pos hw]at h;have e:zha rd P ops Q r=zha rd P ops Q r:=rfl;refine⟨h.1,?_⟩;have h2:=h.2;revert h2;generalize (o.semAt (wFe rd).round a.eval).run P w=res;intro h2;cases res with
   | ok v w=>cases v<;>first
     | exact hr _ _ h2
     | exact False.elim h2
     | exact⟨h2.1,h2.2.mono λe w' he=>by cases e<;>first|exact hr _ _ he|exact he⟩
     | exact⟨h2.1,h2.2.mono λ_ _ he=>hr _ _ he⟩
   | halt p w=>cases p<;>exact h2
  .rename_i hw;rw[if_neg hw]at h;exact⟨λ_ _=>trivial,hr _ _ h⟩
theorem zpu{rd:Option Nat}{all:List Oper}{K:Fr->za->Prop}{D:List Deferred}{rest:List Oper}:∀(l:List Oper) (F:Fr) (H:za),l.all (zU N)=true->l.all zbQ=true->zco P all l K F H->∀(C:Ctx) (a:Act) (w:World),a.defers=D->WRel C H w->FRel C N (slot F) a->
  ∀ Q:Exit->Act->World->Prop,(∀ C' F' H' a' w',CLe C C'->a'.defers=D->WRel C' H' w'->Below C.B w w'->FRel C' N (slot F') a'->K F' H'->zha rd P all.toArray Q rest a' w')->zha rd P all.toArray Q (l++rest) a w
 | [],F,H,_,_,h,C,a,w,hd,hw,hf,Q,hQ=>hQ C F H a w (.refl _) hd hw (.refl _ _) hf h
 | o::r,F,H,hall,hnd,h,C,a,w,hd,hw,hf,Q,hQ=>by
  simp only[List.all_cons,qH]at hall hnd;simp only[zco]at h;rw[List.cons_append];split at h
  .rename_i b hb;have hwant:=zS hf hb;unfold zha;cases b with
   | true=>
    rw[if_pos hwant];have h1:=h.1 rfl;have step:∀ R,zcM P o (slot F) H R->(∀ v H',R v H'->zco P all r K (put F o.dst v) H')->o.wpIn (wFe rd) 0 P a w (zha rd P all.toArray Q (r++rest)) Q:=λR he hr=>by refine zuK hnd.1 (zb5 hall.1 hw hf he _ _ λC' u w' v H' q0 q1 q2 q3 q4=> ?_);rw[<-zae]at q4;refine zpu (D:=D) (rest:=rest) r _ _ hall.2 hnd.2 (hr v H' q0) C' _ w' (by cases ho:o.dst<;>simp[Act.put,hd]) q2 q4 Q ?_;intro C'' F'' H'' a'' w'' p1 p2 p3 p4 p5 p6;exact hQ C'' F'' H'' a'' w'' (q1.trans p1) p2 p3 (q3.trans (by rw[<-q1.B];exact p4)) p5 p6
    split at h1
    .rename_i g args hc;obtain⟨R,hcall,hr⟩:=h1;exact step R (by unfold zcM;rw[hc];exact hcall) hr
    .rename_i hc;split at h1
     .rename_i v H' hp;exact step (λv' H''=>v'=v/\H''=H') (by unfold zcM;rw[hc];exact⟨v,H',hp,rfl,rfl⟩) (λv' H'' e=>by rw[e.1,e.2];exact h1)
     simp_all
   | false=>rw[if_neg (by rw[hwant];simp)];have h2:=h.2 rfl;have q4:=hf.put o.dst (zaQ hall.1) (VRel.undefV (C:=C));rw[<-zae]at q4;exact zpu (D:=D) (rest:=rest) r _ _ hall.2 hnd.2 h2 C _ w (by cases ho:o.dst<;>simp[Act.put,hd]) hw q4 Q hQ
  simp_all
theorem zpl{rd:Option Nat}{id:Nat}{ops:Array Oper}{Q:Exit->Act->World->Prop}(h:zha rd P ops Q ops.toList a w):(Code.region id ops false).wpIn (wFe rd) 0 P Q a w:=by refine wpIn_region ?_;grind[jO,jB,zsH]
section rules
variable {E:Env} {Q:Exit->Fr->za->Prop}
end rules
def zqq(H:za)(H':za)(id:Nat)(e ver l:Nat)(r:Loop):Exit->Fr->za->Prop
 | .normal,_,H2=>H2[id]? =some ⟨e,ver,[.lp l (.loop { r with state:=.busy })]⟩/\Fin H (.bool true) H' (.bool true) (H2.set id ⟨e,ver,[.lp l (.loop r)]⟩)
 | _,_,_=>False
def zn8(P:Program)(E:Env)(Q:Exit->Fr->za->Prop)(id:Nat)(e ver l:Nat)(r:Loop):Exit->Fr->za->Prop
 | .normal,F1,H1=>H1[id]? =some ⟨e,ver,[.lp l (.loop r)]⟩/\PWr P E l r.body F1 (H1.set id ⟨e,ver,[.lp l (.loop { r with state:=.busy })]⟩) Q
 | _,_,_=>False
theorem zt0{v v':PV}{Hout:za}{C1:Ctx}{u:Value}(hw:WRel C H w)(hle:CLe C C1){H':za}{w':World}(hw':WRel C1 H' w')(hB:Below C.B w w')(hv:VRel C1 v' u)(h:Fin H v Hout v' H'):
  ∃ C2,CLe C C2/\WRel C2 Hout w'/\VRel C2 v u:=by
 rcases h with⟨rfl,rfl⟩|⟨K,d,rfl,rfl,hfz⟩|h
 .exact⟨C1,hle,hw',hv⟩
 .obtain⟨g1,g2⟩:=WRel.give hw hle hw';exact⟨_,g1,g2,zen hw' _ d _ _ _ hv hfz⟩
 .obtain⟨hlen,hc,hfz⟩:=h hw.hsc;obtain⟨g1,g2⟩:=hw'.cutN hc;exact⟨_,((hle.toN H.length).trans (g1.less hlen)).full hw.lenv,g2,hfz.sound hw' hv⟩
theorem YldOk.intro{l id e ver:Nat}{us:List Value}{fs:List PV}{r:Loop}{p:Nat}{x:PV}{G:Fr}{H':za}(hr1:r.tmps=us.toArray)(hr2:r.state= .ready)(hr3:r.pending=none)(hps:r.params= #[p])(hp:p<us.length)
  (hG:∀ t,slot G t= .undef\/(t<us.length/\fs[t]? =some (slot G t))) (hid:H[id]? =some ⟨e,ver,[.lp l (.loop r)]⟩)
  (h:PWr P ⟨us.length,H⟩ l r.assign ((p,x)::G) H (zn8 P ⟨us.length,H⟩ (zqq H H' id e ver l r) id e ver l r)):YldOk P (.yl l us fs) [x] H (.bool true) H':=by
 intro C q args w hw hy hargs;cases hy with
 | yl hl hR=>
 obtain⟨u,rfl⟩:∃ u,args=[u]:=by
  match args,hargs.1 with
  | [u],_=>exact⟨u,rfl⟩
 have hx:VRel C x u:=hargs.2 0 x u rfl rfl;obtain⟨m1,m2,m3,m4,m5⟩:=hw.lpAt hid rfl;refine⟨l,r.fn,r.tmps.setIfInBounds p u,r.assign,r.body,rfl,?_,?_⟩
 .rw[run_yield m4 (by rw[hps];rfl),hps];simp
 have hfr0:FRel C us.length (slot G) { tmps:=r.tmps,defers:=[] }:=by
  refine⟨by simp[hr1],λt=> ?_⟩;rcases hG t with h0|⟨h1,h2⟩
  .rw[h0];exact .undef _
  .have h3:t<fs.length:=(qB.1 h2).1;have e3:us[t]? =some (r.tmps.getD t Go.undef):=by simp_all
   grind
 have hfr:FRel C us.length (slot ((p,x)::G)) { tmps:=r.tmps.setIfInBounds p u,defers:=[] }:=by have:=hfr0.put (some p) (λt ht=>by cases ht;exact hp) hx;rw[<-zae]at this;exact this
 have lo:∀{e1:Exit} {F1:Fr} {H1:za},zn8 P ⟨us.length,H⟩ (zqq H H' id e ver l r) id e ver l r e1 F1 H1->e1= .normal:=fun{e1 _ _} hq=>by cases e1<;>first|rfl|exact hq.elim
 refine roundIn_of_wpIn trivial (wpIn_mono (h hw.hsc C _ w rfl hw hfr) ?_);rintro e1 a1 w1 ⟨C1,F1,H1,q1,q2,q3,q4,q5,q6⟩;cases lo q6;obtain⟨k1,k2⟩:=q6;obtain⟨n1,n2,n3,n4,n5⟩:=q3.lpAt k1 rfl;obtain⟨s1,s2⟩:=q3.lpSet k1 rfl (.loop { r with state:=.busy }) rfl;refine⟨_,run_beginRound n4 hr2,?_⟩;refine wpIn_mono (k2 hw.hsc C1 a1 _ q2 s1 q5) ?_;rintro e2 a2 w2 ⟨C2,F2,H2,t1,t2,t3,t4,t5,t6⟩;have:e2= .normal:=by cases e2<;>first|rfl|exact t6.elim
 subst this;obtain⟨j1,j2⟩:=t6;obtain⟨o1,o2,o3,o4,o5⟩:=t3.lpAt j1 rfl;have er:({ r with state:=(if(none:Option Code).isNone then LoopState.ready else .done),pending:=none }:Loop)=r:=by cases r;simp only at hr2 hr3;subst hr2;subst hr3;rfl
 obtain⟨v1,v2⟩:=t3.lpSet j1 rfl (.loop r) rfl;refine⟨.bool true,w2.putObj l (.loop r),?_,?_⟩
 .have:=run_endRound (P:=P) none o4;simp only[Option.isNone_none,if_true]at this |-;rw[this];have e4:({ state:=.ready,pending:=none,fn:=r.fn,tmps:=r.tmps,params:=r.params,assign:=r.assign,body:=r.body,defers:=r.defers }:Loop)=r:=by simp_all
  simp only[e4]
 have b1:C1.B=C.B:=q1.B;have b2:C2.B=C.B:=t1.B.trans b1;have hB:Below C.B w (w2.putObj l (.loop r)):=((q4.trans (by rw[<-b1];exact s2)).trans (by rw[<-b1];exact t4)).trans (by rw[<-b2];exact v2);have hle:CLe C C2:=(q1.trans t1).full hw.lenv;obtain⟨C3,g1,g2,g3⟩:=zt0 hw hle v1 hB (VRel.bool true) j2;exact⟨C3,_,g1,g2,hB,rfl,g3⟩
def PostM(E:Env)(C:Ctx)(w:World)(Q:Exit->List Deferred->Fr->za->Prop):Exit->Act->World->Prop:=λe a' w'=>∃ C' F' H',CLeN E.H0.length C C'/\WRel C' H' w'/\Below C.B w w'/\FRel C' E.N (slot F') a'/\Q e a'.defers F' H'
def PWM(P:Program)(E:Env)(c:Code)(D:List Deferred)(F:Fr)(H:za)(Q:Exit->List Deferred->Fr->za->Prop):Prop:=HSc E.H0->∀(C:Ctx) (a:Act) (w:World),a.defers=D->WRel C H w->FRel C E.N (slot F) a->c.wpIn Fence.wide 0 P (PostM E C w Q) a w
def zw4(K:List Deferred->Fr->za->Prop)(Q:Exit->List Deferred->Fr->za->Prop):Exit->List Deferred->Fr->za->Prop
 | .normal,D,F,H=>K D F H
 | e,D,F,H=>Q e D F H
def zsq(id:Nat)(Q:Exit->List Deferred->Fr->za->Prop):Exit->List Deferred->Fr->za->Prop
 | .exit id',D,F,H=>if id'=id then Q .normal D F H else Q (.exit id') D F H
 | e,D,F,H=>Q e D F H
section rules
variable {E:Env} {D:List Deferred} {Q:Exit->List Deferred->Fr->za->Prop}
theorem PostM.trans{C C1:Ctx}{w w1:World}(h1:CLeN E.H0.length C C1)(h2:Below C.B w w1){e:Exit}{a':Act}{w':World}(h:PostM E C1 w1 Q e a' w'):PostM E C w Q e a' w':=by obtain⟨C',F',H',q1,q3,q4,q5,q6⟩:=h;exact⟨C',F',H',h1.trans q1,q3,h2.trans (by rw[<-h1.B];exact q4),q5,q6⟩
theorem PWM.ret(h:Q .ret D F H):PWM P E .ret D F H Q:=λhs C a w hd hw hf=>wpIn_ret ⟨C,F,H,.refl _,hw,.refl _ _,hf,hd.symm▸h⟩
theorem PWM.seq{x y:Code}(h:PWM P E x D F H (zw4 (λD' F' H'=>PWM P E y D' F' H' Q) Q)):PWM P E (.seq x y) D F H Q:=λhs C a w hd hw hf=>by
 refine wpIn_seq (wpIn_mono (h hs C a w hd hw hf) ?_);rintro e a1 w1 ⟨C1,F1,H1,q1,q3,q4,q5,q6⟩;cases e with
 | normal=>exact wpIn_mono (q6 hs C1 a1 w1 rfl q3 q5) λ_ _ _ hp=>hp.trans q1 q4
 | _=>exact⟨C1,F1,H1,q1,q3,q4,q5,q6⟩
theorem PWM.block{id:Nat}{c:Code}(h:PWM P E c D F H (zsq id Q)):PWM P E (.block id c) D F H Q:=λhs C a w hd hw hf=>by
 refine wpIn_block (wpIn_mono (h hs C a w hd hw hf) ?_);rintro e a1 w1 ⟨C1,F1,H1,q1,q3,q4,q5,q6⟩;cases e with
 | exit id'=>
  simp only[zsq]at q6;simp only[Exit.inBlock];split
  .rename_i he;rw[if_pos he]at q6;exact⟨C1,F1,H1,q1,q3,q4,q5,q6⟩
  .rename_i he;rw[if_neg he]at q6;exact⟨C1,F1,H1,q1,q3,q4,q5,q6⟩
 | _=>exact⟨C1,F1,H1,q1,q3,q4,q5,q6⟩
theorem PWM.region{id:Nat}{ops:Array Oper}(hd:ops.toList.all (zU E.N)=true)(hnd:ops.toList.all zbQ=true)(h:zco P ops.toList ops.toList (λF' H'=>Q .normal D F' H') F H):PWM P E (.region id ops false) D F H Q:=λhs C a w hdf hw hf=>by refine zpl (rd:=none) ?_;have:=zpu (rd:=none) (P:=P) (all:=ops.toList) (rest:=[]) ops.toList F H hd hnd h C a w hdf hw hf (PostM E C w Q) (λC' F' H' a' w' p1 p2 p3 p4 p5 p6=>⟨C',F',H',p1.toN _,p3,p4,p5,p2.symm▸p6⟩);simp_all
theorem PWM.keep{c:Code}(ks:List Nat)(h:PWM P E c D (kp ks F) H Q):PWM P E c D F H Q:=λhs C a w hd hw hf=>h hs C a w hd hw (hf.keep ks)
def zim(fn:FuncId)(us:List Value)(ps:Array Tmp)(assign body:Code)(d:Nat):Loop:={ state:=.ready,pending:=none,fn,tmps:=us.toArray,params:=ps,assign,body,defers:=d }
def lpB(fn:FuncId)(us:List Value)(ps:Array Tmp)(assign body:Code)(d:Nat):za:=[⟨0,0,[.lp d (.deferred (some []))]⟩,⟨0,0,[.lp (d+1) (.loop (zim fn us ps assign body d))]⟩]
theorem PWM.range{g:Operand}{ps:Array Tmp}{assign body:Code}{f:FuncId}{first captured:List PV}(hg:ev (slot F) g= .func f first captured)
  (h:∀(fn:FuncId) (us:List Value) (d:Nat),us.length=E.N->∃ v K,CallOk P f (first++[.yl (d+1) us ((qT E.N).map (slot F))]++captured) (H++lpB fn us ps assign body d) v K/\
   K[H.length]? =some ⟨0,0,[.lp d (.deferred (some []))]⟩/\K[H.length+1]? =some ⟨0,0,[.lp (d+1) (.loop (zim fn us ps assign body d))]⟩/\
   ∀ o,Q .normal [{ target:=.collected d,args:= #[] }] F (K.set (H.length+1) ⟨0,0,[.lp (d+1) o]⟩)):
  PWM P E (.rangeFunc g ps assign body) [] F H Q:=λhs C a w hd hw hf=>by
 refine wpIn_rangeFunc λfn _=> ?_;obtain⟨v,K,hcall,k1,k2,hq⟩:=h fn a.tmps.toList w.heap.size (by simpa using hf.1);have hv:=zy hf g;rw[hg]at hv;obtain⟨us,ws,hl,hl',hR,hR',he⟩:∃ us ws,us.length=first.length/\ws.length=captured.length/\Rel C first us/\Rel C captured ws/\a.eval g= .func (.func f) us.toArray ws.toArray:=by
  generalize a.eval g=q at hv;cases hv with
  | func hl hl' hR hR'=>exact⟨_,_,hl,hl',hR,hR',rfl⟩
 have er:zim fn a.tmps.toList ps assign body w.heap.size={ state:=.ready,pending:=none,fn,tmps:=a.tmps,params:=ps,assign,body,defers:=w.heap.size }:=by simp[zim]
 obtain⟨a1,a2,a3⟩:=hw.lpAlloc 0 0 (.deferred (some [])) rfl;obtain⟨C2,hle,b2,t1⟩:∃ C2,CLe C C2/\WRel C2 (H++lpB fn a.tmps.toList ps assign body w.heap.size) ((w.alloc (.deferred (some []))).alloc (.loop (zim fn a.tmps.toList ps assign body w.heap.size)))/\Below C.B w ((w.alloc (.deferred (some []))).alloc (.loop (zim fn a.tmps.toList ps assign body w.heap.size))):=by obtain⟨b1,b2,b3⟩:=a2.lpAlloc 0 0 (.loop (zim fn a.tmps.toList ps assign body w.heap.size)) rfl;rw[World.size_alloc]at b1 b2;rw[List.append_assoc]at b2;exact⟨_,a1.trans b1,b2,a3.trans b3⟩
 have hent:=run_enterLoop_outer (P:=P) (w:=w) fn a.tmps ps assign body;rw[<-er]at hent;generalize (w.alloc (.deferred (some []))).alloc (.loop (zim fn a.tmps.toList ps assign body w.heap.size))=W at *;refine⟨w.heap.size+1,[{ target:=.collected w.heap.size,args:= #[] }],W,{ target:=.fn (.func f) ws.toArray,args:=us.toArray++ #[Value.func (.yield (w.heap.size+1)) #[] #[]] },W,f,(us++[Value.func (.yield (w.heap.size+1)) #[] #[]]++ws).toArray,W,hent,?_,λ_ _=>trivial,?_,zfF,?_⟩
 .simp only[resolve,he,Deferred.ofValue,Sem.run_bind,Sem.run_pure,Result.andThen_ok];simp[Act.eval]
 .simp only[invoke];rw[show us.toArray++ #[Value.func (.yield (w.heap.size+1)) #[] #[]]++ws.toArray=(us++[Value.func (.yield (w.heap.size+1)) #[] #[]]++ws).toArray by apply Array.ext';simp];exact zdj hcall.1
 refine callsIn_wide.2 ?_;have hyl:VRel C (.yl (w.heap.size+1) a.tmps.toList ((qT E.N).map (slot F))) (.func (.yield (w.heap.size+1)) #[] #[]):=by
  refine .yl (by simpa using hf.1) λj x u hx hu=> ?_;have hj:j<E.N:=by grind
  have e1:x=slot F j:=by simp_all
  have e2:u=a.tmps.getD j Go.undef:=by simp_all
  rw[e1,e2];exact hf.2 j
 have hargs:VRels C2 (first++[.yl (w.heap.size+1) a.tmps.toList ((qT E.N).map (slot F))]++captured) (us++[Value.func (.yield (w.heap.size+1)) #[] #[]]++ws):=by
  refine⟨by simp[hl,hl'],?_⟩;have r1:Rel C2 first us:=λj x u hx hu=>(hR j x u hx hu).mono hle
  have r2:Rel C2 captured ws:=λj x u hx hu=>(hR' j x u hx hu).mono hle;have r3:Rel C2 [.yl (w.heap.size+1) a.tmps.toList ((qT E.N).map (slot F))] [Value.func (.yield (w.heap.size+1)) #[] #[]]:=λj x u hx hu=>by
   cases j with
   | zero=>cases hx;cases hu;exact hyl.mono hle
   | succ j=>simp at hx
  exact Rel.append (by simp[hl]) (Rel.append hl r1 r3) r2
 refine(hcall.2 C2 _ _ b2 hargs).mono ?_;rintro e w3 ⟨C3,u,q1,q2,q3,rfl,q5⟩;obtain⟨n1,n2,n3,n4,n5⟩:=q2.lpAt k2 rfl;obtain⟨s1,s2⟩:=q2.lpSet k2 rfl (.loop { zim fn a.tmps.toList ps assign body w.heap.size with state:=.exhausted }) rfl;refine⟨none,_,run_endLoop n4 (by simp[zim]),?_⟩;have hB2:C2.B=C.B:=hle.B;have hB3:C3.B=C.B:=q1.B.trans hB2;refine⟨C3,F,_,(hle.trans q1).toN _,s1,?_,(hf.mono (hle.trans q1)),?_⟩
 .exact(t1.trans (by rw[<-hB2];exact q3)).trans (by rw[<-hB3];exact s2)
 .rw[show({ tmps:=a.tmps,defers:=[{ target:=.collected w.heap.size,args:= #[] }]++a.defers }:Act).defers=[{ target:=.collected w.heap.size,args:= #[] }] by simp[hd]];exact hq _
end rules
end Go.Proofs.YtdajpjenhcobkaaGreatDoor.Pm
namespace Go.Proofs.YtdajpjenhcobkaaGreatDoor.Pm
open Go.ChangeShapes Go.WideShapes Go.ChangeAt Go.RowKit
variable {P:Program} {W:World}
theorem zkD{t e:TypeId}{n fuel:Nat}{k:IntKind}{cs:List Value}{z:List Int}{p:List MemPlace}(ht:P.underlying t=some (.array n e))(he:P.underlying e=some (.int k))(hc:P.cellsOf e=1)
  (h:DataW.trod (λ_=>()) P W 0 (λ_=>true) false fuel t cs=some (.agg (z.map λx=>.lit (.int k x)),p)):∀(j:Nat) (x:Int),z[j]? =some x->cs[j]? =some (.int k x):=by
 obtain⟨xs,m,rfl,hx,hlen,hn,hel⟩:=DataW.trod_array ht h;intro j x hj;simp only[Prod.mk.injEq,DataW.agg.injEq]at hx;have hx1:=congrArg (λl=>l[j]?) hx.1;simp only[qL,hj,Option.map_some]at hx1;cases hy:xs[j]? with
 | none=>rw[hy]at hx1;cases hx1
 | some y=>
  rw[hy]at hx1;simp only[Option.map_some,qF.injEq]at hx1;have hjn:j<n:=by rw[<-hn];exact(qB.1 hy).1
  have hd:=hel j hjn;rw[hy,hc,Nat.mul_one]at hd;obtain⟨r,e1,e2,_⟩:=DataW.trod_int he hd;rw[e2]at hx1;simp only[DataW.lit.injEq,Lit.int.injEq,true_and]at hx1;subst hx1;have:=congrArg (λl=>l[0]?) e1;simpa using this
theorem zfi:∀{l:List (String×DataW Unit)} {ps:List MemPlace},DataW.LaidVars P W l ps->∀ x∈l,∃ g t cs fuel p,P.globalNamed x.1=some g/\(P.globals[g]?).map (·.type)=some t/\W.var? P x.1=some cs/\DataW.trod (λ_=>()) P W 0 (λ_=>true) false fuel t cs.toList=some (x.2,p)
 | [],_,_,x,hx=>by cases hx
 | (n,d)::r,ps,h,x,hx=>by
  obtain⟨g,t,cs,fuel,p,q,h1,h2,h3,h4,h5,_⟩:=h;rcases qX.1 hx with rfl|hx
  .exact⟨g,t,cs,fuel,p,h1,h2,h3,h4⟩
  .exact zfi h5 x hx
theorem zlp{l:List (String×DataW Unit)}{nm:String}{g n:Nat}{t e:TypeId}{k:IntKind}{z:List Int}(h:laidMet P l W)(hm:(nm,DataW.agg (z.map λx=>.lit (.int k x)))∈l)(hg:P.globalNamed nm=some g)(ht:(P.globals[g]?).map (·.type)=some t)
  (hu:P.underlying t=some (.array n e)) (he:P.underlying e=some (.int k)) (hc:P.cellsOf e=1):∀(j:Nat) (x:Int),z[j]? =some x->(Ctx.start W).M g j=some (.int k x):=λj x hj=>by
 obtain⟨ps,hv,_⟩:=h;obtain⟨g',t',cs,fuel,p,h1,h2,h3,h4⟩:=zfi hv _ hm;obtain rfl:=qF.inj (hg.symm.trans h1);obtain rfl:=qF.inj (ht.symm.trans h2);have h5:=zkD hu he hc h4 j x hj;show W.cell? ⟨g,j,none⟩=_;rw[World.var?_cell hg h3 j,<-h5];simp
theorem ztQ{l:List (String×DataW Unit)}(h:laidMetH Tryz.prog l W)(hl:(l.all λx=>x.2.handleName?.isNone)=true)
  (h1 : ("cutroom/quant.alternateScan", Rows.laid_cutroom_quant_alternateScan) ∈ l)
  (h2 : ("cutroom/quant.defaultIntra", Rows.laid_cutroom_quant_defaultIntra) ∈ l)
  :Glob (Ctx.start W).M:=by
 rw[MakeChecks.laidMetH_plain _ _ _ hl]at h;intro g l hg;unfold zwn at hg;split at hg
 .rename_i e;subst e;obtain rfl:=qF.inj hg;intro j x hj;unfold zxG at hj;rw[qL,qE]at hj;obtain⟨y,hy,rfl⟩:=hj;exact zlp (t:=106) h (k:=.i64) h1 kr kr Tryz.underlying106 Tryz.underlying3 kr j y hy
 split at hg
 .rename_i e;subst e;obtain rfl:=qF.inj hg;intro j x hj;unfold zrM at hj;rw[qL,qE]at hj;obtain⟨y,hy,rfl⟩:=hj;exact zlp (t:=24) h (k:=.u8) h2 kr kr Tryz.underlying24 Tryz.underlying5 kr j y hy
 cases hg
end Go.Proofs.YtdajpjenhcobkaaGreatDoor.Pm
