/-
  Parts of the proof. No condition.
-/
import Derived.Test.YtleejngibkbjnaaGreatDoorW02
import Derived.ProofKit
import Derived.OpenShut
import Derived.ChangeOld
import Derived.Carry
import Derived.Orders
import Derived.Test.YtleejngibkbjnaaGreatDoorRows
import Derived.LaidMore
import Derived.MakeChecks
import Derived.LaidHandle
import Derived.FnData
open Array renaming replicate → qF
open List renaming range → qD, filter_eq_self → qG
open Option renaming some → qA, map_eq_some_iff → qB
open Prod renaming mk → qE
set_option linter.all false
set_option maxRecDepth 100000
set_option maxHeartbeats 32000000
namespace Go.Proofs.YtleejngibkbjnaaGreatDoor.Pm
open Go.RowKit
variable {P:Program} {C:Ctx} {H:za} {w:World} {F:Fr} {a:Act} {N:Nat}
def Ctx.cut(C:Ctx)(n:Nat)(M:Nat->Nat->Option Value):Ctx:={ B:=C.B,top:=C.top,M:=M,mu:=C.mu.take n,vs:=C.vs.take n,cp:=C.cp.take n }
theorem VRel.cut{n:Nat}{M:Nat->Nat->Option Value}(hM:∀ b o u,C.M b o=some u->M b o=some u){x:PV}{u:Value}(h:VRel C x u)(hs:Scoped n x):VRel (C.cut n M) x u:=by
 have tk:∀{α:Type} {l:List α} {id:Nat} {v:α},id<n->l[id]? =some v->(l.take n)[id]? =some v:=λhid h=>by simp_all
 induction h with
 | nl k=>exact .nl k
 | yl hl _ ih=>cases hs with|yl h=>exact .yl hl (λj x u hx hu=>ih j x u hx hu (h j x hx))
 | int k n=>exact .int k n
 | bool b=>exact .bool b
 | str s=>exact .str _
 | nilp=>exact .nilp
 | ptr hm hv=>cases hs with|ptr hid=>exact .ptr (tk hid hm) (tk hid hv)
 | ptrS v h1 hv hlt=>cases hs with|ptr hid=>exact .ptrS v h1 (tk hid hv) hlt
 | ip hl hM' hc _ ih=>cases hs with|ip h=>exact .ip hl (λj u hu=>hM _ _ _ (hM' j u hu)) hc (λj x u hx hu=>ih j x u hx hu (h j x hx))
 | slice hl hM' hc _ hcap hmax hf ih=>cases hs with|slice h=>exact .slice hl (λj u hu=>hM _ _ _ (hM' j u hu)) hc (λj x u hx hu=>ih j x u hx hu (h j x hx)) hcap hmax hf
 | sliceN ad full=>exact .sliceN ad full
 | msl hm hv hcap hmax hg=>cases hs with|msl hid=>exact .msl (tk hid hm) (tk hid hv) hcap hmax (λhgt=>⟨(hg hgt).1,tk hid (hg hgt).2⟩)
 | mslE hm hv hmax=>cases hs with|msl hid=>exact .mslE (tk hid hm) (tk hid hv) hmax
 | mslG ad hm hv=>cases hs with|msl hid=>exact .mslG ad ⟨tk hid hm.1,tk hid hm.2⟩ (tk hid hv)
 | mslS v h1 hv hlt=>cases hs with|msl hid=>exact .mslS v h1 (tk hid hv) hlt
 | mp hm hv hb=>cases hs with|mp hid=>exact .mp (tk hid hm) (tk hid hv) (tk hid hb)
 | mpS v h1 hv hlt=>cases hs with|mp hid=>exact .mpS v h1 (tk hid hv) hlt
 | agg hl hc _ ih=>cases hs with|agg h=>exact .agg hl hc (λj x u hx hu=>ih j x u hx hu (h j x hx))
 | tup hl _ ih=>cases hs with|tup h=>exact .tup hl (λj x u hx hu=>ih j x u hx hu (h j x hx))
 | func hl hl' _ _ ih ih'=>cases hs with|func h h'=>exact .func hl hl' (λj x u hx hu=>ih j x u hx hu (h j x hx)) (λj x u hx hu=>ih' j x u hx hu (h' j x hx))
 | undef v=>exact .undef v
def frz(n:Nat)(H:za):Nat->PV->Option PV
 | 0,_=>none
 | _+1,.int k m=>some (.int k m)
 | _+1,.bool b=>some (.bool b)
 | _+1,.str s=>some (.str s)
 | _+1,.nilp=>some .nilp
 | _+1,.nl k=>some (.nl k)
 | _+1,.yl _ _ _=>none
 | _+1,.lp _ _=>none
 | _+1,.undef=>some .undef
 | _+1,.ptr id ver off=>if id<n then some (.ptr id ver off)else none
 | _+1,.mp id ver=>if id<n then some (.mp id ver)else none
 | d+1,.ip xs off=>(xs.mapM (frz n H d)).map λys=>.ip ys off
 | d+1,.slice xs len _=>(xs.mapM (frz n H d)).map λys=>.slice ys len false
 | d+1,.msl id ver off len sz g=>if id<n then some (.msl id ver off len sz g)else match H[id]? with
  | some k=>if k.ver=ver/\off+len * sz<=k.cells.length then(((k.cells.drop off).take (len * sz)).mapM (frz n H d)).map λys=>.slice ys len false else none
  | none=>none
 | d+1,.agg cs=>(cs.mapM (frz n H d)).map .agg
 | d+1,.tup vs=>(vs.mapM (frz n H d)).map .tup
 | d+1,.func f fs cs=>match fs.mapM (frz n H d),cs.mapM (frz n H d)with|some fs',some cs'=>some (.func f fs' cs')|_,_=>none
theorem ziB{f:PV->Option PV}:∀{xs ys:List PV},xs.mapM f=some ys->ys.length=xs.length/\∀(j:Nat) (y:PV),ys[j]? =some y->∃ x,xs[j]? =some x/\f x=some y
 | [],ys,h=>by simp at h;subst h;exact⟨rfl,λj y hy=>by simp at hy⟩
 | x::xs,ys,h=>by simp only[uR,uD,uN,wJ,qA.injEq]at h;obtain⟨y,hy,ys',hys,rfl⟩:=h;obtain⟨hl,hg⟩:=ziB hys;grind
theorem ztD{n d:Nat}{x y:PV}(h:frz n H d x=some y)(hc:x.cell=true):y.cell=true:=by
 cases d with
 | zero=>simp[frz]at h
 | succ d=>cases x<;>simp only[frz]at h;all_goals grind[PV.cell,qB]
def Ctx.given(C:Ctx)(n:Nat)(w:World):Nat->Nat->Option Value:=λb o=>if(C.mu.drop n).contains (some b)then w.cell? ⟨b,o,none⟩else C.M b o
theorem zfY(hw:WRel C H w)(n b o:Nat)(u:Value)(h:C.M b o=some u):C.given n w b o=some u:=by
 unfold Ctx.given;split
 .exact hw.imm _ _ _ h
 .exact h
theorem zgE(hw:WRel C H w)(n:Nat):∀(d:Nat) (x y:PV) (u:Value),VRel C x u->frz n H d x=some y->VRel (C.cut n (C.given n w)) y u
 | 0,x,y,u,_,h=>by simp[frz]at h
 | d+1,x,y,u,hv,h=>by
  have hg:=λb o u=>zfY (C:=C) hw n b o u;have lst:∀{xs ys:List PV} {us:List Value},us.length=xs.length->Rel C xs us->xs.mapM (frz n H d)=some ys->us.length=ys.length/\Rel (C.cut n (C.given n w)) ys us:=λhl hR hm=>by obtain⟨h1,h2⟩:=ziB hm;refine⟨om,λj y u hy hu=> ?_⟩;obtain⟨x,hx,hf⟩:=h2 j y hy;exact zgE hw n d x y u (hR j x u hx hu) hf
  have cls:∀{xs ys:List PV},(∀ x∈xs,x.cell=true)->xs.mapM (frz n H d)=some ys->∀ y∈ys,y.cell=true:=λhc hm y hy=>by obtain⟨h1,h2⟩:=ziB hm;obtain⟨j,hj,rfl⟩:=dI hy;obtain⟨x,hx,hf⟩:=h2 j _ (gG hj);grind[ztD,List.mem_of_getElem?]
  cases x with
  | int k m=>simp only[frz,qA.injEq]at h;subst h;exact hv.cut hg (.int _ _)
  | bool b=>simp only[frz,qA.injEq]at h;subst h;exact hv.cut hg (.bool _)
  | str s=>simp only[frz,qA.injEq]at h;subst h;exact hv.cut hg (.str _)
  | nilp=>simp only[frz,qA.injEq]at h;subst h;exact hv.cut hg .nilp
  | nl k=>simp only[frz,qA.injEq]at h;subst h;exact hv.cut hg (.nl k)
  | yl l us fs=>simp[frz]at h
  | lp l r=>simp[frz]at h
  | undef=>simp only[frz,qA.injEq]at h;subst h;exact .undef _
  | ptr id ver off=>
   simp only[frz]at h;split at h
   .rename_i hid;injection h with h;subst h;exact hv.cut hg (.ptr hid)
   .cases h
  | mp id ver=>
   simp only[frz]at h;split at h
   .rename_i hid;injection h with h;subst h;exact hv.cut hg (.mp hid)
   .cases h
  | ip xs off=>
   simp only[frz,gO]at h;obtain⟨ys,hm,rfl⟩:=h;cases hv with
   | ip hl hM hc hR=>
    obtain⟨l1,l2⟩:=lst hl hR hm;exact .ip l1 (λj u hu=>hg _ _ _ (hM j u hu)) (cls hc hm) l2
  | slice xs len full=>
   simp only[frz,gO]at h;obtain⟨ys,hm,rfl⟩:=h;cases hv with
   | slice hl hM hc hR hcap hmax hf=>
    obtain⟨l1,l2⟩:=lst hl hR hm;exact .slice l1 (λj u hu=>hg _ _ _ (hM j u hu)) (cls hc hm) l2 hcap hmax (λhft=>by cases hft)
   | sliceN=>
    simp at hm;subst hm;exact .sliceN _ _
  | agg cs=>
   simp only[frz,gO]at h;obtain⟨ys,hm,rfl⟩:=h;cases hv with
   | agg hl hc hR=>
    obtain⟨l1,l2⟩:=lst hl hR hm;exact .agg l1 (cls hc hm) l2
  | tup vs=>
   simp only[frz,gO]at h;obtain⟨ys,hm,rfl⟩:=h;cases hv with
   | tup hl hR=>
    obtain⟨l1,l2⟩:=lst hl hR hm;exact .tup l1 l2
  | func f fs cs=>
   simp only[frz]at h;split at h
   .rename_i fs' cs' h1 h2;injection h with h;subst h;cases hv with
    | func hl hl' hR hR'=>obtain⟨l1,l2⟩:=lst hl hR h1;obtain⟨l3,l4⟩:=lst hl' hR' h2;exact .func l1 l3 l2 l4
   .cases h
  | msl id ver off len sz g=>
   simp only[frz]at h;split at h
   .rename_i hid;injection h with h;subst h;exact hv.cut hg (.msl hid)
   .rename_i hid;split at h
    .rename_i k hk;split at h
     .rename_i hq;simp only[gO]at h;obtain⟨ys,hm,rfl⟩:=h;have q2:=hw.ver id k hk;rw[hq.1]at q2;obtain⟨b,cap,off',q1,rfl,hc1,hc2,ho,_⟩|⟨ad,hgh,h0,rfl⟩:=zbC hw hv q2;rotate_left
      .subst h0;simp at hm;subst hm;exact .sliceN _ _
      obtain⟨cur,q3,q5,q6,q7,q8,q9,q10⟩:=hw.blk hk q1;have hmem:(C.mu.drop n).contains (some b)=true:=by rw[rI];refine uE (i:=id - n) ?_;simp_all
      have hlen:(((cur.toList.take k.cells.length).drop off).take (len * sz)).length=((k.cells.drop off).take (len * sz)).length:=by simp;omega
      obtain⟨l1,l2⟩:=lst hlen ((q9.drop off).take (len * sz)) hm;refine .slice l1 (λj u hu=> ?_) (cls (λx hx=>q6 x (wL (vI hx))) hm) l2 hc1 hc2 (λhf=>by cases hf);show C.given n w b (off'+j)=some u;unfold Ctx.given;rw[gD hmem];rcases vS len with h0|h0
      .simp_all
      .obtain rfl:=ho h0;have:=((q8.drop off').take (len * sz)) j u hu;simp_all
     .cases h
    .cases h
theorem WRel.giveN{K:za}(h0:HSc H)(hw:WRel C (H++K) w):CLeN H.length C (C.cut H.length (C.given H.length w))/\WRel (C.cut H.length (C.given H.length w)) H w:=by
 have hg:=λb o u=>zfY (C:=C) hw H.length b o u;have e1:=hw.len;have e2:=hw.lenv;have e3:=hw.lenc;simp only[gP]at e1 e2 e3;have tk:∀{α:Type} {l:List α} {id:Nat},id<H.length->(l.take H.length)[id]? =l[id]? :=λhid=>by simp_all
 have tk':∀{α:Type} {l:List α} {id:Nat} {v:α},(l.take H.length)[id]? =some v->id<H.length/\l[id]? =some v:=λh=>by grind
 refine⟨⟨rfl,λb o u hu=>hg _ _ _ hu,rfl,λb o u hu=> ?_,λb hb=>.inl (vI hb),λid ver hid hv=> ?_⟩,?_⟩
 .simp only[Ctx.cut,Ctx.given]at hu;grind
 .exact⟨ver,by simp only[Ctx.cut];rw[tk hid];exact hv,gV _,λ_=>⟨by simp only[Ctx.cut];rw[tk hid],by simp only[Ctx.cut];rw[tk hid]⟩⟩
 .refine⟨hw.gl.mono (λb o u hu=>hg b o u hu),hw.base,hw.tople,λb o u hu=> ?_,?_,?_,?_,?_,?_,?_,?_,?_,λi j b mi mj ci cj=>hw.minj i j b (tk' mi).2 (tk' mj).2 (tk' ci).2 (tk' cj).2⟩
  .simp only[Ctx.cut,Ctx.given]at hu;split at hu
   .exact hu
   .exact hw.imm _ _ _ hu
  .simp only[Ctx.cut,wA];omega
  .simp only[Ctx.cut,wA];omega
  .simp only[Ctx.cut,wA];omega
  .intro id k hk;have hid:id<H.length:=(gA.1 hk).1;simp only[Ctx.cut];rw[tk hid];exact hw.ver id k (by rw[gK hid];exact hk)
  .intro id k hk hm;have hid:id<H.length:=(gA.1 hk).1;simp only[Ctx.cut]at hm |-;rw[tk hid]at hm |-;refine(hw.gho id k (by rw[gK hid];exact hk) hm).imp_right ?_;rintro(⟨b,es,clock,q1,q2,q3,q4,q5⟩|⟨b,r,q1,q2,q3,q4⟩)
   .exact .inl ⟨b,es,clock,q1,q2,q3,q4,λj x e hx he=>(q5 j x e hx he).cut hg (h0 id k hk x (uE hx))⟩
   .exact .inr ⟨b,r,q1,q2,q3,q4⟩
  .intro id k b hk hm;have hid:id<H.length:=(gA.1 hk).1;obtain⟨cur,q3,q4,q5,q6,q7,q8⟩:=hw.own id k b (by rw[gK hid];exact hk) (by simp only[Ctx.cut]at hm;rw[tk hid]at hm;exact hm);refine⟨cur,by simp only[Ctx.cut];rw[tk hid];exact q3,q4,q5,q6,q7,λj x u hx hu=> ?_⟩;exact(q8 j x u hx hu).cut hg (h0 id k hk x (uE hx))
  .intro id b hb o;obtain⟨hid,hb⟩:=tk' hb;simp only[Ctx.cut,Ctx.given];rw[gC ?_]
   .exact hw.disj id b hb o
   .rw[rI];intro hmem;obtain⟨j,hj⟩:=mX.1 hmem;rw[wI]at hj;have:=hw.inj _ _ _ hb hj;omega
  .intro i j b hi hj;exact hw.inj i j b (tk' hi).2 (tk' hj).2
theorem WRel.give{K:za}{C0:Ctx}{w0:World}(h0:WRel C0 H w0)(hle:CLe C0 C)(hw:WRel C (H++K) w):CLe C0 (C.cut H.length (C.given H.length w))/\WRel (C.cut H.length (C.given H.length w)) H w:=by obtain⟨g1,g2⟩:=WRel.giveN h0.hsc hw;exact⟨((hle.toN _).trans g1).full h0.lenv,g2⟩
inductive Fz(n:Nat)(H:za):PV->PV->Prop where
 | id {x:PV} (h:Scoped n x):Fz n H x x
 | slice {xs ys:List PV} {len:Nat} {full full':Bool} (hl:ys.length=xs.length) (h:∀(j:Nat) (x y:PV),xs[j]? =some x->ys[j]? =some y->Fz n H x y) (hf:full'=true->full=true):Fz n H (.slice xs len full) (.slice ys len full')
 | ip {xs ys:List PV} {off:Nat} (hl:ys.length=xs.length) (h:∀(j:Nat) (x y:PV),xs[j]? =some x->ys[j]? =some y->Fz n H x y):Fz n H (.ip xs off) (.ip ys off)
 | msl {id ver off len sz:Nat} {g:Bool} {k:Blk} {ys:List PV} (hn:n<=id) (hk:H[id]? =some k) (hv:k.ver=ver) (ho:off+len * sz<=k.cells.length)
   (hl:ys.length=((k.cells.drop off).take (len * sz)).length) (h:∀(j:Nat) (x y:PV),((k.cells.drop off).take (len * sz))[j]? =some x->ys[j]? =some y->Fz n H x y):Fz n H (.msl id ver off len sz g) (.slice ys len false)
 | ptr {id ver off:Nat} {k:Blk} {ys:List PV} (hn:n<=id) (hk:H[id]? =some k) (hv:k.ver=ver)
   (hl:ys.length=k.cells.length) (h:∀(j:Nat) (x y:PV),k.cells[j]? =some x->ys[j]? =some y->Fz n H x y):Fz n H (.ptr id ver off) (.ip ys off)
 | agg {xs ys:List PV} (hl:ys.length=xs.length) (h:∀(j:Nat) (x y:PV),xs[j]? =some x->ys[j]? =some y->Fz n H x y):Fz n H (.agg xs) (.agg ys)
 | tup {xs ys:List PV} (hl:ys.length=xs.length) (h:∀(j:Nat) (x y:PV),xs[j]? =some x->ys[j]? =some y->Fz n H x y):Fz n H (.tup xs) (.tup ys)
 | func {f:FuncId} {xs ys us vs:List PV} (hl:ys.length=xs.length) (h:∀(j:Nat) (x y:PV),xs[j]? =some x->ys[j]? =some y->Fz n H x y)
   (hl':vs.length=us.length) (h':∀(j:Nat) (x y:PV),us[j]? =some x->vs[j]? =some y->Fz n H x y):Fz n H (.func f xs us) (.func f ys vs)
theorem Fz.cell{n:Nat}{x y:PV}(h:Fz n H x y)(hc:x.cell=true):y.cell=true:=by cases h<;>first|exact hc|rfl|(simp[PV.cell]at hc;done)
theorem Fz.cells{n:Nat}{xs ys:List PV}(hl:ys.length=xs.length)(h:∀(j:Nat) (x y:PV),xs[j]? =some x->ys[j]? =some y->Fz n H x y)(hc:∀ x∈xs,x.cell=true):∀ y∈ys,y.cell=true:=λy hy=>by obtain⟨j,hj,rfl⟩:=dI hy;exact(h j _ _ (gG om) (gG hj)).cell (hc _ (uY _))
theorem Fz.rels{D:Ctx}{xs ys:List PV}{us:List Value}(hl:ys.length=xs.length)(hul:us.length=xs.length)(hR:Rel C xs us)(ih:∀(j:Nat) (x y:PV),xs[j]? =some x->ys[j]? =some y->∀{u:Value},VRel C x u->VRel D y u):us.length=ys.length/\Rel D ys us:=
 ⟨om,λj y u hy hu=>by
  have hj:j<xs.length:=by have:=(gA.1 hy).1;omega
  exact ih j xs[j] y (gG hj) hy (hR j _ u (gG hj) hu)⟩
theorem Fz.sound{n:Nat}(hw:WRel C H w){x y:PV}(h:Fz n H x y):∀{u:Value},VRel C x u->VRel (C.cut n (C.given n w)) y u:=by
 have hg:=λb o u=>zfY (C:=C) hw n b o u;have mem:∀{id b:Nat},n<=id->C.mu[id]? =some (some b)->(C.mu.drop n).contains (some b)=true:=fun{id b} hn q1=>by rw[rI];refine uE (i:=id - n) ?_;simp_all
 induction h with
 | id hs=>intro u hv;exact hv.cut hg hs
 | slice hl h hf ih=>
  intro u hv;cases hv with
  | slice hul hM hc hR hcap hmax hfu=>
   obtain⟨l1,l2⟩:=Fz.rels hl hul hR ih;exact .slice l1 (λj u hu=>hg _ _ _ (hM j u hu)) (Fz.cells hl h hc) l2 hcap hmax (λe=>hfu (hf e))
  | sliceN=>
   have e:=uU hl;subst e;exact .sliceN _ _
 | ip hl h ih=>
  intro u hv;cases hv with
  | ip hul hM hc hR=>
   obtain⟨l1,l2⟩:=Fz.rels hl hul hR ih;exact .ip l1 (λj u hu=>hg _ _ _ (hM j u hu)) (Fz.cells hl h hc) l2
 | @msl id ver off len sz g k ys hn hk hv' ho hl h ih=>
  intro u hv;have q2:=hw.ver id k hk;rw[hv']at q2;obtain⟨b,cap,off',q1,rfl,hc1,hc2,ho',_⟩|⟨ad,hgh,h0,rfl⟩:=zbC hw hv q2
  .obtain⟨cur,q3,q5,q6,q7,q8,q9,q10⟩:=hw.blk hk q1;have hlen:(((cur.toList.take k.cells.length).drop off).take (len * sz)).length=((k.cells.drop off).take (len * sz)).length:=by simp;omega
   obtain⟨l1,l2⟩:=Fz.rels hl hlen ((q9.drop off).take (len * sz)) ih;refine .slice l1 (λj u hu=> ?_) (Fz.cells hl h (λx hx=>q6 x (wL (vI hx)))) l2 hc1 hc2 (λhf=>by cases hf);show C.given n w b (off'+j)=some u;unfold Ctx.given;rw[gD (mem hn q1)];rcases vS len with h0|h0
   .simp_all
   .obtain rfl:=ho' h0;have:=((q8.drop off').take (len * sz)) j u hu;simp_all
  .subst h0;have e:ys=[]:=uU (by rw[hl];simp);subst e;exact .sliceN _ _
 | @ptr id ver off k ys hn hk hv' hl h ih=>
  intro u hv;have q2:=hw.ver id k hk;rw[hv']at q2;obtain⟨b,q1,rfl⟩:=zbW hw hv q2;obtain⟨cur,q3,q5,q6,q7,q8,q9,q10⟩:=hw.blk hk q1;obtain⟨l1,l2⟩:=Fz.rels hl q10 q9 ih;have:=VRel.ip (C:=C.cut n (C.given n w)) (off:=off) (b:=b) (o:=0) l1 (λj u hu=>by
   show C.given n w b (0+j)=some u;unfold Ctx.given;rw[gD (mem hn q1)];exact q8 j u hu) (Fz.cells hl h q6) l2
  simp_all
 | agg hl h ih=>
  intro u hv;cases hv with
  | agg hul hc hR=>
   obtain⟨l1,l2⟩:=Fz.rels hl hul hR ih;exact .agg l1 (Fz.cells hl h hc) l2
 | tup hl h ih=>
  intro u hv;cases hv with
  | tup hul hR=>
   obtain⟨l1,l2⟩:=Fz.rels hl hul hR ih;exact .tup l1 l2
 | func hl h hl' h' ih ih'=>
  intro u hv;cases hv with
  | func hul hul' hR hR'=>obtain⟨l1,l2⟩:=Fz.rels hl hul hR ih;obtain⟨l3,l4⟩:=Fz.rels hl' hul' hR' ih';exact .func l1 l3 l2 l4
def CutH(H H1:za):Prop:=H1.length<=H.length/\∀(j:Nat) (k1:Blk),H1[j]? =some k1->∃ k,H[j]? =some k/\k1.e=k.e/\k1.ver=k.ver/\k1.cells.length=k.cells.length/\∀(i:Nat) (x y:PV),k.cells[i]? =some x->k1.cells[i]? =some y->Fz H1.length H x y
theorem WRel.cutN{H1:za}(hw:WRel C H w)(hH:CutH H H1):CLeN H1.length C (C.cut H1.length (C.given H1.length w))/\WRel (C.cut H1.length (C.given H1.length w)) H1 w:=by
 have hg:=λb o u=>zfY (C:=C) hw H1.length b o u;have hle:=hH.1;have e1:=hw.len;have e2:=hw.lenv;have e3:=hw.lenc;have tk:∀{α:Type} {l:List α} {id:Nat},id<H1.length->(l.take H1.length)[id]? =l[id]? :=λhid=>by simp_all
 have tk':∀{α:Type} {l:List α} {id:Nat} {v:α},(l.take H1.length)[id]? =some v->id<H1.length/\l[id]? =some v:=λh=>by grind
 refine⟨⟨rfl,λb o u hu=>hg _ _ _ hu,rfl,λb o u hu=> ?_,λb hb=>.inl (vI hb),λid ver hid hv=> ?_⟩,?_⟩
 .simp only[Ctx.cut,Ctx.given]at hu;grind
 .exact⟨ver,by simp only[Ctx.cut];rw[tk hid];exact hv,gV _,λ_=>⟨by simp only[Ctx.cut];rw[tk hid],by simp only[Ctx.cut];rw[tk hid]⟩⟩
 .refine⟨hw.gl.mono (λb o u hu=>hg b o u hu),hw.base,hw.tople,λb o u hu=> ?_,?_,?_,?_,?_,?_,?_,?_,?_,λi j b mi mj ci cj=>hw.minj i j b (tk' mi).2 (tk' mj).2 (tk' ci).2 (tk' cj).2⟩
  .simp only[Ctx.cut,Ctx.given]at hu;split at hu
   .exact hu
   .exact hw.imm _ _ _ hu
  .simp only[Ctx.cut,wA];omega
  .simp only[Ctx.cut,wA];omega
  .simp only[Ctx.cut,wA];omega
  .intro id k1 hk1;have hid:id<H1.length:=(gA.1 hk1).1;obtain⟨k,hk,he,hv,_,_⟩:=hH.2 id k1 hk1;simp only[Ctx.cut];rw[tk hid,hv];exact hw.ver id k hk
  .intro id k1 hk1 hm;have hid:id<H1.length:=(gA.1 hk1).1;obtain⟨k,hk,he,hv,hl,hfz⟩:=hH.2 id k1 hk1;simp only[Ctx.cut]at hm |-;rw[tk hid]at hm |-;rcases hw.gho id k hk hm with⟨g1,g2⟩|⟨b,es,clock,q1,q2,q3,q4,q5⟩|⟨b,r,q1,q2,q3,q4⟩
   .simp_all
   .refine .inr (.inl ⟨b,es,clock,q1,q2,q3,om,λj y e hy he=> ?_⟩);have hj:j<k.cells.length:=by grind
    exact(hfz j _ y (gG hj) hy).sound hw (q5 j _ e (gG hj) he)
   .refine .inr (.inr ⟨b,r,q1,q2,q3,?_,q4.2⟩);rw[q4.1]at hl;obtain⟨y,hy⟩:=mU.1 hl;have h1:=hfz 0 (.lp b r) y (by rw[q4.1];rfl) (by rw[hy];rfl);rw[hy];cases h1;rfl
  .intro id k1 b hk1 hm;have hid:id<H1.length:=(gA.1 hk1).1;obtain⟨k,hk,he,hv,hl,hc⟩:=hH.2 id k1 hk1;obtain⟨cur,q3,q4,q5,q6,q7,q8⟩:=hw.own id k b hk (by simp only[Ctx.cut]at hm;rw[tk hid]at hm;exact hm);refine⟨cur,by simp only[Ctx.cut];rw[tk hid];exact q3,q4,by rw[he];exact q5,Fz.cells hl hc q6,om,λj y u hy hu=> ?_⟩;have hj:j<k.cells.length:=by grind
   exact(hc j _ y (gG hj) hy).sound hw (q8 j _ u (gG hj) hu)
  .intro id b hb o;obtain⟨hid,hb⟩:=tk' hb;simp only[Ctx.cut,Ctx.given];rw[gC ?_]
   .exact hw.disj id b hb o
   .rw[rI];intro hmem;obtain⟨j,hj⟩:=mX.1 hmem;rw[wI]at hj;have:=hw.inj _ _ _ hb hj;omega
  .intro i j b hi hj;exact hw.inj i j b (tk' hi).2 (tk' hj).2
theorem CLeN.less{n m:Nat}{C C':Ctx}(h:CLeN n C C')(hm:m<=n):CLeN m C C':=⟨h.B,h.M,h.top,h.mnew,h.unew,λid ver hid=>h.ids id ver om⟩
def zb9:List PV->Nat->Fr
 | [],_=>[]
 | x::r,i=>(i,x)::zb9 r (i+1)
theorem zdk:∀(xs:List PV) (i t:Nat),slot (zb9 xs i) t=if i<=t then xs.getD (t - i) .undef else .undef
 | [],i,t=>by simp[zb9,slot]
 | x::r,i,t=>by
  show(match Nat.beq i t with|true=>x|false=>slot (zb9 r (i+1)) t)=_;cases hb:Nat.beq i t with
  | true=>rw[wC hb];simp
  | false=>
   have hne:i≠t:=λh=>by simp_all
   simp only[zdk r (i+1) t];grind
def zJ(P:Program)(F:Nat->PV)(H:za):ResultVar->Option PV
 | .tmp t=>some (F t)
 | .cell t ty=>match F t with
  | .ptr id ver off=>zim P H ty (.ptr id ver off)
  | _=>none
def zw(P:Program)(rs:List ResultVar)(F:Nat->PV)(H:za):Option PV:=
 match rs with
 | [r]=>zJ P F H r
 | rs=>(rs.mapM (zJ P F H)).map .tup
def zqe(P:Program)(rs:List ResultVar)(R:PV->za->Prop):Exit->Fr->za->Prop
 | .ret,F,H=>∃ v,zw P rs (slot F) H=some v/\R v H
 | .normal,F,H=>∃ v,zw P rs (slot F) H=some v/\R v H
 | _,_,_=>False
def zsc(tmps:Array Value):ResultVar->Sem Value
 | .tmp t=>pure (tmps.getD t Go.undef)
 | .cell t ty=>do loadVar ty (<-asAddr (tmps.getD t Go.undef))
theorem zi8{f:Nat->PV}{r:ResultVar}{v:PV}(hw:WRel C H w)(hf:FRel C N f a)(h:zJ P f H r=some v):∃ u,VRel C v u/\(zsc a.tmps r).run P w= .ok u w:=by
 cases r with
 | tmp t=>simp only[zJ,qA.injEq]at h;subst h;exact⟨_,hf.2 t,rfl⟩
 | cell t ty=>
  simp only[zJ]at h;split at h
  .rename_i id ver off he;have hv:=hf.2 t;rw[he]at hv;have hlive:C.vs[id]? =some ver:=by
    simp only[zim]at h;split at h
    .rename_i k hk;split at h
     .rename_i hver;rw[<-hver];exact hw.ver id k hk
     .cases h
    .cases h
   obtain⟨b,hb,hq⟩:=zbW hw hv hlive;obtain⟨u,hu,hr⟩:=zgX (P:=P) hw hv h;refine⟨u,hu,?_⟩;rw[hq]at hr;simpa[zsc,hq,Instr.loadAt,Instr.sureAddr,asAddr]using hr
  .cases h
theorem zmw{α β:Type}{f:α->Option β}:∀{xs:List α} {ys:List β},xs.mapM f=some ys->ys.length=xs.length
 | [],ys,h=>by simp_all
 | x::xs,ys,h=>by simp only[uR,uD,uN,wJ,qA.injEq]at h;obtain⟨y,hy,ys',hys,rfl⟩:=h;simp[zmw hys]
theorem zby{f:Nat->PV}{fn:Func}{v:PV}(hw:WRel C H w)(hf:FRel C N f a)(h:zw P fn.results.toList f H=some v):∃ u,VRel C v u/\(results fn a.tmps).run P w= .ok u w:=by
 have lst:∀(rs:List ResultVar) (vs:List PV),rs.mapM (zJ P f H)=some vs->∃ us,VRels C vs us/\(rs.mapM (zsc a.tmps)).run P w= .ok us w:=by
  intro rs;induction rs with
  | nil=>intro vs h;simp at h;subst h;exact⟨[],⟨rfl,λj x u hx=>by simp at hx⟩,by simp⟩
  | cons r rs ih=>
   intro vs h;simp only[uR,uD,uN,wJ,qA.injEq]at h;obtain⟨v,hv,vs',hvs,rfl⟩:=h;obtain⟨u,hu,hr⟩:=zi8 hw hf hv;obtain⟨us,hus,hrs⟩:=ih vs' hvs;refine⟨u::us,⟨by simp[hus.1],λj x u' hx hu'=> ?_⟩,?_⟩
   .cases j with
    | zero=>simp at hx hu';subst hx;subst hu';exact hu
    | succ j=>exact hus.2 j x u' (by simpa using hx) (by simpa using hu')
   simp_all
 have hres:∀ us,(fn.results.toList.mapM (zsc a.tmps)).run P w= .ok us w->(results fn a.tmps).run P w= .ok (if h:us.toArray.size=1 then us.toArray[0]else .tuple us.toArray) w:=λus hus=>by
  have e:results fn a.tmps=(do let vs<-fn.results.mapM (zsc a.tmps);pure (if h:vs.size=1 then vs[0]else .tuple vs)):=by rfl
  simp_all[Array.mapM_eq_mapM_toList]
 unfold zw at h;split at h
 .rename_i r hr;obtain⟨us,hus,hrun⟩:=lst [r] [v] (by simp[uR,h]);rw[hr]at hres;have:=hres us hrun
  match us,hus with
  | [u],hus=>exact⟨u,hus.2 0 v u rfl rfl,by simpa using this⟩
  | [],hus=>simp[VRels]at hus
  | _::_::_,hus=>simp[VRels]at hus
 .rename_i hne;simp only[gO]at h;obtain⟨vs,hvs,rfl⟩:=h;obtain⟨us,hus,hrun⟩:=lst _ vs hvs;have hl:=zmw hvs;have hsz:¬ us.toArray.size=1:=by
   intro h1;have h2:fn.results.toList.length=1:=by rw[<-hl,<-hus.1];simpa using h1
   obtain⟨r,hr⟩:=mU.1 h2;simp_all
  refine⟨.tuple us.toArray,.tup hus.1 hus.2,?_⟩;simp_all
def zop(H:za)(R:PV->za->Prop)(v':PV)(H':za):Prop:=R v' H'\/(∃ K d v,H'=H++K/\R v H/\frz H.length H' d v'=some v)\/(HSc H->∃ v Hout,R v Hout/\H.length<=Hout.length/\CutH H' Hout/\Fz Hout.length H' v' v)
theorem CallEx.intro{f:FuncId}{fn:Func}{c:Code}{args:List PV}{R:PV->za->Prop}(hf:P.funcs[f]? =some fn)(hb:fn.body=some c)(hcall:zaC P f=true)(hn:args.length<=fn.ntmps)
  (h:PW P ⟨fn.ntmps,H⟩ c (zb9 args 0) H (zqe P fn.results.toList (zop H R))):CallEx P f args H R:=by
 refine⟨hcall,λC us w hw hargs=>calls_of_wp hf hb ?_⟩;have hfr:FRel C fn.ntmps (slot (zb9 args 0)) { tmps:=us.toArray++qF (fn.ntmps - us.toArray.size) Go.undef,defers:=[] }:=by
  refine⟨by simp[hargs.1];omega,λt=> ?_⟩;rw[zdk];simp only[vU,wN,dM];by_cases ht:t<args.length
  .have htu:t<us.length:=by rw[hargs.1];exact ht
   have e1:args.getD t .undef=args[t]:=by simp_all
   have e2:(us.toArray++qF (fn.ntmps - us.toArray.size) Go.undef).getD t Go.undef=us[t]:=by simp_all[vO,dT]
   rw[e1,e2];exact hargs.2 t _ _ (gG ht) (gG htu)
  .have e1:args.getD t .undef= .undef:=by simp_all
   rw[e1];exact .undef _
 refine wp_mono (h hw.hsc C _ w rfl hw hfr) ?_;rintro e a' w' ⟨C',F',H',q1,q2,q3,q4,q5,q6⟩;have q1':=q1.full hw.lenv;have fin:(∃ v',zw P fn.results.toList (slot F') H'=some v'/\zop H R v' H')->
   a'.defers=[]/\∃ u,(results fn a'.tmps).run P w'= .ok u w'/\∃ C'' u' v Hout,R v Hout/\CLe C C''/\WRel C'' Hout w'/\Below C.B w w'/\Ending.returned u= .returned u'/\VRel C'' v u':=by
  rintro⟨v',hv',hR⟩;obtain⟨u,hu,hr⟩:=zby q3 q5 hv';refine⟨q2,u,hr,?_⟩;rcases hR with hR|⟨K,d,v,rfl,hR,hfz⟩|hR
  .exact⟨C',u,v',H',hR,q1',q3,q4,rfl,hu⟩
  .obtain⟨g1,g2⟩:=WRel.give hw q1' q3;exact⟨_,u,v,H,hR,g1,g2,q4,rfl,zgE q3 _ d v' v u hu hfz⟩
  .obtain⟨v,Hout,hR,hlen,hcut,hfz⟩:=hR hw.hsc;obtain⟨g1,g2⟩:=q3.cutN hcut;exact⟨_,u,v,Hout,hR,(q1.trans (g1.less hlen)).full hw.lenv,g2,q4,rfl,hfz.sound q3 hu⟩
 cases e with
 | ret=>exact fin q6
 | normal=>exact fin q6
 | _=>exact q6.elim
def Fin(H:za)(v:PV)(Hout:za)(v':PV)(H':za):Prop:=(v'=v/\H'=Hout)\/(∃ K d,H'=H++K/\Hout=H/\frz H.length H' d v'=some v)\/(HSc H->H.length<=Hout.length/\CutH H' Hout/\Fz Hout.length H' v' v)
theorem CallOk.body{f:FuncId}{fn:Func}{c:Code}{rs:Array ResultVar}{F0:Fr}{args:List PV}{v:PV}{Hout:za}(hf:P.funcs[f]? =some fn)(hb:fn.body=some c)(hN:fn.ntmps=N)(hrs:fn.results=rs)(hF:zb9 args 0=F0)
  (hcall:zaC P f=true) (hn:Nat.ble args.length N=true) (h:PW P ⟨N,H⟩ c F0 H (zqe P rs.toList (Fin H v Hout))):CallOk P f args H v Hout:=by
 subst hN hrs hF;refine(CallEx.intro hf hb hcall (wB hn) (h.mono λe F' H' hq=> ?_)).one;have key:∀ v' H',Fin H v Hout v' H'->zop H (λv' H''=>v'=v/\H''=Hout) v' H':=λv' H' hf=>by
  rcases hf with hf|⟨K,d,h1,h2,h3⟩|hf
  .exact .inl hf
  .exact .inr (.inl ⟨K,d,v,h1,⟨rfl,h2.symm⟩,h3⟩)
  .exact .inr (.inr λhs=>⟨v,Hout,⟨rfl,rfl⟩,hf hs⟩)
 cases e with
 | ret=>obtain⟨v',h1,h2⟩:=hq;exact⟨v',h1,key v' H' h2⟩
 | normal=>obtain⟨v',h1,h2⟩:=hq;exact⟨v',h1,key v' H' h2⟩
 | _=>exact hq
theorem CallEx.body{f:FuncId}{fn:Func}{c:Code}{rs:Array ResultVar}{F0:Fr}{args:List PV}{R:PV->za->Prop}(hf:P.funcs[f]? =some fn)(hb:fn.body=some c)(hN:fn.ntmps=N)(hrs:fn.results=rs)(hF:zb9 args 0=F0)
  (hcall:zaC P f=true) (hn:Nat.ble args.length N=true) (h:PW P ⟨N,H⟩ c F0 H (zqe P rs.toList (zop H R))):CallEx P f args H R:=by
 subst hN hrs hF;exact CallEx.intro hf hb hcall (wB hn) h
section rules
variable {E:Env} {Q:Exit->Fr->za->Prop}
end rules
end Go.Proofs.YtleejngibkbjnaaGreatDoor.Pm
namespace Go.Proofs.YtleejngibkbjnaaGreatDoor.Pm
open Go.RowKit Go.ChangeShapes Go.WideShapes
inductive Shp(P:Program):TypeId->List PV->Prop where
 | bool {t:TypeId} (b:Bool) (ht:P.underlying t=some .bool):Shp P t [.bool b]
 | int {t:TypeId} {k:IntKind} {n:Int} (ht:P.underlying t=some (.int k)) (hw:(Lit.int k n).wf=true):Shp P t [.int k n]
 | str {t:TypeId} {s:List UInt8} (ht:P.underlying t=some .string) (hs:s.length<=maxLen):Shp P t [.str s]
 | slice {t e:TypeId} {pss:List (List PV)} (ht:P.underlying t=some (.slice e)) (hm:pss.length<=maxLen/\pss.length * P.bytesOf e<=reachBytes) (h:∀ ps∈pss,Shp P e ps):Shp P t [.slice pss.flatten pss.length false]
 | struct {t:TypeId} {fs:Array Field} {pss:List (List PV)} (ht:P.underlying t=some (.struct fs)) (hl:pss.length=fs.size) (h:∀(i:Nat) (f:Field) (ps:List PV),fs[i]? =some f->pss[i]? =some ps->Shp P f.type ps):Shp P t pss.flatten
 | array {t e:TypeId} {n:Nat} {pss:List (List PV)} (ht:P.underlying t=some (.array n e)) (hl:pss.length=n) (h:∀ ps∈pss,Shp P e ps):Shp P t pss.flatten
def zrz(P:Program):List Field->Nat->Option Nat
 | [],off=>some off
 | f::r,off=>if f.offset=off then zrz P r (off+P.cellsOf f.type)else none
def zc4(P:Program):Nat->TypeId->Bool
 | 0,_=>false
 | n+1,t=>match P.underlying t with
  | some .bool|some (.int _)|some .string=>true
  | some (.slice e)=>decide (0<P.cellsOf e)&&zc4 P n e
  | some (.array m e)=>decide (P.cellsOf t=m * P.cellsOf e)&&zc4 P n e
  | some (.struct fs)=>decide (zrz P fs.toList 0=some (P.cellsOf t))&&fs.toList.all λf=>zc4 P n f.type
  | _=>false
def Ctx.start(W:World):Ctx:=⟨W.heap.size,λb o=>W.cell? ⟨b,o,none⟩,[],[],[],0⟩
theorem WRel.start(W:World)(hg:Glob (Ctx.start W).M):WRel (Ctx.start W) [] W:=⟨hg,gV _,vU _,λ_ _ _ h=>h,rfl,rfl,rfl,λid k h=>by simp at h,λid k h=>by simp at h,λid k b h=>by simp at h,λid b h=>by simp[Ctx.start]at h,λi j b h=>by simp[Ctx.start]at h,λi j b h=>by simp[Ctx.start]at h⟩
theorem VRels.nil'{C:Ctx}:VRels C [] []:=⟨rfl,λj x u h=>by simp at h⟩
theorem VRels.append{C:Ctx}{a b:List PV}{u v:List Value}(h:VRels C a u)(k:VRels C b v):VRels C (a++b) (u++v):=by
 refine⟨by simp[h.1,k.1],λj x w hx hw=> ?_⟩;rcases dN j a.length with hj|hj
 .rw[gK hj]at hx;rw[gK (by rw[h.1];exact hj)]at hw;exact h.2 j x w hx hw
 .rw[gN hj]at hx;rw[gN (by rw[h.1];exact hj),h.1]at hw;exact k.2 _ x w hx hw
def zxm(P:Program)(W:World)(t:TypeId)(cs:List Value)(ps:List PV):Prop:=Shp P t ps/\(∀ p∈ps,p.cell=true)/\VRels (Ctx.start W) ps cs
variable {H:Type} {enc:TypeId×Value->H} {P:Program} {W:World}
theorem zg0{ts:List TypeId}:∀(parts:List (List Value)),parts.length=ts.length->(∀(i:Nat) (t:TypeId) (cs:List Value),ts[i]? =some t->parts[i]? =some cs->∃ ps,zxm P W t cs ps)->
  ∃ pss:List (List PV),pss.length=ts.length/\(∀(i:Nat) (t:TypeId) (ps:List PV),ts[i]? =some t->pss[i]? =some ps->Shp P t ps)/\(∀ p∈pss.flatten,p.cell=true)/\VRels (Ctx.start W) pss.flatten parts.flatten:=by
 induction ts with
 | nil=>
  simp_all[VRels.nil']
 | cons t ts ih=>
  intro parts hl h;cases parts with
  | nil=>simp at hl
  | cons c parts=>
   obtain⟨ps,h1,h2,h3⟩:=h 0 t c rfl rfl;obtain⟨pss,g1,g2,g3,g4⟩:=ih parts (by simpa using hl) (λi t' cs' ht hc=>h (i+1) t' cs' (by simpa using ht) (by simpa using hc));refine⟨ps::pss,by simp[g1],?_,?_,?_⟩
   .grind
   .grind
   .rw[rX,rX];exact h3.append g4
theorem zjl:∀(fs:List Field) (off tot:Nat) (cs:List Value),zrz P fs off=some tot->cs.length=tot->cs.drop off=(fs.map λf=>(cs.drop f.offset).take (P.cellsOf f.type)).flatten
 | [],off,tot,cs,h,hl=>by
  simp_all[zrz]
 | f::r,off,tot,cs,h,hl=>by
  simp only[zrz]at h;split at h
  .rename_i ho;have:=zjl r _ tot cs h hl;grind[List.flatten_cons,List.drop_drop,List.take_append_drop]
  .cases h
theorem zoi(sz:Nat):∀(n:Nat) (cs:List Value),cs.length=n * sz->cs=((qD n).map λi=>(cs.drop (i * sz)).take sz).flatten:=by
 intro n cs hl;have key:∀ m,m<=n->cs.take (m * sz)=((qD m).map λi=>(cs.drop (i * sz)).take sz).flatten:=by
  intro m;induction m with
  | zero=>intro _;simp
  | succ m ih=>intro hm;rw[sJ,rQ,nF,<-ih om,wD,List.take_add];simp
 grind
def Wok(P:Program)(t:TypeId)(d:DataW H):Prop:=(d.weights P t).all (· <=reachBytes)=true
theorem zj0{e:TypeId}{d:DataW H}:∀{l:List (DataW H)},(DataW.weightsAll P e l).all (· <=reachBytes)=true->d∈l->Wok P e d
 | a::l,h,hd=>by
  rw[DataW.weightsAll,sK,gB]at h;rcases gM.1 hd with rfl|hd
  .exact h.1
  .exact zj0 h.2 hd
theorem zls:∀{ts:List TypeId} {ds:List (DataW H)} {i:Nat} {t:TypeId} {d:DataW H},(DataW.weightsEach P ts ds).all (· <=reachBytes)=true->ts[i]? =some t->ds[i]? =some d->Wok P t d
 | t::ts,d::ds,i,u,v,h,ht,hd=>by
  rw[DataW.weightsEach,sK,gB]at h;cases i with
  | zero=>simp at ht hd;subst ht hd;exact h.1
  | succ i=>exact zls h.2 (by simpa using ht) (by simpa using hd)
 | [],_,i,u,v,h,ht,hd=>by simp at ht
 | _::_,[],i,u,v,h,ht,hd=>by simp at hd
theorem zrf:∀(fuel n:Nat) (t:TypeId) (cs:List Value) (x:DataW H×List MemPlace),zc4 P n t=true->Wok P t x.1->DataW.trod enc P W 0 (λ_=>true) true fuel t cs=some x->∃ ps,zxm P W t cs ps:=by
 intro fuel;induction fuel with
 | zero=>intro n t cs x _ _ h;simp[DataW.trod]at h
 | succ fuel ih=>
  intro n t cs x hp hq h;cases n with
  | zero=>simp[zc4]at hp
  | succ n=>
   unfold zc4 at hp;split at hp
   .rename_i ht;obtain⟨b,rfl,_⟩:=DataW.trod_bool ht h;exact⟨[.bool b],.bool b ht,λp hp=>by simp at hp;subst hp;rfl,VRels.append (a:=[.bool b]) (u:=[.bool b]) ⟨rfl,λj x u hx hu=>by cases j<;>simp at hx hu;subst hx hu;exact .bool b⟩ VRels.nil'⟩
   .rename_i k ht;obtain⟨m,rfl,_,hw⟩:=DataW.trod_int ht h;exact⟨[.int k m],.int ht hw,λp hp=>by simp at hp;subst hp;rfl,⟨rfl,λj x u hx hu=>by cases j<;>simp at hx hu;subst hx hu;exact .int k m⟩⟩
   .rename_i ht;obtain⟨s,rfl,_,hw⟩:=DataW.trod_string ht h;exact⟨[.str s.data.toList],.str ht (by rw[dK];exact hw),λp hp=>by simp at hp;subst hp;rfl,⟨rfl,λj x u hx hu=>by cases j<;>simp at hx hu;subst hx hu;exact .str s⟩⟩
   .rename_i e ht;simp only[gB,gY]at hp;rcases DataW.trod_slice ht h with⟨rfl,_⟩|⟨a,len,cap,elems,rest,m,hfm,rfl,rfl,hb,hlc,hm,hlen,hel,hsp,_⟩
    .refine⟨[.slice [] 0 false],Shp.slice (pss:=[]) ht ⟨vU _,by simp⟩ (λps hp=>by simp at hp),λp hp=>by simp at hp;subst hp;rfl,⟨rfl,λj x u hx hu=> ?_⟩⟩;cases j<;>simp at hx hu;subst hx hu;exact .sliceN _ _
    .injection hfm with hfm;subst hfm;simp only[Wok,DataW.weights,ht,dW,sK,gB,gY,dP]at hq;obtain⟨hq1,hq2,_⟩:=hq;have hcell:∀ i,i<cap->∃ cs' y,W.cells? 0 (a.add (i * P.cellsOf e)) (P.cellsOf e)=some cs'/\DataW.trod enc P W 0 (λ_=>true) true fuel e cs'=some y:=by
      intro i hi;obtain⟨hrl,hrest⟩:=hsp rfl;have:∃ y,(W.cells? 0 (a.add (i * P.cellsOf e)) (P.cellsOf e)).bind (DataW.trod enc P W 0 (λ_=>true) true fuel e)=some y:=by
       rcases dN i len with hil|hil
       .simp_all
       .have:=hrest (i - len) om;grind
      obtain⟨y,hy⟩:=this;obtain⟨cs',h1,h2⟩:=wJ.1 hy;grind
     rcases vS cap with h0|h0
     .subst h0;obtain rfl:len=0:=om;refine⟨[.slice [] 0 false],Shp.slice (pss:=[]) ht ⟨vU _,by simp⟩ (λps hp=>by simp at hp),λp hp=>by simp at hp;subst hp;rfl,⟨rfl,λj x u hx hu=> ?_⟩⟩;cases j<;>simp at hx hu;subst hx hu;exact .sliceN _ _
     .have hspot:a=⟨a.block,a.off,none⟩:=by
       obtain⟨cs',y,h1,_⟩:=hcell 0 h0;have h2:=(World.cells?_some h1).2;have h3:=h2.2 0 hp.1;rw[vV]at h3;have h4:a.add 0=a:=by rfl
       rw[h4,h4,gG om]at h3;have:a.spot=none:=by unfold World.cell? at h3;split at h3;all_goals simp_all
       cases a;simp at this;subst this;rfl
      have key:∀ m,m<=len->∃(pss:List (List PV)) (us:List Value),pss.length=m/\us.length=m * P.cellsOf e/\(∀ ps∈pss,Shp P e ps)/\(∀ p∈pss.flatten,p.cell=true)/\VRels (Ctx.start W) pss.flatten us/\
        ∀(j:Nat) (u:Value),us[j]? =some u->W.cell? ⟨a.block,a.off+j,none⟩=some u:=by
       intro m;induction m with
       | zero=>intro _;exact⟨[],[],rfl,by simp,λps hp=>by simp at hp,λp hp=>by simp at hp,VRels.nil',λj u hu=>by simp at hu⟩
       | succ m ihm=>
        intro hm';obtain⟨pss,us,g1,g2,g3,g4,g5,g6⟩:=ihm om;obtain⟨cs',h1,h2⟩:=wJ.1 ((hel m om).trans (gG om));obtain⟨ps,k1,k2,k3⟩:=ih n e cs' _ hp.2 (zj0 hq2 (nE (uY om))) h2;obtain⟨_,hcl,hcc⟩:=World.cells?_some h1;refine⟨pss++[ps],us++cs',by simp[g1],by simp[g2,hcl,wD],?_,?_,?_,?_⟩
        .grind
        .grind
        .simp only[nF,rX,List.flatten_nil,gQ];exact g5.append k3
        .intro j u hu;rcases dN j us.length with hj|hj
         .grind
         .rw[gN hj]at hu;have hlt:=(gA.1 hu).1;have:=hcc (j - us.length) om;rw[hu,hspot,Addr.add_lit,Addr.add_lit]at this;grind
      obtain⟨pss,us,g1,g2,g3,g4,g5,g6⟩:=key len (gV _);refine⟨[.slice pss.flatten pss.length false],Shp.slice ht ⟨om,Nat.le_trans (gT _ om) hq1⟩ g3,λp hp=>by simp at hp;subst hp;rfl,⟨rfl,λj x u hx hu=> ?_⟩⟩;cases j<;>simp at hx hu;subst hx hu;rw[hspot,<-g1];exact .slice (us:=us) g5.1 g6 g4 g5.2 om hm (λhf=>by cases hf)
   .rename_i m e ht;simp only[gB,gY]at hp;obtain⟨xs,m',hfm,rfl,hl,hxl,hx⟩:=DataW.trod_array ht h;injection hfm with hfm;subst hfm;simp only[Wok,DataW.weights,ht]at hq;obtain⟨pss,g1,g2,g3,g4⟩:=zg0 (P:=P) (W:=W) (ts:=List.replicate m e) ((qD m).map λi=>(cs.drop (i * P.cellsOf e)).take (P.cellsOf e)) sp (by
     intro i t' cs' ht' hc';have hi:i<m:=by have:=(gA.1 ht').1;simpa using this
     simp[hi]at ht' hc';subst ht' hc';have:=hx i hi;rw[gG om]at this;exact ih n e _ _ hp.2 (zj0 hq (nE (uY om))) this)
    rw[<-zoi (P.cellsOf e) m cs (by rw[hl,hp.1])]at g4;refine⟨pss.flatten,.array ht (by simpa using g1) (λps hps=> ?_),g3,g4⟩;grind[List.getElem?_of_mem,List.getElem?_eq_some_iff.1]
   .rename_i fs ht;simp only[gB,gY,uJ]at hp;obtain⟨xs,m',hfm,rfl,hl,hxl,hx⟩:=DataW.trod_struct ht h;injection hfm with hfm;subst hfm;simp only[Wok,DataW.weights,ht]at hq;obtain⟨pss,g1,g2,g3,g4⟩:=zg0 (P:=P) (W:=W) (ts:=fs.toList.map (·.type)) (fs.toList.map λf=>(cs.drop f.offset).take (P.cellsOf f.type)) sp (by
     intro i t' cs' ht' hc';simp only[vD,gO]at ht' hc';obtain⟨f,hf,rfl⟩:=ht';obtain⟨f',hf',rfl⟩:=hc';rw[hf]at hf';injection hf' with hf';subst hf';have hi:=(gA.1 hf).1;have:=hx i f (by simpa using hf);rw[gG (by simp at hi;omega)]at this;exact ih n f.type _ _ (hp.2 f (uE hf)) (zls (i:=i) hq (by rw[vD,hf];rfl) (by rw[vD,gG];rfl)) this)
    rw[<-zjl fs.toList 0 _ cs hp.1 hl,List.drop_zero]at g4;refine⟨pss.flatten,.struct ht (by simpa using g1) (λi f ps hf hps=>g2 i f.type ps (by simp;exact⟨f,by simpa using hf,rfl⟩) hps),g3,g4⟩
   .cases hp
def ArgShp(P:Program)(t:TypeId)(x:PV):Prop:=∃ ps,Shp P t ps/\((zd1 P t=true/\x= .agg ps)\/(zd1 P t=false/\ps=[x]))
def ArgsShp(P:Program):List TypeId->List PV->Prop
 | [],[]=>True
 | t::ts,x::xs=>ArgShp P t x/\ArgsShp P ts xs
 | _,_=>False
theorem zwp{t:TypeId}{v:Value}{d:DataW H}{p:List MemPlace}{r:Reach}{b0 n:Nat}(hn:zc4 P n t=true)(hw:Wok P t d)(hv:Value.okWide P W r b0 t v)(h:DataW.Trod enc P W 0 (λ_=>true) true t v d p):
  ∃ x,ArgShp P t x/\VRel (Ctx.start W) x v:=by
 obtain⟨fuel,hf⟩:=h;obtain⟨ps,h1,h2,h3⟩:=zrf fuel n t _ _ hn hw hf;have one:zd1 P t=false->(∀ cs,v≠.agg cs)->∃ x,ArgShp P t x/\VRel (Ctx.start W) x v:=by
  intro ha hna;have hc:v.cells.toList=[v]:=by cases v<;>first|rfl|exact absurd rfl (hna _)
  rw[hc]at h3
  match ps,h3.1 with
  | [x],_=>exact⟨x,⟨[x],h1,.inr ⟨ha,rfl⟩⟩,h3.2 0 x v rfl rfl⟩
 have many:zd1 P t=true->(∃ cs,v= .agg cs)->∃ x,ArgShp P t x/\VRel (Ctx.start W) x v:=by rintro ha ⟨cs,rfl⟩;refine⟨.agg ps,⟨ps,h1,.inl ⟨ha,rfl⟩⟩,?_⟩;have:=VRel.agg (C:=Ctx.start W) (cs:=ps) (us:=cs.toList) h3.1 h2 h3.2;omega
 unfold zc4 at hn;split at hn
 .cases hn
 split at hn
 .rename_i ht;exact one (by simp[zd1,ht]) (λcs e=>by subst e;simp[Value.okWide,ht,Cell.okWide,Cell.ok]at hv)
 .rename_i ht;exact one (by simp[zd1,ht]) (λcs e=>by subst e;simp[Value.okWide,ht,Cell.okWide,Cell.ok]at hv)
 .rename_i ht;exact one (by simp[zd1,ht]) (λcs e=>by subst e;simp[Value.okWide,ht,Cell.okWide,Cell.ok]at hv)
 .rename_i ht;exact one (by simp[zd1,ht]) (λcs e=>by subst e;simp[Value.okWide,ht,Cell.okWide,Cell.ok]at hv)
 .rename_i ht;exact many (by simp[zd1,ht]) (by simp only[Value.okWide,ht]at hv;obtain⟨cs,h,_⟩:=hv;exact⟨cs,h⟩)
 .rename_i ht;exact many (by simp[zd1,ht]) (by simp only[Value.okWide,ht]at hv;obtain⟨cs,h,_⟩:=hv;exact⟨cs,h⟩)
 .cases hn
theorem zm1{r:Reach}{b0 n:Nat}{X:List TypeId}:∀{ts:List TypeId} {vs:List Value} {ds:List (DataW H)} {p:List MemPlace},(∀ t∈ts,zc4 P n t=true)->(DataW.weightsEach P (ts++X) ds).all (· <=reachBytes)=true->(∀(j:Nat) t v,ts[j]? =some t->vs[j]? =some v->Value.okWide P W r b0 t v)->
  DataW.TrodAll enc P W 0 (λ_=>true) true ts vs ds p->∃ xs,ArgsShp P ts xs/\VRels (Ctx.start W) xs vs
 | [],[],[],p,_,_,_,_=>⟨[],trivial,VRels.nil'⟩
 | t::ts,v::vs,d::ds,p,hn,hw,hv,h=>by
  obtain⟨p1,q1,h1,h2,_⟩:=h;rw[uZ,DataW.weightsEach,sK,gB]at hw;obtain⟨x,a1,a2⟩:=zwp (hn t (uK ..)) hw.1 (hv 0 t v rfl rfl) h1;obtain⟨xs,b1,b2⟩:=zm1 (λt' ht=>hn t' (uM _ ht)) hw.2 (λj t' v' ht hv'=>hv (j+1) t' v' (by simpa using ht) (by simpa using hv')) h2;exact⟨x::xs,⟨a1,b1⟩,VRels.append (a:=[x]) (u:=[v]) ⟨rfl,λj x' u hx hu=>by cases j<;>simp at hx hu;subst hx hu;exact a2⟩ b2⟩
 | [],[],_::_,_,_,_,_,h=>h.elim
 | [],_::_,_,_,_,_,_,h=>h.elim
 | _::_,[],_,_,_,_,_,h=>h.elim
 | _::_,_::_,[],_,_,_,_,h=>h.elim
theorem zjO{W':World}(hl:laidOutB P=true)(hb:Below W.heap.size W W'):∀{ts:List TypeId} {vs:List Value} {ds:List (DataW H)} {p:List MemPlace},(∀ t∈ts,P.readableRec t=true/\t<P.types.size)->
  DataW.TrodAll enc P W 0 (λ_=>true) true ts vs ds p->DataW.TrodAll enc P W' 0 (λb=>decide (b<W.heap.size)) true ts vs ds p
 | [],[],[],p,_,h=>h
 | t::ts,v::vs,d::ds,p,hr,h=>by
  obtain⟨p1,q1,h1,h2,h3⟩:=h;obtain⟨r1,r2⟩:=hr t (uK ..);refine⟨p1,q1,Below.trod hl r1 r2 h1 hb ?_,zjO hl hb (λt' ht=>hr t' (uM _ ht)) h2,h3⟩;obtain⟨m,hm⟩:=h1;exact DataW.trod_lt m _ _ _ hm
 | [],[],_::_,_,_,h=>h.elim
 | [],_::_,_,_,_,h=>h.elim
 | _::_,[],_,_,_,h=>h.elim
 | _::_,_::_,[],_,_,h=>h.elim
theorem zte{f:FuncId}{fn:Func}{s:ChangeSpec}{apart fresh handsOn:Bool}{r:Reach}{b0 n:Nat}{args:Array Value}{ds gs:List (DataW H)}{before:List MemPlace}{tb:TypeId}{X:List TypeId}
  (hsz:(DataW.weightsEach P (fn.params.toList++X) (ds++gs)).all (· <=reachBytes)=true) (hg:Glob (Ctx.start W).M) (hlaw:∀ xs,ArgsShp P fn.params.toList xs->CallOk P f xs [] (.bool true) [])
  (hl:laidOutB P=true) (hplain:fn.params.toList.all (zc4 P n)=true) (hread:fn.params.toList.all (λt=>P.readableRec t&&decide (t<P.types.size))=true)
  (hres:fn.resultTypes= #[tb]) (htb:P.underlying tb=some .bool) (hvars:s.vars=[])
  (hfn:∀ ds:List (DataW H),ds.length=fn.params.size->s.fn H ds={ results:=[.lit (.bool true)],args:=ds })
  (hval:∀(j:Nat) t v,fn.params[j]? =some t->args[j]? =some v->Value.okWide P W r b0 t v)
  (hW:DataW.Whole enc P fn.params.toList s.vars apart W args.toList ds gs before):
  Calls P f args W λe W'=>∃ v,e= .returned v/\s.post enc P fn apart fresh handsOn false W args v W':=by
 have hW':=hW;obtain⟨p,q,hA,hV,hpq,hfz,hnd⟩:=hW;rw[hvars]at hV;obtain⟨rfl,rfl⟩:=trodVars_none hV;obtain⟨xs,x1,x2⟩:=zm1 (n:=n) (X:=X) (uJ.1 hplain) (by simpa using hsz) (λj t v ht hv=>hval j t v (by simpa using ht) (by simpa using hv)) hA;have hlen:ds.length=fn.params.size:=by
  have:∀{ts:List TypeId} {vs:List Value} {ds:List (DataW H)} {p:List MemPlace},DataW.TrodAll enc P W 0 (λ_=>true) true ts vs ds p->ds.length=ts.length:=by
   intro ts;induction ts with
   | nil=>intro vs ds p h;cases vs<;>cases ds<;>first|rfl|exact h.elim
   | cons t ts ih=>
    intro vs ds p h;cases vs with
    | nil=>exact h.elim
    | cons v vs=>
     cases ds with
     | nil=>exact h.elim
     | cons d ds=>obtain⟨_,_,_,h2,_⟩:=h;simp[ih h2]
  grind
 have hc:=(hlaw xs x1).2 (Ctx.start W) args.toList W (WRel.start W hg) x2;have hc:Calls P f args W λe w'=>∃ C' u,CLe (Ctx.start W) C'/\WRel C' [] w'/\Below (Ctx.start W).B W w'/\e= .returned u/\VRel C' (.bool true) u:=om;refine hc.mono λe W' ⟨C',u,_,_,bel,he,hu⟩=> ?_;cases hu;refine⟨_,he,ds,[],before,[],p,[],hW',?_,?_,?_,bel.frame _,λh=>by cases h⟩
 .rw[gQ,hfn ds hlen,hres];exact trodAll_mk1 (shut_bool htb _)
 .rw[gQ,hfn ds hlen];exact zjO hl bel (λt ht=>by have:=uJ.1 hread t ht;simpa using this) hA
 .rw[gQ,hfn ds hlen,hvars];rfl
theorem Shp.of_bool{t:TypeId}{ps:List PV}(ht:P.underlying t=some .bool)(h:Shp P t ps):∃ b,ps=[.bool b]:=by cases h<;>simp_all
theorem Shp.of_int{t:TypeId}{k:IntKind}{ps:List PV}(ht:P.underlying t=some (.int k))(h:Shp P t ps):∃ n,ps=[.int k n]/\(Lit.int k n).wf=true:=by
 cases h with
 | int ht' hw=>rw[ht]at ht';cases ht';exact⟨_,rfl,hw⟩
 | _=>simp_all
theorem Shp.of_slice{t e:TypeId}{ps:List PV}(ht:P.underlying t=some (.slice e))(h:Shp P t ps):∃ pss:List (List PV),ps=[.slice pss.flatten pss.length false]/\pss.length<=maxLen/\∀ q∈pss,Shp P e q:=by
 cases h with
 | slice ht' hm h=>rw[ht]at ht';cases ht';exact⟨_,rfl,hm.1,h⟩
 | _=>simp_all
theorem Shp.of_struct{t:TypeId}{fs:Array Field}{ps:List PV}(ht:P.underlying t=some (.struct fs))(h:Shp P t ps):
  ∃ pss:List (List PV),ps=pss.flatten/\pss.length=fs.size/\∀(i:Nat) (f:Field) (ps:List PV),fs[i]? =some f->pss[i]? =some ps->Shp P f.type ps:=by
 cases h with
 | struct ht' hl h=>rw[ht]at ht';cases ht';exact⟨_,rfl,hl,h⟩
 | _=>simp_all
theorem Shp.of_array{t e:TypeId}{n:Nat}{ps:List PV}(ht:P.underlying t=some (.array n e))(h:Shp P t ps):∃ pss:List (List PV),ps=pss.flatten/\pss.length=n/\∀ q∈pss,Shp P e q:=by
 cases h with
 | array ht' hl h=>rw[ht]at ht';cases ht';exact⟨_,rfl,hl,h⟩
 | _=>simp_all
theorem Shp.of_ints{t e:TypeId}{k:IntKind}{ps:List PV}(ht:P.underlying t=some (.slice e))(he:P.underlying e=some (.int k))(h:Shp P t ps):
  ∃ zs:List Int,ps=[.slice (zs.map (.int k)) zs.length false]/\zs.length<=maxLen/\∀ z∈zs,(Lit.int k z).wf=true:=by
 obtain⟨pss,rfl,hm,h⟩:=h.of_slice ht;have:∀ pss:List (List PV),(∀ q∈pss,Shp P e q)->∃ zs:List Int,pss.flatten=zs.map (.int k)/\zs.length=pss.length/\∀ z∈zs,(Lit.int k z).wf=true:=by
  intro pss;induction pss with
  | nil=>intro _;exact⟨[],rfl,rfl,λz hz=>by simp at hz⟩
  | cons a r ih=>intro h;obtain⟨n,rfl,hw⟩:=(h a (uK ..)).of_int he;obtain⟨zs,h1,h2,h3⟩:=ih (λq hq=>h q (uM _ hq));exact⟨n::zs,by simp[h1],by simp[h2],λz hz=>by rcases gM.1 hz with rfl|hz;exact hw;exact h3 z hz⟩
 obtain⟨zs,h1,h2,h3⟩:=this pss h;exact⟨zs,by rw[h1,h2],om,h3⟩
theorem Shp.of_list{α:Type}{t e:TypeId}{ps:List PV}{enc:α->List PV}{good:α->Prop}(ht:P.underlying t=some (.slice e))(he:∀ q,Shp P e q->∃ x,q=enc x/\good x)(h:Shp P t ps):
  ∃ xs:List α,ps=[.slice (xs.flatMap enc) xs.length false]/\xs.length<=maxLen/\∀ x∈xs,good x:=by
 obtain⟨pss,rfl,hm,hq⟩:=h.of_slice ht;have key:∀ pss:List (List PV),(∀ q∈pss,Shp P e q)->∃ xs:List α,pss=xs.map enc/\∀ x∈xs,good x:=by
  intro pss;induction pss with
  | nil=>intro _;exact⟨[],rfl,λx hx=>by cases hx⟩
  | cons q r ih=>intro hq;obtain⟨x,hx,hg⟩:=he q (hq q sp);obtain⟨xs,hxs,hgs⟩:=ih λy hy=>hq y (by simp[hy]);exact⟨x::xs,by simp[hx,hxs],λy hy=>by rcases gM.1 hy with rfl|hy;exact hg;exact hgs y hy⟩
 obtain⟨xs,rfl,hg⟩:=key pss hq;refine⟨xs,by rw[dP,List.flatMap_def],by simpa using hm,hg⟩
def FieldsShp(P:Program):List Field->List (List PV)->Prop
 | [],[]=>True
 | f::r,a::b=>Shp P f.type a/\FieldsShp P r b
 | _,_=>False
theorem FieldsShp.of:∀(fs:List Field) (pss:List (List PV)),pss.length=fs.length->(∀(i:Nat) (f:Field) (ps:List PV),fs[i]? =some f->pss[i]? =some ps->Shp P f.type ps)->FieldsShp P fs pss
 | [],[],_,_=>trivial
 | f::r,a::b,hl,h=>⟨h 0 f a rfl rfl,FieldsShp.of r b (by simpa using hl) λi f ps hf hp=>h (i+1) f ps (by simpa using hf) (by simpa using hp)⟩
 | [],_::_,hl,_=>by simp at hl
 | _::_,[],hl,_=>by simp at hl
theorem Shp.fields{t:TypeId}{fs:Array Field}{ps:List PV}(ht:P.underlying t=some (.struct fs))(h:Shp P t ps):∃ pss:List (List PV),ps=pss.flatten/\FieldsShp P fs.toList pss:=by obtain⟨pss,h1,h2,h3⟩:=h.of_struct ht;grind[FieldsShp.of]
theorem Shp.arr_ints{t e n:Nat}{k:IntKind}{ps:List PV}(ht:P.underlying t=some (.array n e))(he:P.underlying e=some (.int k))(h:Shp P t ps):∃ zs:List Int,ps=zs.map (.int k)/\zs.length=n/\∀ z∈zs,(Lit.int k z).wf=true:=by
 obtain⟨pss,rfl,hm,h⟩:=h.of_array ht;have:∀ pss:List (List PV),(∀ q∈pss,Shp P e q)->∃ zs:List Int,pss.flatten=zs.map (.int k)/\zs.length=pss.length/\∀ z∈zs,(Lit.int k z).wf=true:=by
  intro pss;induction pss with
  | nil=>intro _;exact⟨[],rfl,rfl,λz hz=>by simp at hz⟩
  | cons a r ih=>intro h;obtain⟨n,rfl,hw⟩:=(h a (uK ..)).of_int he;obtain⟨zs,h1,h2,h3⟩:=ih (λq hq=>h q (uM _ hq));exact⟨n::zs,by simp[h1],by simp[h2],λz hz=>by rcases gM.1 hz with rfl|hz;exact hw;exact h3 z hz⟩
 obtain⟨zs,h1,h2,h3⟩:=this pss h;grind
theorem ArgShp.one{t:TypeId}{x:PV}(h:ArgShp P t x)(ha:zd1 P t=some false):Shp P t [x]:=by obtain⟨ps,hp,⟨hf,_⟩|⟨_,rfl⟩⟩:=h;all_goals simp_all
theorem ArgsShp.cons{t:TypeId}{ts:List TypeId}{xs:List PV}(h:ArgsShp P (t::ts) xs):∃ x r,xs=x::r/\ArgShp P t x/\ArgsShp P ts r:=by
 match xs,h with
 | x::r,h=>exact⟨x,r,rfl,h.1,h.2⟩
theorem ArgsShp.nil{xs:List PV}(h:ArgsShp P [] xs):xs=[]:=by
 match xs,h with
 | [],_=>rfl
end Go.Proofs.YtleejngibkbjnaaGreatDoor.Pm
namespace Go.Proofs.YtleejngibkbjnaaGreatDoor.Pm
open Go.RowKit
variable {P:Program} {C:Ctx} {H:za} {w:World} {F:Fr} {a:Act} {N:Nat}
def zbq(ds:List (Option Nat))(F:Fr)(o:Oper):Option Bool:=
 match o.guard with
 | none=>some true
 | some (j,b)=>match ds[j]? with
  | some (some d)=>match slot F d with
   | .bool x=>some (x==b)
   | .tup []=>some false
   | _=>none
  | _=>none
theorem zY(all:List Oper)(F:Fr)(o:Oper){b:Bool}(h:zbq (all.map (·.dst)) F o=some b):zbZ all (slot F) o=some b:=by unfold zbq at h;unfold zbZ;grind
def stp(P:Program)(ds:List (Option Nat))(o:Oper)(F:Fr)(H:za):Option (Fr×za):=
 match zbq ds F o with
 | some true=>match pop P o.op (slot F) H with
  | some (v,H')=>some (put F o.dst v,H')
  | none=>none
 | some false=>some (put F o.dst (.tup []),H)
 | none=>none
def zX:Op->Bool
 | .call { callee:=.value _,.. }=>true
 | _=>false
def VC(P:Program)(ds:List (Option Nat))(o:Oper)(F:Fr)(H:za)(K:Fr->za->Prop):Prop:=
 match zbq ds F o with
 | some true=>match zt o.op (slot F)with
  | some (g,args)=>∃ R,CallEx P g args H R/\∀ v H',R v H'->K (put F o.dst v) H'
  | none=>False
 | some false=>K (put F o.dst (.tup [])) H
 | none=>False
def VO(P:Program)(ds:List (Option Nat)):List Oper->Option (Fr×za)->(Fr->za->Prop)->Prop
 | _,none,_=>False
 | [],some (F,H),K=>K F H
 | o::r,some (F,H),K=>match zX o.op with
  | false=>VO P ds r (stp P ds o F H) K
  | true=>VC P ds o F H λF' H'=>VO P ds r (some (F',H')) K
def VR(P:Program)(ds:List (Option Nat))(r:List Oper)(K:Fr->za->Prop)(F:Fr)(H:za):Prop:=VO P ds r (some (F,H)) K
theorem zzf(ds:List (Option Nat))(K:Fr->za->Prop)(F:Fr)(H:za):VO P ds [] (some (F,H)) K=K F H:=rfl
theorem zln(ds:List (Option Nat))(l:List Oper)(K:Fr->za->Prop):VO P ds l none K=False:=by cases l<;>rfl
theorem zpR{ds:List (Option Nat)}{o:Oper}{r:List Oper}{K:Fr->za->Prop}{F:Fr}{H:za}(h:zX o.op=false):VO P ds (o::r) (some (F,H)) K=VO P ds r (stp P ds o F H) K:=by simp only[VO,h]
theorem zgb{ds:List (Option Nat)}{o:Oper}{r:List Oper}{K:Fr->za->Prop}{F:Fr}{H:za}(h:zX o.op=true):VO P ds (o::r) (some (F,H)) K=VC P ds o F H (VR P ds r K):=by simp only[VO,h];rfl
theorem zwy(ds:List (Option Nat))(o:Oper)(r:List Oper)(K:Fr->za->Prop)(F:Fr)(H:za):
  VO P ds (o::r) (some (F,H)) K=match zX o.op with|false=>VO P ds r (stp P ds o F H) K|true=>VC P ds o F H (VR P ds r K):=by
 cases h:zX o.op with
 | false=>exact zpR h
 | true=>exact zgb h
theorem VC.call{ds:List (Option Nat)}{o:Oper}{K:Fr->za->Prop}{g:FuncId}{args:List PV}{v:PV}{H':za}(h:CallOk P g args H v H')(hw:zbq ds F o=some true)(hc:zt o.op (slot F)=some (g,args))
  (hk:K (put F o.dst v) H'):VC P ds o F H K:=by
 unfold VC;rw[hw];simp only[hc];exact⟨_,h.toEx,λv' H'' e=>by rw[e.1,e.2];exact hk⟩
theorem zav{all:List Oper}{K:Fr->za->Prop}:∀(l:List Oper) (F:Fr) (H:za),VO P (all.map (·.dst)) l (some (F,H)) K->zbK P all l K F H
 | [],F,H,h=>h
 | o::r,F,H,h=>by
  have hcl:zX o.op=false->zt o.op (slot F)=none:=λhc=>by unfold zt;grind[zX]
  cases hc:zX o.op with
  | false=>
   rw[zpR hc]at h;unfold stp at h;split at h
   .rename_i hb;simp only[zbK,zY all F o hb,sU,reduceCtorEq,sQ,mG,hcl hc];split at h
    .rename_i v H' hp;simp only[hp];exact zav r _ _ h
    simp_all[zln]
   .rename_i hb;simp only[zbK,zY all F o hb,sU,reduceCtorEq,sQ,true_and];exact zav r _ _ h
   .rw[zln]at h;exact h.elim
  | true=>
   rw[zgb hc]at h;unfold VC at h;split at h
   .rename_i hb;simp only[zbK,zY all F o hb,sU,reduceCtorEq,sQ,mG];split at h
    .rename_i g args hp;obtain⟨R,h1,h2⟩:=h;simp only[hp];exact⟨R,h1,λv H' hR=>zav r _ _ (h2 v H' hR)⟩
    simp_all
   .rename_i hb;simp only[zbK,zY all F o hb,sU,reduceCtorEq,sQ,true_and];exact zav r _ _ h
   simp_all
section rules
variable {E:Env} {Q:Exit->Fr->za->Prop}
theorem PW.rg{id:Nat}{ops:Array Oper}(hd:ops.toList.all (zT E.N)=true)(h:∀ K:Fr->za->Prop,(∀ F' H',Q .normal F' H'->K F' H')->VO P (ops.toList.map (·.dst)) ops.toList (some (F,H)) K):
  PW P E (.region id ops false) F H Q:=PW.region hd (zav _ _ _ (h _ λ_ _ h=>h))
theorem PW.rg1{id:Nat}{ops:Array Oper}(ks:List Nat)(F1:Fr)(H1:za)(hd:ops.toList.all (zT E.N)=true)(h:VO P (ops.toList.map (·.dst)) ops.toList (some (F,H)) (λF' H'=>kp ks F'=F1/\H'=H1))(hq:Q .normal F1 H1):
  PW P E (.region id ops false) F H Q:=PW.region_to ks F1 H1 hd (zav _ _ _ h) hq
end rules
theorem PW.join{E:Env}{Q:Exit->Fr->za->Prop}{x y:Code}(ks:List Nat)(J:Fr->za->Prop)(h:PW P E x F H (zhV (λF' H'=>J (kp ks F') H') Q))(hj:∀ F' H',J F' H'->PW P E y F' H' Q):PW P E (.seq x y) F H Q:=
 PW.seq (h.mono λe F' H' hq=>by
  cases e with
  | normal=>exact(hj _ _ hq).keep ks
  | _=>exact hq)
theorem hp0(H K:za)(b:Blk):(H++b::K)[H.length]? =some b:=by simp
theorem hp1(H K:za)(a b:Blk):(H++a::b::K)[H.length+1]? =some b:=by simp_all
theorem hp2(H K:za)(a b c:Blk):(H++a::b::c::K)[H.length+2]? =some c:=by simp_all
theorem hp3(H K:za)(a b c d:Blk):(H++a::b::c::d::K)[H.length+3]? =some d:=by simp_all
theorem hs0(H K:za)(b x:Blk):(H++b::K).set H.length x=H++x::K:=by simp
theorem hs1(H K:za)(a b x:Blk):(H++a::b::K).set (H.length+1) x=H++a::x::K:=by simp_all
theorem hs2(H K:za)(a b c x:Blk):(H++a::b::c::K).set (H.length+2) x=H++a::b::x::K:=by simp_all
theorem hl1(H:za)(a:Blk):(H++[a]).length=H.length+1:=by simp
theorem hl2(H:za)(a b:Blk):(H++[a,b]).length=H.length+2:=by simp
theorem hl3(H:za)(a b c:Blk):(H++[a,b,c]).length=H.length+3:=by simp
theorem zyB{α:Type}{c:Prop}[Decidable c](x y:α)(h:c):(if c then x else y)=x:=gD h
theorem zyC{α:Type}{c:Prop}[Decidable c](x y:α)(h:¬ c):(if c then x else y)=y:=gC h
theorem zAs{c:Prop}[Decidable c](h:c):decide c=true:=gX h
theorem zAt{c:Prop}[Decidable c](h:¬ c):decide c=false:=gW h
theorem zAz{a b:Int}(h:a=b):(a==b)=true:=by simp[h]
theorem zAA{a b:Int}(h:¬ a=b):(a==b)=false:=by simp[h]
theorem zAv{a b:Int}(h:¬ a=b):(a !=b)=true:=by simp[h]
theorem zAw{a b:Int}(h:a=b):(a !=b)=false:=by simp[h]
theorem w64(n:Int)(h: -9223372036854775808<=n/\n<=9223372036854775807):IntKind.i64.wrap n=n:=IntWalk.i64_in n h
theorem w8(n:Int)(h:0<=n/\n<=255):IntKind.u8.wrap n=n:=IntWalk.u8_in n h
theorem w32(n:Int)(h:0<=n/\n<=4294967295):IntKind.u32.wrap n=n:=IntWalk.u32_in n h
end Go.Proofs.YtleejngibkbjnaaGreatDoor.Pm
namespace Go.Proofs.YtleejngibkbjnaaGreatDoor.Pm
open Go.RowKit
variable {P:Program} {C:Ctx} {H:za} {w:World} {F:Fr} {a:Act} {N:Nat}
def zrh(xs:List Operand):List Nat:=xs.filterMap fun| .tmp t=>some t|_=>none
def zty(ds:List (Option Nat))(o:Oper):List Nat:=match o.guard with|none=>[]|some (j,_)=>match ds[j]? with|some (some d)=>[d]|_=>[]
def zl2(ds:List (Option Nat))(o:Oper):List Nat:=zrh o.op.operands.toList++zty ds o
def ztY:Builtin->Bool
 | .len| .min| .max=>false
 | _=>true
def eff:Op->Bool
 | .box .. | .alloc .. | .store .. | .makeSlice .. | .makeMap .. | .mapUpdate .. | .insert .. =>true
 | .call { callee:=.builtin b,.. }=>ztY b
 | _=>false
def zy:BinOp->Bool
 | .add| .sub=>true
 | _=>false
def zcd:Op->Bool
 | .move _| .assign _| .pick .. | .build .. | .buildSlice .. | .unOp .. | .field .. | .index .. | .extract .. =>true
 | .binOp op _ _ y _=>zy op&& !zdL y
 | _=>false
def zb4:Op->Bool
 | .call { callee:=.value (.func _),args,.. }=>args.toList.isEmpty
 | _=>false
def clear(ds:List (Option Nat))(x y:Oper):Bool:=match x.dst with
 | none=>true
 | some d=> !((zl2 ds y).elem d)&& !(y.dst==some d)
def zyH:Op->Bool
 | .alloc .. | .box .. | .makeSlice .. | .makeMap .. =>true
 | _=>false
def zoe(ds:List (Option Nat))(g:Bool)(x y:Oper):Bool:=clear ds x y&&clear ds y x&&((!eff x.op&& !eff y.op)||(zcd x.op||zb4 x.op)||(zcd y.op||zb4 y.op)||(g&&(!eff x.op&&zyH y.op)))
theorem ziL{f g:Nat->PV}{x:Operand}(h:∀ t,x= .tmp t->f t=g t):ev f x=ev g x:=by cases x<;>simp only[ev];simp_all
theorem zeX{f g:Nat->PV}{xs:List Operand}(h:∀ x∈xs,ev f x=ev g x):xs.map (ev f)=xs.map (ev g):=wU h
theorem zjx{f g:Nat->PV}{op:Op}(h:∀ x∈op.operands.toList,ev f x=ev g x):pop P op f H=pop P op g H:=by
 cases op;case build t ps=>
  have:ps.toList.map (λp=>(p.1,ev f p.2))=ps.toList.map (λp=>(p.1,ev g p.2)):=wU λp hp=>by rw[h p.2 (by simp[Op.operands];exact⟨_,vX.1 hp⟩)]
  simp only[pop,this]
 case buildSlice t n ps=>
  have:ps.toList.map (λp=>(p.1,ev f p.2))=ps.toList.map (λp=>(p.1,ev g p.2)):=wU λp hp=>by rw[h p.2 (by simp[Op.operands];exact⟨_,vX.1 hp⟩)]
  simp only[pop,this]
 case slice t x l hh m=>
  have e1:ev f x=ev g x:=h x (by simp[Op.operands]);have e2:l.map (ev f)=l.map (ev g):=by cases l with|none=>rfl|some y=>simp[h y (by simp[Op.operands])]
  have e3:hh.map (ev f)=hh.map (ev g):=by cases hh with|none=>rfl|some y=>simp[h y (by simp[Op.operands])]
  have e4:m.map (ev f)=m.map (ev g):=by cases m with|none=>rfl|some y=>simp[h y (by simp[Op.operands])]
  simp only[pop,e1,e2,e3,e4]
 case makeFunc fn a b=>have e1:a.toList.map (ev f)=a.toList.map (ev g):=zeX λx hx=>h x (by simp[Op.operands];exact .inl (vX.1 hx));have e2:b.toList.map (ev f)=b.toList.map (ev g):=zeX λx hx=>h x (by simp[Op.operands];exact .inr (vX.1 hx));cases fn<;>simp only[pop,e1,e2]
 case call c=>obtain⟨callee,args,ts⟩:=c;have e1:args.toList.map (ev f)=args.toList.map (ev g):=zeX λx hx=>h x (by simp[Op.operands,Call.operands];exact .inr (vX.1 hx));cases callee<;>simp only[pop,e1]
 case makeMap t r=>cases r<;>simp only[pop]
 all_goals simp only[pop]
 all_goals simp only[Op.operands,gM,gL,uA,forall_eq_or_imp,mS]at h
 all_goals simp_all
theorem zc6{f g:Nat->PV}{op:Op}(h:∀ x∈op.operands.toList,ev f x=ev g x):zt op f=zt op g:=by
 unfold zt;split
 .rename_i fn args ts;have e1:ev f fn=ev g fn:=h fn (by simp[Op.operands,Call.operands]);have e2:args.toList.map (ev f)=args.toList.map (ev g):=zeX λx hx=>h x (by simp[Op.operands,Call.operands];exact .inr (vX.1 hx));rw[e1,e2]
 .rfl
theorem zdh{f:Nat->PV}{op:Op}{v:PV}{H':za}(h:eff op=false)(hp:pop P op f H=some (v,H')):H'=H:=by
 unfold pop at hp;split at hp<;>first
  | (simp only[qA.injEq,qE.injEq]at hp;exact hp.2.symm)
  | (simp only[gO,qE.injEq]at hp;obtain⟨_,_,_,h2⟩:=hp;exact h2.symm)
  | (simp[eff]at h;done)
  | skip
 .grind
 .grind[qB,qE.injEq]
 .grind
 .rename_i b args ts;simp only[eff]at h;unfold zH at hp;grind[qB,qE.injEq,ztY]
 .cases hp
theorem znM{op:BinOp}{t:TypeId}{x y v:PV}(ha:zy op=true)(h:zmn P H op t x y=some v)(K:za):zmn P K op t x y=some v:=by
 unfold zmn at h |-;split at h<;>try(exact h)
 .split at h
  .cases op<;>first|(cases ha;done)|(cases h;done)
  .cases h
 .split at h
  .cases op<;>first|(cases ha;done)|(cases h;done)
  .cases h
theorem zfE{f:Nat->PV}{op:Op}{v:PV}{H':za}(h:zcd op=true)(hp:pop P op f H=some (v,H'))(K:za):H'=H/\pop P op f K=some (v,K):=by
 cases op<;>simp only[zcd,wX]at h<;>simp only[pop]at hp |-;case move=>simp at hp |-;exact⟨hp.2.symm,hp.1⟩
 case assign=>simp at hp |-;exact⟨hp.2.symm,hp.1⟩
 case pick=>split at hp<;>simp at hp |-;all_goals simp_all
 case extract=>split at hp;all_goals grind[qB,qE.injEq]
 case binOp op t x y r=>
  rw[gB]at h;have hn:zdL y=false:=by simp_all
  simp only[hn]at hp |-;split at hp;all_goals grind[qB,qE.injEq,znM]
 all_goals grind[qB,qE.injEq]
def zaa:PV->List Nat
 | .ptr id _ _=>[id]
 | .msl id _ _ _ _ _=>[id]
 | .mp id _=>[id]
 | _=>[]
def zsM(op:Op)(f:Nat->PV):List Nat:=(op.operands.toList.map λx=>zaa (ev f x)).flatten
def zbe:Op->Bool
 | .nilCheck .. | .fieldAddr .. | .indexAddr .. | .slice .. | .binOp .. =>true
 | .call { callee:=.builtin .len,.. }=>true
 | _=>false
def HLe(H K:za)(id:Nat):Prop:=∀ b,H[id]? =some b->K[id]? =some b
def VLe(H K:za)(id:Nat):Prop:=∀ b,H[id]? =some b->∃ c,K[id]? =some c/\c.ver=b.ver
variable {K:za}
theorem zas{id:Nat}{k:Blk}(h:H[id]? =some k):(H++K)[id]? =some k:=by grind
theorem zfh{x:PV}(hx:∀ id∈zaa x,VLe H K id){id ver:Nat}(hi:id∈zaa x)(hl:ze3 H id ver=true):ze3 K id ver=true:=by unfold ze3 at hl |-;grind[VLe]
theorem zib{sz:Nat}{x:PV}{c:List PV×Nat}(hx:∀ id∈zaa x,HLe H K id)(h:zcb H sz x=some c):zcb K sz x=some c:=by
 cases x<;>simp only[zcb]at h |-<;>try(exact h)
 simp only[zaa,uX,mS,HLe]at hx;grind
theorem zmc{t:TypeId}{m:PV}{r:TypeId×TypeDesc×Nat×Blk}(hx:∀ id∈zaa m,HLe H K id)(h:zbP P H t m=some r):zbP P K t m=some r:=by
 unfold zbP at h |-;split at h<;>try(cases h;done)
 simp only[zaa,uX,mS,HLe]at hx;grind
theorem zgB{a b:Option PV}{v:PV}{H':za}(h:(a.map λv=>(v,H))=some (v,H'))(hab:∀ v,a=some v->b=some v):(b.map λv=>(v,K))=some (v,K):=by grind[qB,qE.injEq]
theorem zl8{f:Nat->PV}{op:Op}{v:PV}{H':za}(h:zbe op=true)(hi:∀ id∈zsM op f,VLe H K id)(hp:pop P op f H=some (v,H')):pop P op f K=some (v,K):=by
 have ids:∀ x∈op.operands.toList,∀ id∈zaa (ev f x),VLe H K id:=λx hx id hid=>hi id (sC.2 ⟨_,vW.2 ⟨x,hx,rfl⟩,hid⟩);cases op<;>try(simp[zbe]at h;done)
 case nilCheck x=>have lx:= @zfh H K _ (ids x (by simp[Op.operands]));simp only[pop]at hp |-;refine zgB hp λv h=> ?_;unfold zss at h |-;grind[zaa]
 case fieldAddr s x k=>have lx:= @zfh H K _ (ids x (by simp[Op.operands]));simp only[pop]at hp |-;refine zgB hp λv h=> ?_;generalize ev f x=y at *;cases y<;>simp only[zcA]at h |-<;>first|exact h|grind[zaa]
 case indexAddr t x i=>have lx:= @zfh H K _ (ids x (by simp[Op.operands]));simp only[pop]at hp |-;refine zgB hp λv h=> ?_;unfold zcy at h |-;split at h<;>first|exact h|grind[zaa]
 case slice t x lo hi mx=>have lx:= @zfh H K _ (ids x (by simp[Op.operands]));simp only[pop]at hp |-;refine zgB hp λv h=> ?_;unfold zii at h |-;grind[zaa]
 case binOp op t x y z=>
  have lx:= @zfh H K _ (ids x (by simp[Op.operands]));have ly:= @zfh H K _ (ids y (by simp[Op.operands]));simp only[pop]at hp |-;split at hp
  .refine zgB hp λv h=> ?_;unfold zfF at h |-;grind[zaa]
  split at hp
  .exact zgB hp λ_ h=>h
  .refine zgB hp λv h=> ?_;unfold zmn at h |-;grind[zaa]
 case call c=>
  obtain⟨callee,args,ts⟩:=c;cases callee with
  | builtin b=>
   cases b<;>try(simp[zbe]at h;done)
   have key:∀ t,∀ x∈args.toList.map (ev f),∀ v,znE P H t x=some v->znE P K t x=some v:=λt x hx v h=>by obtain⟨y,hy,rfl⟩:=vW.1 hx;have lx:= @zfh H K _ (ids y (by simp[Op.operands,Call.operands];exact vX.1 hy));unfold znE at h |-;grind[zaa]
   simp only[pop]at hp |-;unfold zH at hp |-;split at hp
   .rename_i t x _ hx;exact zgB hp (key _ _ (by rw[hx];exact uK ..))
   all_goals simp_all
  | _=>simp[zbe]at h
theorem zl7{f:Nat->PV}{op:Op}{v:PV}{H':za}(h:eff op=false)(hi:∀ id∈zsM op f,HLe H K id)(hp:pop P op f H=some (v,H')):pop P op f K=some (v,K):=by
 have ids:∀ x∈op.operands.toList,∀ id∈zaa (ev f x),HLe H K id:=λx hx id hid=>hi id (sC.2 ⟨_,vW.2 ⟨x,hx,rfl⟩,hid⟩);cases hl:zbe op with
 | true=>exact zl8 hl (λid hid b hb=>⟨b,hi id hid b hb,rfl⟩) hp
 | false=>
 cases hpu:zcd op with
 | true=>exact(zfE hpu hp K).2
 | false=>
 cases op<;>try(simp[eff]at h;done)
 all_goals try(simp[zbe]at hl;done)
 all_goals try(simp[zcd]at hpu;done)
 case load t x=>
  have:=ids x (by simp[Op.operands]);simp only[pop]at hp |-;refine zgB hp λv h=> ?_;generalize ev f x=y at *;cases y<;>simp only[zim]at h |-<;>try(exact h)
  simp only[zaa,uX,mS,HLe]at this;grind
 case convert s d x=>have:=λsz c=> @zib H K sz _ c (ids x (by simp[Op.operands]));simp only[pop]at hp |-;refine zgB hp λv h=> ?_;unfold zml at h |-;generalize ev f x=y at *;grind[Option.bind_eq_some_iff]
 case lookup t m k ok=>have:=λr=> @zmc P H K t _ r (ids m (by simp[Op.operands]));simp only[pop]at hp |-;refine zgB hp λv h=> ?_;unfold zil at h |-;grind
 case makeFunc fn x y=>cases fn<;>simp only[pop,qA.injEq,qE.injEq]at hp |-<;>first|exact⟨hp.1,trivial⟩|cases hp
 case call c=>
  obtain⟨callee,args,ts⟩:=c;cases callee with
  | builtin b=>
   simp only[eff]at h;simp only[pop]at hp |-;unfold zH at hp |-;split at hp
   .simp[zbe]at hl
   .simp[ztY]at h
   .simp[ztY]at h
   .exact zgB hp λ_ h=>h
   .exact zgB hp λ_ h=>h
   .cases hp
  | _=>simp only[pop]at hp;cases hp
 all_goals simp_all[pop]
theorem zmF{f:Nat->PV}{op:Op}(h:zyH op=true):zt op f=none:=by cases op<;>first|rfl|cases h
theorem zsq{f:Nat->PV}{op:Op}{v:PV}{H':za}(h:zyH op=true)(hp:pop P op f H=some (v,H')):∃ K,H'=H++K:=by
 cases op<;>try(cases h;done)
 case alloc=>simp only[pop,gO,qE.injEq]at hp;obtain⟨z,_,_,h2⟩:=hp;exact⟨_,h2.symm⟩
 case box=>grind[pop]
 case makeSlice=>simp only[pop,zme]at hp;grind
 case makeMap t r=>cases r<;>grind[pop]
theorem zcs{f:Nat->PV}{d:Option Nat}{v:PV}{t:Nat}(h:d≠some t):upd f d v t=f t:=by
 cases d with
 | none=>rfl
 | some d=>simp only[upd];rw[gC (λe=>h (by rw[e]))]
theorem zhP{f:Nat->PV}{d e:Option Nat}{u v:PV}(h:∀ t,d=some t->e≠some t):upd (upd f d u) e v=upd (upd f e v) d u:=by
 cases d with
 | none=>rfl
 | some d=>
  cases e with
  | none=>rfl
  | some e=>grind[upd]
def RunG(E:Oper->(Nat->PV)->za->PV->za->Prop):List Oper->(Nat->PV)->za->((Nat->PV)->za->Prop)->Prop
 | [],f,H,K=>K f H
 | o::r,f,H,K=>∃ v H',E o f H v H'/\RunG E r (upd f o.dst v) H' K
def zjP(E:Oper->(Nat->PV)->za->PV->za->Prop)(cmp:Oper->Oper->Bool):Prop:=∀(x o:Oper) (f:Nat->PV) (H:za) (vx:PV) (Hx:za) (v:PV) (H1:za),cmp x o=true->E x f H vx Hx->E o (upd f x.dst vx) Hx v H1->∃ H3,E o f H v H3/\E x (upd f o.dst v) H3 vx H1/\upd (upd f x.dst vx) o.dst v=upd (upd f o.dst v) x.dst vx
def zjQ(P:Program)(N:Nat)(ops:Array Oper)(E:Oper->(Nat->PV)->za->PV->za->Prop):Prop:=
 ∀(o:Oper) (f:Nat->PV) (H:za) (v:PV) (H':za) (C:Ctx) (a:Act) (w:World),zT N o=true->WRel C H w->FRel C N f a->E o f H v H'->
  (Region.wanted o (yielded ops a.tmps)=false/\v= .tup []/\H'=H)\/
  (Region.wanted o (yielded ops a.tmps)=true/\∀(next:Act->World->Prop) (Q:Exit->Act->World->Prop),(∀ C' u w',CLe C C'->WRel C' H' w'->Below C.B w w'->FRel C' N (upd f o.dst v) (a.put o.dst u)->next (a.put o.dst u) w')->o.wp P a w next Q)
theorem RunG.front{E:Oper->(Nat->PV)->za->PV->za->Prop}{cmp:Oper->Oper->Bool}{K:(Nat->PV)->za->Prop}{o:Oper}{l2:List Oper}(hs:zjP E cmp):∀(l1:List Oper) (f:Nat->PV) (H:za),RunG E (l1++o::l2) f H K->(∀ x∈l1,cmp x o=true)->
  ∃ v H1,E o f H v H1/\RunG E (l1++l2) (upd f o.dst v) H1 K
 | [],f,H,h,_=>h
 | x::l1,f,H,h,hc=>by obtain⟨vx,Hx,hx,hr⟩:=h;obtain⟨v,H1,ho,hr2⟩:=RunG.front hs l1 _ _ hr (λy hy=>hc y (uM _ hy));obtain⟨H3,g1,g2,g3⟩:=hs x o f H vx Hx v H1 (hc x (uK ..)) hx ho;exact⟨v,H3,g1,vx,H1,g2,g3▸hr2⟩
def bnd(o:Oper):List Nat:=(o.after.toList.filter (Region.binds .any)).map (·.on)
def zfR(ms:List Nat)(o:Oper):Nat:=(bnd o).foldl (λm j=>m|||ms.getD j 0|||2^j) 0
def zw4(ops:List Oper):List Nat:=ops.foldl (λms o=>ms++[zfR ms o]) []
def zmP(cmp:Oper->Oper->Bool)(ms:List Nat)(N:Nat)(ops:List Oper)(i:Nat):Bool:=match ops[i]? with
 | none=>false
 | some o=>zT N o&&(bnd o).all (λj=>Nat.blt j i)&&(Nat.beq (ms.getD i 0) (zfR ms o))&&(qD i).all λj=>(ms.getD i 0).testBit j||(match ops[j]? with|some x=>cmp x o|none=>false)
def ziN(cmp:Oper->Oper->Bool)(N:Nat)(ops:List Oper):Bool:=(qD ops.length).all (zmP cmp (zw4 ops) N ops)
theorem zjD(ms:List Nat)(j:Nat):∀(l:List Nat) (m:Nat),(l.foldl (λm j=>m|||ms.getD j 0|||2^j) m).testBit j=true->m.testBit j=true\/∃ k∈l,(ms.getD k 0).testBit j=true\/k=j
 | [],m,h=>.inl h
 | k::l,m,h=>by rcases zjD ms j l _ h with h|⟨k',hk,h⟩;all_goals grind
theorem ziO{cmp:Oper->Oper->Bool}{ms:List Nat}{ops:List Oper}{i:Nat}{o:Oper}(ho:ops[i]? =some o)(h:zmP cmp ms N ops i=true):
  zT N o=true/\(∀ j∈bnd o,j<i)/\ms.getD i 0=zfR ms o/\∀ j,j<i->(ms.getD i 0).testBit j=true\/∃ x,ops[j]? =some x/\cmp x o=true:=by
 unfold zmP at h;simp only[ho,gB,uJ,wO,wV]at h;obtain⟨⟨⟨h1,h2⟩,h3⟩,h4⟩:=h;refine⟨h1,λj hj=>by simpa[Nat.blt_eq]using h2 j hj,wC h3,λj hj=> ?_⟩;rcases h4 j hj with h|h
 .exact .inl h
 .split at h
  .rename_i x hx;exact .inr ⟨x,hx,h⟩
  .cases h
theorem zs7{cmp:Oper->Oper->Bool}{ms:List Nat}{ops:List Oper}(hall:∀ i,i<ops.length->zmP cmp ms N ops i=true){S:Nat->Prop}(down:∀ i o,ops[i]? =some o->S i->∀ j∈bnd o,S j):
  ∀(i:Nat) (o:Oper),ops[i]? =some o->(∀ j∈bnd o,S j)->∀ j,(ms.getD i 0).testBit j=true->S j:=by
 intro i;induction i using Nat.strongRecOn with
 | _ i ih=>intro o ho hp j hj;have hi:=(gA.1 ho).1;obtain⟨_,h2,h3,_⟩:=ziO ho (hall i hi);rw[h3,zfR]at hj;rcases zjD ms j _ _ hj with h|⟨k,hk,h⟩;all_goals grind
def left(n:Nat)(listed:Array Bool):List Nat:=(qD n).filter λi=> !listed.getD i true
theorem zeo(n:Nat)(listed:Array Bool):(left n listed).Pairwise (· < ·):=List.Pairwise.filter _ List.pairwise_lt_range
theorem zem{n i:Nat}{listed:Array Bool}:i∈left n listed↔i<n/\listed.getD i true=false:=by simp[left]
theorem zmH(listed:Array Bool)(i k:Nat)(h:i<listed.size):(listed.setIfInBounds i true).getD k true=if k=i then true else listed.getD k true:=by rw[vO,mF,vO];grind
theorem zmy{n i:Nat}{listed:Array Bool}{l1 l2:List Nat}(h:i<listed.size)(hl:left n listed=l1++i::l2):left n (listed.setIfInBounds i true)=l1++l2:=by
 have e:left n (listed.setIfInBounds i true)=(left n listed).filter (λk=>k !=i):=by unfold left;rw[List.filter_filter];grind[List.filter_congr,zmH]
 have hs:=zeo n listed;rw[hl,mZ,sR]at hs;grind[List.filter_cons_of_neg,qG.2]
theorem zwq{cmp:Oper->Oper->Bool}{E:Oper->(Nat->PV)->za->PV->za->Prop}{ops:Array Oper}{Q:Exit->Act->World->Prop}{K:(Nat->PV)->za->Prop}(hall:∀ i,i<ops.toList.length->zmP cmp (zw4 ops.toList) N ops.toList i=true)
  (hswap:zjP E cmp) (hstep:zjQ P N ops E):
  ∀(fuel:Nat) (listed:Array Bool) (f:Nat->PV) (H:za) (C:Ctx) (a:Act) (w:World),listed.size=ops.size->(∀ i o,ops[i]? =some o->listed.getD i true=true->∀ j∈bnd o,listed.getD j true=true)->
   fuel=(left ops.size listed).length->RunG E ((left ops.size listed).filterMap λi=>ops[i]?) f H K->a.defers=[]->WRel C H w->FRel C N f a->
   (∀ C' f' H' a' w',CLe C C'->a'.defers=[]->WRel C' H' w'->Below C.B w w'->FRel C' N f' a'->K f' H'->Q .normal a' w')->wpAny P .any ops Q fuel listed a w:=by
 have rdy:∀(listed:Array Bool) (i:Nat),i∈Region.ready .any ops listed↔i∈left ops.size listed/\∃ o,ops[i]? =some o/\∀ e∈o.after.toList,Region.binds .any e=true->listed.getD e.on false=true:=by
  intro listed i;unfold Region.ready;rw[List.mem_filter,zem,wO];constructor
  .rintro⟨h1,h2⟩;simp only[gB,vR]at h2;grind[Array.getElem?_eq_getElem,Array.all_eq_true_iff_forall_mem,Array.mem_toList_iff.1]
  grind
 intro fuel;induction fuel with
 | zero=>
  intro listed f H C a w hsz hdown hfu hr hd hw hf hQ;have hnil:left ops.size listed=[]:=uU hfu.symm;refine⟨List.eq_nil_iff_forall_not_mem.2 λi hi=> ?_,?_⟩
  .simp_all
  .rw[hnil]at hr;exact hQ C f H a w (.refl _) hd hw (.refl _ _) hf hr
 | succ fuel ih=>
  intro listed f H C a w hsz hdown hfu hr hd hw hf hQ;refine⟨λhnone=> ?_,λi hi=> ?_⟩
  .exfalso;obtain⟨i,r,hl⟩:=List.exists_cons_of_length_eq_add_one hfu.symm;have hmem:i∈left ops.size listed:=by grind
   have hil:=(zem.1 hmem).1;have hs:=zeo ops.size listed;rw[hl,sR]at hs;have:i∈Region.ready .any ops listed:=by
    refine(rdy listed i).2 ⟨hmem,ops[i],wG hil,λe he hb=> ?_⟩;have hlt:=(ziO (by simpa using wG hil) (hall i (by simpa using hil))).2.1 e.on (vW.2 ⟨e,List.mem_filter.2 ⟨he,hb⟩,rfl⟩);have hnm:e.on∉left ops.size listed:=by grind
    have h1:listed.getD e.on true=true:=by
     cases hg:listed.getD e.on true with
     | true=>rfl
     | false=>exact absurd (zem.2 ⟨om,hg⟩) hnm
    grind
   grind
  .obtain⟨hmem,o,ho,hpre⟩:=(rdy listed i).1 hi;have hil:=(zem.1 hmem).1;have hoL:ops.toList[i]? =some o:=by grind
   obtain⟨d1,d2,d3,d4⟩:=ziO hoL (hall i (by simpa using hil));obtain⟨l1,l2,hl⟩:=List.append_of_mem hmem;have hs:=zeo ops.size listed;rw[hl,mZ,sR]at hs;have hsz':i<listed.size:=om;have getFT:∀ j,listed.getD j false=true->listed.getD j true=true:=λj hj=>by grind
   have hpre':∀ j∈bnd o,listed.getD j true=true:=λj hj=>by obtain⟨e,he,rfl⟩:=vW.1 hj;grind
   rw[hl,mY,mQ ho]at hr;have hcomp:∀ x∈l1.filterMap (λi=>ops[i]?),cmp x o=true:=by
    intro x hx;obtain⟨j,hj,hjx⟩:=rF.1 hx;have hji:j<i:=hs.2.2 j hj i (uK ..);rcases d4 j hji with h|⟨x',hx',hc⟩
    .have hS:=zs7 (N:=N) hall (S:=λj=>listed.getD j true=true) (λi o ho hS=>hdown i o (by simpa using ho) hS) i o hoL hpre' j h;have hjm:j∈left ops.size listed:=by grind
     rw[(zem.1 hjm).2]at hS;cases hS
    grind
   obtain⟨v,H1,hex,hrun⟩:=RunG.front hswap _ _ _ hr hcomp;rw[<-mY,<-zmy hsz' hl]at hrun;have hdown':∀ i' o',ops[i']? =some o'->(listed.setIfInBounds i true).getD i' true=true->∀ j∈bnd o',(listed.setIfInBounds i true).getD j true=true:=by
    intro i' o' ho' h j hj;rw[zmH _ _ _ hsz']at h |-;by_cases hi':i'=i
    .grind
    .rw[gC hi']at h;split;all_goals grind
   have hfu':fuel=(left ops.size (listed.setIfInBounds i true)).length:=by rw[zmy hsz' hl];grind
   have next:∀ C' u w',CLe C C'->WRel C' H1 w'->Below C.B w w'->FRel C' N (upd f o.dst v) (a.put o.dst u)->wpAny P .any ops Q fuel (listed.setIfInBounds i true) (a.put o.dst u) w':=by intro C' u w' q1 q2 q3 q4;refine ih _ _ _ C' _ w' (by simpa using hsz) hdown' hfu' hrun (by cases hod:o.dst<;>simp[Act.put,hd]) q2 q4 ?_;intro C'' f'' H'' a'' w'' p1 p2 p3 p4 p5 p6;exact hQ C'' f'' H'' a'' w'' (q1.trans p1) p2 p3 (q3.trans (by rw[<-q1.B];exact p4)) p5 p6
   unfold wpOp;rw[ho];simp only;rcases hstep o f H v H1 C a w d1 hw hf hex with⟨h1,h2,h3⟩|⟨h1,h2⟩
   .rw[gC (by rw[h1];simp)];subst h2 h3;exact next C _ w (.refl _) hw (.refl _ _) (hf.put o.dst (zaX d1) VRel.undefV)
   .rw[gD h1];left;exact h2 _ _ next
def CallD(P:Program)(g:Bool)(op:Op)(fn:FuncId)(args:List PV)(H:za)(v:PV):Prop:=CallOk P fn args H v H/\(zb4 op=true->∀ K,CallOk P fn args K v K)/\(g=true->∀ K,CallOk P fn args (H++K) v (H++K))
theorem CallD.ext{op:Op}{fn:FuncId}{args:List PV}{v:PV}(h:CallD P true op fn args H v)(K:za):CallD P true op fn args (H++K) v:=⟨h.2.2 rfl K,h.2.1,λ_ L=>by rw[gU];exact h.2.2 rfl _⟩
def Ex(P:Program)(all:List Oper)(g:Bool)(o:Oper)(f:Nat->PV)(H:za)(v:PV)(H':za):Prop:=
 (zbZ all f o=some false/\v= .tup []/\H'=H)\/
 (zbZ all f o=some true/\match zt o.op f with|some (fn,args)=>H'=H/\CallD P g o.op fn args H v|none=>pop P o.op f H=some (v,H'))
theorem zix{xs:List Operand}{t:Nat}(h: .tmp t∈xs):t∈zrh xs:=rF.2 ⟨_,h,rfl⟩
theorem zfb{all:List Oper}{f g:Nat->PV}{o:Oper}(h:∀ t∈zty (all.map (·.dst)) o,f t=g t):zbZ all f o=zbZ all g o:=by
 unfold zbZ;unfold zty at h;cases hg:o.guard with
 | none=>rfl
 | some jb=>grind
theorem Ex.congr{all:List Oper}{b:Bool}{o:Oper}{f g:Nat->PV}{v:PV}{H':za}(h:∀ t∈zl2 (all.map (·.dst)) o,f t=g t)(he:Ex P all b o f H v H'):Ex P all b o g H v H':=by have e1:zbZ all f o=zbZ all g o:=zfb λt ht=>h t (uF.2 (.inr ht));have e2:∀ x∈o.op.operands.toList,ev f x=ev g x:=λx hx=>ziL λt ht=>h t (uF.2 (.inl (zix (ht▸hx))));grind[Ex,zc6,zjx]
theorem Ex.noeff{all:List Oper}{g:Bool}{o:Oper}{f:Nat->PV}{v:PV}{H':za}(h:eff o.op=false)(he:Ex P all g o f H v H'):H'=H:=by rcases he with⟨_,_,he⟩|⟨_,he⟩;all_goals grind[zdh]
theorem Ex.pure{all:List Oper}{g:Bool}{o:Oper}{f:Nat->PV}{v:PV}{H':za}(h:zcd o.op=true\/zb4 o.op=true)(he:Ex P all g o f H v H')(K:za):H'=H/\Ex P all g o f K v K:=by
 rcases h with h|h;rotate_left
 .rcases he with⟨h1,h2,h3⟩|⟨h1,h2⟩
  .exact⟨h3,.inl ⟨h1,h2,rfl⟩⟩
  .have hc:∃ fn args,zt o.op f=some (fn,args):=by
    unfold zb4 at h;split at h
    .rename_i g args ts ho;rw[ho];exact⟨_,_,rfl⟩
    .cases h
   obtain⟨fn,args,hc⟩:=hc;simp only[hc]at h2;exact⟨h2.1,.inr ⟨h1,by rw[hc];exact⟨rfl,h2.2.2.1 h K,h2.2.2.1,λ_ K'=>h2.2.2.1 h (K++K')⟩⟩⟩
 have hc:zt o.op f=none:=by unfold zt;grind[zcd]
 rcases he with⟨h1,h2,h3⟩|⟨h1,h2⟩
 .exact⟨h3,.inl ⟨h1,h2,rfl⟩⟩
 .rw[hc]at h2;obtain⟨h3,h4⟩:=zfE h h2 K;exact⟨h3,.inr ⟨h1,by rw[hc];exact h4⟩⟩
theorem zbp{ds:List (Option Nat)}{x y:Oper}(h:clear ds x y=true):∀ t∈zl2 ds y,x.dst≠some t:=λt ht he=>by simp_all[clear,gB,vR,sF]
theorem zgL{ds:List (Option Nat)}{x y:Oper}(h:clear ds x y=true):∀ t,x.dst=some t->y.dst≠some t:=λt he hy=>by simp_all[clear,gB,vR]
theorem Ex.ext{all:List Oper}{o:Oper}{f:Nat->PV}{v:PV}{H':za}(h:eff o.op=false)(he:Ex P all true o f H v H')(K:za):Ex P all true o f (H++K) v (H++K):=by
 rcases he with⟨h1,h2,h3⟩|⟨h1,h2⟩
 .exact .inl ⟨h1,h2,rfl⟩
 .refine .inr ⟨h1,?_⟩;revert h2;split
  .rintro⟨rfl,h2⟩;exact⟨rfl,h2.ext K⟩
  .intro h2;obtain rfl:=zdh h h2;exact zl7 h (λ_ _ _=>zas) h2
theorem Ex.swap{all:List Oper}{g:Bool}:zjP (Ex P all g) (zoe (all.map (·.dst)) g):=by
 intro x o f H vx Hx v H1 hc hx ho;unfold zoe at hc;simp only[gB,wV,vR]at hc;obtain⟨⟨c1,c2⟩,c3⟩:=hc;have ho':Ex P all g o f Hx v H1:=ho.congr λt ht=>zcs (zbp c1 t ht);have hx':∀ K K',Ex P all g x f K vx K'->Ex P all g x (upd f o.dst v) K vx K':=λK K' h=>h.congr λt ht=>(zcs (zbp c2 t ht)).symm;have hcm:=zhP (f:=f) (u:=vx) (v:=v) (zgL c1);rcases c3 with((⟨e1,e2⟩|e1)|e1)|⟨rfl,e1,e2⟩
 .obtain rfl:=hx.noeff e1;obtain rfl:=ho'.noeff e2;exact⟨_,ho',hx' _ _ hx,hcm⟩
 .obtain⟨rfl,hp⟩:=hx.pure e1 H1;exact⟨H1,ho',hx' _ _ hp,hcm⟩
 .obtain⟨rfl,hp⟩:=ho'.pure e1 H;exact⟨H,hp,hx' _ _ hx,hcm⟩
 .obtain rfl:=hx.noeff e1;have hk:∃ K,H1=Hx++K:=by
   rcases ho' with⟨_,_,h3⟩|⟨_,h3⟩
   .simp_all
   grind[zmF,zsq]
  obtain⟨K,rfl⟩:=hk;exact⟨_,ho',hx' _ _ (hx.ext e1 K),hcm⟩
theorem Ex.step{ops:Array Oper}{g:Bool}:zjQ P N ops (Ex P ops.toList g):=by
 intro o f H v H' C a w hd hw hf he;rcases he with⟨h1,h2,h3⟩|⟨h1,h2⟩;all_goals have hwant:=zaw hf h1
 all_goals rw[rP]at hwant
 .exact .inl ⟨hwant,h2,h3⟩
 .refine .inr ⟨hwant,λnext Q hn=>zfk hd hw hf ?_ _ _ hn⟩;unfold Exec;split at h2;all_goals grind[CallD]
def VCd(P:Program)(g:Bool)(ds:List (Option Nat))(o:Oper)(F:Fr)(H:za)(K:Fr->za->Prop):Prop:=
 match zbq ds F o with
 | some true=>match zt o.op (slot F)with
  | some (fn,args)=>∃ v,CallD P g o.op fn args H v/\K (put F o.dst v) H
  | none=>False
 | some false=>K (put F o.dst (.tup [])) H
 | none=>False
def VOd(P:Program)(g:Bool)(ds:List (Option Nat)):List Oper->Option (Fr×za)->(Fr->za->Prop)->Prop
 | _,none,_=>False
 | [],some (F,H),K=>K F H
 | o::r,some (F,H),K=>match zX o.op with
  | false=>VOd P g ds r (stp P ds o F H) K
  | true=>VCd P g ds o F H λF' H'=>VOd P g ds r (some (F',H')) K
def VRd(P:Program)(g:Bool)(ds:List (Option Nat))(r:List Oper)(K:Fr->za->Prop)(F:Fr)(H:za):Prop:=VOd P g ds r (some (F,H)) K
theorem zwx(g:Bool)(ds:List (Option Nat))(K:Fr->za->Prop)(F:Fr)(H:za):VOd P g ds [] (some (F,H)) K=K F H:=rfl
theorem zi4(g:Bool)(ds:List (Option Nat))(l:List Oper)(K:Fr->za->Prop):VOd P g ds l none K=False:=by cases l<;>rfl
theorem zcL(g:Bool)(ds:List (Option Nat))(o:Oper)(r:List Oper)(K:Fr->za->Prop)(F:Fr)(H:za):
  VOd P g ds (o::r) (some (F,H)) K=match zX o.op with|false=>VOd P g ds r (stp P ds o F H) K|true=>VCd P g ds o F H (VRd P g ds r K):=by
 cases h:zX o.op with
 | false=>simp only[VOd,h]
 | true=>simp only[VOd,h];rfl
theorem VCd.call{g:Bool}{ds:List (Option Nat)}{o:Oper}{K:Fr->za->Prop}{fn:FuncId}{args:List PV}{v:PV}(h:CallD P g o.op fn args H v)(hw:zbq ds F o=some true)(hc:zt o.op (slot F)=some (fn,args))
  (hk:K (put F o.dst v) H):VCd P g ds o F H K:=by
 unfold VCd;rw[hw];simp only[hc];exact⟨v,h,hk⟩
theorem zpQ{g:Bool}{all:List Oper}{K:Fr->za->Prop}:∀(l:List Oper) (F:Fr) (H:za),VOd P g (all.map (·.dst)) l (some (F,H)) K->RunG (Ex P all g) l (slot F) H (λf H'=>∃ F',f=slot F'/\K F' H')
 | [],F,H,h=>⟨F,rfl,h⟩
 | o::r,F,H,h=>by
  have hcl:zX o.op=false->zt o.op (slot F)=none:=λhc=>by unfold zt;grind[zX]
  rw[zcL]at h;have go:∀ v H',Ex P all g o (slot F) H v H'->VOd P g (all.map (·.dst)) r (some (put F o.dst v,H')) K->RunG (Ex P all g) (o::r) (slot F) H (λf H'=>∃ F',f=slot F'/\K F' H'):=λv H' he hr=>by refine⟨v,H',he,?_⟩;rw[<-zaH];exact zpQ r _ _ hr
  cases hc:zX o.op with
  | false=>
   simp only[hc]at h;unfold stp at h;split at h
   .rename_i hb;split at h
    .rename_i v H' hp;exact go v H' (.inr ⟨zY all F o hb,by rw[hcl hc];exact hp⟩) h
    simp_all[zi4]
   .rename_i hb;exact go _ _ (.inl ⟨zY all F o hb,rfl,rfl⟩) h
   .rw[zi4]at h;exact h.elim
  | true=>
   simp only[hc]at h;unfold VCd at h;split at h
   .rename_i hb;split at h
    .rename_i fn args hp;obtain⟨v,h1,h2⟩:=h;exact go v H (.inr ⟨zY all F o hb,by rw[hp];exact⟨rfl,h1⟩⟩) h2
    simp_all
   .rename_i hb;exact go _ _ (.inl ⟨zY all F o hb,rfl,rfl⟩) h
   simp_all
theorem zmz(n:Nat):left n (qF n false)=qD n:=by simp_all[left,qG.2,wO.1,Array.getD]
theorem zws(ops:Array Oper):((qD ops.size).filterMap λi=>ops[i]?)=ops.toList:=by
 have:∀(l:List Oper),((qD l.length).filterMap λi=>l[i]?)=l:=by
  intro l;induction l with
  | nil=>rfl
  | cons x l ih=>simp_all[gZ,List.range_succ_eq_map,mQ,List.filterMap_map,Function.comp_def]
 have h:=this ops.toList;simp_all
def zgH(N:Nat)(ops:List Oper)(g:Bool:=false):Bool:=ziN (zoe (ops.map (·.dst)) g) N ops
section rules
variable {E:Env} {Q:Exit->Fr->za->Prop}
theorem PW.anyR{id:Nat}{ops:Array Oper}{cmp:Oper->Oper->Bool}{X:Oper->(Nat->PV)->za->PV->za->Prop}(hm:P.follows .mixedOrders=true)(hd:ziN cmp E.N ops.toList=true)(hswap:zjP X cmp)(hstep:zjQ P E.N ops X)
  (hr:RunG X ops.toList (slot F) H (λf H'=>∃ F',f=slot F'/\Q .normal F' H')):PW P E (.region id ops true) F H Q:=λhs C a w hdf hw hf=>by
 refine wp_region_any hm ?_;refine zwq (P:=P) (λi hi=>uJ.1 hd i (wO.2 hi)) hswap hstep ops.size (qF ops.size false) (slot F) H C a w.drew sp ?_ (by rw[zmz];simp) (by rw[zmz,zws];exact hr) hdf hw.drew hf ?_
 .intro i o ho hl j hj;have hi:i<ops.size:=(vJ.1 ho).1;simp[Array.getD,hi]at hl
 .rintro C' f' H' a' w' p1 p2 p3 p4 p5 ⟨F',rfl,p6⟩;exact⟨C',F',H',p1.toN _,p2,p3,((Below.refl C.B w).drew).trans p4,p5,p6⟩
theorem PW.drw{g:Bool}{id:Nat}{ops:Array Oper}(hm:P.follows .mixedOrders=true)(hd:zgH E.N ops.toList g=true)(h:∀ K:Fr->za->Prop,(∀ F' H',Q .normal F' H'->K F' H')->VOd P g (ops.toList.map (·.dst)) ops.toList (some (F,H)) K):
  PW P E (.region id ops true) F H Q:=PW.anyR hm hd Ex.swap Ex.step (zpQ _ _ _ (h _ λ_ _ h=>h))
theorem PW.draw{id:Nat}{ops:Array Oper}(hm:P.follows .mixedOrders=true)(hd:zgH E.N ops.toList=true)(h:∀ K:Fr->za->Prop,(∀ F' H',Q .normal F' H'->K F' H')->VOd P false (ops.toList.map (·.dst)) ops.toList (some (F,H)) K):PW P E (.region id ops true) F H Q:=PW.drw hm hd h
theorem PW.drawg{id:Nat}{ops:Array Oper}(hm:P.follows .mixedOrders=true)(hd:zgH E.N ops.toList true=true)(h:∀ K:Fr->za->Prop,(∀ F' H',Q .normal F' H'->K F' H')->VOd P true (ops.toList.map (·.dst)) ops.toList (some (F,H)) K):PW P E (.region id ops true) F H Q:=PW.drw hm hd h
end rules
end Go.Proofs.YtleejngibkbjnaaGreatDoor.Pm
namespace Go.Proofs.YtleejngibkbjnaaGreatDoor.Pm
open Go.ChangeShapes Go.WideShapes Go.ChangeAt Go.RowKit
variable {P:Program} {W:World}
theorem zlJ{t e:TypeId}{n fuel:Nat}{k:IntKind}{cs:List Value}{z:List Int}{p:List MemPlace}(ht:P.underlying t=some (.array n e))(he:P.underlying e=some (.int k))(hc:P.cellsOf e=1)
  (h:DataW.trod (λ_=>()) P W 0 (λ_=>true) false fuel t cs=some (.agg (z.map λx=>.lit (.int k x)),p)):∀(j:Nat) (x:Int),z[j]? =some x->cs[j]? =some (.int k x):=by
 obtain⟨xs,m,rfl,hx,hlen,hn,hel⟩:=DataW.trod_array ht h;intro j x hj;simp only[qE.injEq,DataW.agg.injEq]at hx;have hx1:=congrArg (λl=>l[j]?) hx.1;simp only[vD,hj,vM]at hx1;cases hy:xs[j]? with
 | none=>rw[hy]at hx1;cases hx1
 | some y=>
  rw[hy]at hx1;simp only[vM,qA.injEq]at hx1;have hjn:j<n:=by rw[<-hn];exact(gA.1 hy).1
  have hd:=hel j hjn;rw[hy,hc,sL]at hd;obtain⟨r,e1,e2,_⟩:=DataW.trod_int he hd;rw[e2]at hx1;simp only[DataW.lit.injEq,Lit.int.injEq,true_and]at hx1;subst hx1;have:=congrArg (λl=>l[0]?) e1;simpa using this
theorem zfS:∀{l:List (String×DataW Unit)} {ps:List MemPlace},DataW.LaidVars P W l ps->∀ x∈l,∃ g t cs fuel p,P.globalNamed x.1=some g/\(P.globals[g]?).map (·.type)=some t/\W.var? P x.1=some cs/\DataW.trod (λ_=>()) P W 0 (λ_=>true) false fuel t cs.toList=some (x.2,p)
 | [],_,_,x,hx=>by cases hx
 | (n,d)::r,ps,h,x,hx=>by
  obtain⟨g,t,cs,fuel,p,q,h1,h2,h3,h4,h5,_⟩:=h;rcases gM.1 hx with rfl|hx
  .exact⟨g,t,cs,fuel,p,h1,h2,h3,h4⟩
  .exact zfS h5 x hx
theorem zmG{l:List (String×DataW Unit)}{nm:String}{g n:Nat}{t e:TypeId}{k:IntKind}{z:List Int}(h:laidMet P l W)(hm:(nm,DataW.agg (z.map λx=>.lit (.int k x)))∈l)(hg:P.globalNamed nm=some g)(ht:(P.globals[g]?).map (·.type)=some t)
  (hu:P.underlying t=some (.array n e)) (he:P.underlying e=some (.int k)) (hc:P.cellsOf e=1):∀(j:Nat) (x:Int),z[j]? =some x->(Ctx.start W).M g j=some (.int k x):=λj x hj=>by
 obtain⟨ps,hv,_⟩:=h;obtain⟨g',t',cs,fuel,p,h1,h2,h3,h4⟩:=zfS hv _ hm;obtain rfl:=qA.inj (hg.symm.trans h1);obtain rfl:=qA.inj (ht.symm.trans h2);have h5:=zlJ hu he hc h4 j x hj;show W.cell? ⟨g,j,none⟩=_;rw[World.var?_cell hg h3 j,<-h5];simp
theorem zvT{l:List (String×DataW Unit)}(h:laidMetH Tryz.prog l W)(hl:(l.all λx=>x.2.handleName?.isNone)=true)
  (h1 : ("cutroom/quant.alternateScan", Rows.laid_cutroom_quant_alternateScan) ∈ l)
  (h2 : ("cutroom/quant.defaultIntra", Rows.laid_cutroom_quant_defaultIntra) ∈ l)
  :Glob (Ctx.start W).M:=by
 rw[MakeChecks.laidMetH_plain _ _ _ hl]at h;intro g l hg;unfold zyG at hg;split at hg
 .rename_i e;subst e;obtain rfl:=qA.inj hg;intro j x hj;unfold zAf at hj;rw[vD,gO]at hj;obtain⟨y,hy,rfl⟩:=hj;exact zmG (t:=139) h (k:=.i64) h1 kr kr Tryz.underlying139 Tryz.underlying3 kr j y hy
 split at hg
 .rename_i e;subst e;obtain rfl:=qA.inj hg;intro j x hj;unfold ztC at hj;rw[vD,gO]at hj;obtain⟨y,hy,rfl⟩:=hj;exact zmG (t:=35) h (k:=.u8) h2 kr kr Tryz.underlying35 Tryz.underlying5 kr j y hy
 cases hg
end Go.Proofs.YtleejngibkbjnaaGreatDoor.Pm
