/-
  Parts of the proof. No condition.
-/
import Derived.Test.YtleejngibkbjnaaGreatDoorW01
import Derived.Lib.AppendZeros
import Derived.Laws.StructEq
import Derived.ChangeKeysEq
import Derived.MapKept
open Array renaming range → qD
open Option renaming some → qA
open Prod renaming mk → qB
set_option linter.all false
set_option maxRecDepth 100000
set_option maxHeartbeats 32000000
namespace Go.Proofs.YtleejngibkbjnaaGreatDoor.Pm
open Go.RowKit
variable {P:Program} {C:Ctx} {H:za} {w:World} {F:Nat->PV} {a:Act} {N:Nat}
theorem zdn{v:PV}{u:Value}(h:v.cells.all PV.cell=true)(hv:VRel C v u):Rel C v.cells u.cells.toList/\u.cells.toList.length=v.cells.length:=by
 have single:v.cell=true->v.cells=[v]->Rel C v.cells u.cells.toList/\u.cells.toList.length=v.cells.length:=λhc he=>by
  have h1:=hv.oneCell hc;have hcells:u.cells= #[u]:=by cases u<;>first|rfl|(simp[Value.oneCell']at h1)
  rw[he,hcells];exact⟨.one hv,rfl⟩
 cases v with
 | agg cs=>
  cases hv with
  | agg hl hc hR=>exact⟨by simpa[PV.cells,Value.cells,Rel]using hR,by simp[PV.cells,Value.cells,hl]⟩
 | _=>first|exact single rfl rfl|(simp[PV.cells,PV.cell]at h)
theorem zmK:∀(vs:List Value) (k:Nat) (cs:Array Value) (off:Nat),off+k+vs.length<=cs.size->
  (((vs.zipIdx k).foldl (fun(cs:Array Value) (x:Value×Nat)=>cs.setIfInBounds (off+x.2) x.1) cs)).toList=cs.toList.take (off+k)++vs++cs.toList.drop (off+k+vs.length)
 | [],k,cs,off,_=>by simp
 | v::rest,k,cs,off,h=>by simp only[List.zipIdx_cons,List.foldl_cons];rw[zmK rest (k+1) _ off (by simp at h |-;omega)];have e:=list_seg_step cs.toList (off+k) v rest (by simp at h |-;omega);simpa[Array.toList_setIfInBounds,vT]using e
theorem zb5(place:Nat->Option (Nat×Nat)):∀(parts:List (Nat×PV)) (parts':List (Nat×Value)) (zs ys:List PV) (cs:Array Value),parts'.length=parts.length->
  (∀(j:Nat) (p:Nat×PV) (q:Nat×Value),parts[j]? =some p->parts'[j]? =some q->q.1=p.1/\VRel C p.2 q.2)->Rel C zs cs.toList->zs.length=cs.size->(∀ x∈zs,x.cell=true)->
  zdW place zs parts=some ys->∃ cs',Instr.fill place cs parts'=some cs'/\Rel C ys cs'.toList/\ys.length=cs'.size/\∀ x∈ys,x.cell=true
 | [],parts',zs,ys,cs,hl,_,hz,hzl,hzc,h=>by
  have:parts'=[]:=uU (by simpa using hl);subst this;simp only[zdW,qA.injEq]at h;subst h;exact⟨cs,rfl,hz,hzl,hzc⟩
 | (i,v)::rest,[],zs,ys,cs,hl,_,_,_,_,_=>by simp at hl
 | (i,v)::rest,(i',u)::rest',zs,ys,cs,hl,hp,hz,hzl,hzc,h=>by
  obtain⟨e0,hvu⟩:=hp 0 (i,v) (i',u) rfl rfl;simp only at e0 hvu;subst e0;simp only[zdW]at h;split at h
  .cases h
  .rename_i off size hpl;split at h
   .rename_i hq;obtain⟨hcr,hcl⟩:=zdn hq.2.2 hvu;have hcl':u.cells.size=v.cells.length:=om;have hfold:=zmK u.cells.toList 0 cs off (by simp;omega);simp only[vQ]at hfold;have hsp:=zh5 (off:=off) hcl hz hcr om (by simp;omega);have hlen:(zM zs off v.cells).length=zs.length:=ze9 _ _ _ om;let cs2:Array Value:=(u.cells.toList.zipIdx 0).foldl (fun(cs:Array Value) (x:Value×Nat)=>cs.setIfInBounds (off+x.2) x.1) cs;have h2:cs2.toList=cs.toList.take off++u.cells.toList++cs.toList.drop (off+u.cells.toList.length):=hfold;have h2s:cs2.size=cs.size:=by grind[Array.length_toList]
    obtain⟨cs',e1,e2,e3,e4⟩:=zb5 place rest rest' (zM zs off v.cells) ys cs2 (by simpa using hl) (λj p q hj hj'=>hp (j+1) p q (by simpa using hj) (by simpa using hj'))
     (by rw[h2];exact hsp) (by rw[hlen,h2s];exact hzl) (zgV hzc (λx hx=>uJ.1 hq.2.2 x hx)) h
    refine⟨cs',?_,e2,e3,e4⟩;have hc1:¬(u.cells.size≠size||off+u.cells.size>cs.size)=true:=by simp;omega
    simp only[Instr.fill,hpl,gC hc1];grind[Array.toList_zipIdx]
   .cases h
theorem zap{t:TypeId}{z:List PV}(h:zaL P t=some z):∃ i zv,P.info? t=some i/\i.zero=some zv/\(∀ C:Ctx,Rel C z zv.cells.toList)/\zv.cells.toList.length=z.length/\∀ x∈z,x.cell=true:=by
 unfold zaL zrT at h;cases hi:P.info? t with
 | none=>simp[hi]at h
 | some i=>
  cases hz:i.zero with
  | none=>simp[hi,hz]at h
  | some zv=>
   simp only[hi,hz,uO,vM]at h;split at h
   .rename_i hall;injection h with h;subst h;exact⟨i,zv,rfl,hz,λC=>(zdn hall (zfB zv)).1,(zdn (C:=⟨0,λ_ _=>none,[],[],[],0⟩) hall (zfB zv)).2,λx hx=>uJ.1 hall x hx⟩
   .cases h
theorem zjy:∀(fs:List Field),fs.all (λf=>(szT P f.type).isSome)=true->∃ places,fs.mapM (λf=>(P.info? f.type).map λi=>(f.offset,i.size))=some places/\∀ i,places[i]? =zaV P fs i
 | [],_=>⟨[],by simp,λi=>by simp[zaV]⟩
 | f::fs,h=>by
  simp only[dW,gB]at h;obtain⟨ps,e1,e2⟩:=zjy fs h.2;obtain⟨n,hn⟩:=Option.isSome_iff_exists.1 h.1;obtain⟨i,hi,hs⟩:=zba hn;refine⟨(f.offset,i.size)::ps,?_,?_⟩
  .simp_all
  grind[zaV]
theorem zgA(r:FRel C N F a)(parts:Array (Nat×Operand)):((parts.map fun(i,x)=>(i,a.eval x)).toList).length=(parts.toList.map λp=>(p.1,ev F p.2)).length/\
  ∀(j:Nat) (p:Nat×PV) (q:Nat×Value),(parts.toList.map λp=>(p.1,ev F p.2))[j]? =some p->((parts.map fun(i,x)=>(i,a.eval x)).toList)[j]? =some q->q.1=p.1/\VRel C p.2 q.2:=by
 refine⟨by simp,λj p q hp hq=> ?_⟩;simp only[Array.toList_map,vD,gO]at hp hq;obtain⟨x,hx,rfl⟩:=hp;obtain⟨y,hy,rfl⟩:=hq;rw[hx]at hy;injection hy with hy;subst hy;exact⟨rfl,zx r _⟩
theorem zkA{t:TypeId}{parts:List (Nat×PV)}{parts':Array (Nat×Value)}{v:PV}(hl:parts'.toList.length=parts.length)
  (hp:∀(j:Nat) (p:Nat×PV) (q:Nat×Value),parts[j]? =some p->parts'.toList[j]? =some q->q.1=p.1/\VRel C p.2 q.2) (h:zdG P t parts=some v):
  ∃ u,VRel C v u/\(Instr.build t parts').run P w= .ok u w:=by
 unfold zdG at h;split at h
 .rename_i fs z hu hz;obtain⟨i,zv,hi,hzv,hzr,hzl,hzc⟩:=zap hz;split at h
  .rename_i hall;obtain⟨ps,e1,e2⟩:=zjy fs.toList hall;simp only[gO]at h;obtain⟨ys,hys,rfl⟩:=h;have hpl:(λx=>ps.toArray[x]?)=zaV P fs.toList:=funext λi=>by simp_all
   obtain⟨cs',q1,q2,q3,q4⟩:=zb5 (C:=C) (zaV P fs.toList) parts parts'.toList z ys zv.cells hl hp (hzr C) (by simpa using hzl.symm) hzc hys;have hb:P.built t parts'.toList=some cs':=by unfold Program.built;simp_all
   exact⟨.agg cs',by simpa using VRel.agg (C:=C) (us:=cs'.toList) (by simpa using q3.symm) q4 q2,run_build w t parts' cs' hb⟩
  .cases h
 .rename_i len e z hu hz;obtain⟨i,zv,hi,hzv,hzr,hzl,hzc⟩:=zap hz;split at h
  .rename_i n hn;obtain⟨ie,hie,hs⟩:=zba hn;simp only[gO]at h;obtain⟨ys,hys,rfl⟩:=h;obtain⟨cs',q1,q2,q3,q4⟩:=zb5 (C:=C) _ parts parts'.toList z ys zv.cells hl hp (hzr C) (by simpa using hzl.symm) hzc hys;have hb:P.built t parts'.toList=some cs':=by unfold Program.built;simp_all
   exact⟨.agg cs',by simpa using VRel.agg (C:=C) (us:=cs'.toList) (by simpa using q3.symm) q4 q2,run_build w t parts' cs' hb⟩
  .cases h
 .cases h
theorem ze8(z:List PV)(hz:0<z.length):∀(n j:Nat),(zcc n z)[j]? =if j<n * z.length then z[j%z.length]? else none
 | 0,j=>by simp[zcc]
 | n+1,j=>by
  have e:zcc (n+1) z=z++zcc n z:=by rfl
  rw[e];by_cases hj:j<z.length
  .grind[List.getElem?_append_left,Nat.add_mul,Nat.mod_eq_of_lt]
  .rw[gN om,ze8 z hz n];have e2:(n+1) * z.length=n * z.length+z.length:=by grind
   have e3:j%z.length=(j - z.length)%z.length:=by conv=>lhs;rw[show j=(j - z.length)+z.length from om,Nat.add_mod_right]
   grind
theorem zaT(z:List PV)(n:Nat):(zcc n z).length=n * z.length:=by simp[zcc]
theorem zde{z:List PV}{n:Nat}(h:∀ x∈z,x.cell=true):∀ x∈zcc n z,x.cell=true:=λx hx=>by grind[zcc,List.mem_flatten]
theorem zen{z:List PV}{zv:Array Value}{n m:Nat}(hzl:zv.toList.length=z.length)(hz:Rel C z zv.toList)(hpos:0<z.length)(hm:n * z.length<=m):Rel C (zcc n z) ((qD m).map (zv[· %zv.size]!)).toList:=λj x u hx hu=>by
 rw[ze8 z hpos]at hx;split at hx
 .rename_i hj;have hzs:zv.size=z.length:=om;have hjm:j<m:=om;simp only[Array.toList_map,Array.toList_range,vD,dJ hjm,vM,qA.injEq]at hu;subst hu;have hlt:j%zv.size<zv.size:=rC _ om;rw[getElem!_pos zv _ hlt];exact hz (j%zv.size) x _ (by rw[hzs];exact hx) (by simp[hlt])
 .cases hx
theorem zfL{t:TypeId}{len:Nat}{parts:List (Nat×PV)}{parts':Array (Nat×Value)}{v:PV}(hw:WRel C H w)(hl:parts'.toList.length=parts.length)
  (hp:∀(j:Nat) (p:Nat×PV) (q:Nat×Value),parts[j]? =some p->parts'.toList[j]? =some q->q.1=p.1/\VRel C p.2 q.2) (h:zcU P t len parts=some v):
  ∃ C' u w',CLe C C'/\WRel C' H w'/\Below C.B w w'/\VRel C' v u/\(Instr.buildSlice t len parts').run P w= .ok u w':=by
 unfold zcU at h;split at h
 .rename_i e hu;split at h
  .rename_i n z hn hz;obtain⟨i,zv,hi,hzv,hzr,hzl,hzc⟩:=zap hz;obtain⟨ie,hie,hs⟩:=zba hn;rw[hi]at hie;injection hie with hie;subst hie;split at h
   .rename_i h0;injection h with h;subst h;obtain⟨rfl,h0⟩:=h0;have hp0:parts'.toList=[]:=uU om;obtain⟨c1,c2,c3⟩:=hw.allocImm #[] e;refine⟨_,_,_,c1,c2,c3,.sliceN (some ⟨w.heap.size,0,none⟩) true,?_⟩;simp[Instr.buildSlice,run_underlying hu,sizeOf,typeInfo,zeroValue,hi,hzv,hp0,Instr.fill,newRow];rw[show Array.map (λ_=>(default:Value)) (qD 0)= #[]from by apply sT;simp]
   split at h
   .rename_i hq;simp only[gO]at h;obtain⟨ys,hys,rfl⟩:=h;have hpos:0<z.length:=by grind
    have hmade:=zen (C:=C) (n:=len) (m:=len * i.size) hzl (hzr C) hpos (by rw[hs,hq.1];exact gV _);obtain⟨cs',q1,q2,q3,q4⟩:=zb5 (C:=C) (λi=>some (i * n,n)) parts parts'.toList (zcc len z) ys ((qD (len * i.size)).map (zv.cells[· %zv.cells.size]!)) hl hp hmade
     (by rw[zaT,hq.1,hs];simp) (zde hzc) hys
    have hr:=run_buildSlice (P:=P) w t e len parts' cs' i zv hu hi hzv (by rw[hs];have:=hq.2.2;omega) (by rw[hs];have:=hq.2.1;omega) (by rw[hs]at q1 |-;exact q1);obtain⟨c1,c2,c3⟩:=hw.allocImm cs' e;refine⟨_,_,_,c1,c2,c3,?_,hr⟩;refine VRel.slice (us:=cs'.toList) (o:=0) (by simpa using q3.symm) (λj u hj=> ?_) q4 (q2.mono c1) (gV _) ?_ (λ_=>rfl)
    .simp only[Ctx.imm,wN,wF];simpa using hj
    .have:len<=len * n:=sA len om;simp only[maxLen];omega
   .cases h
  .cases h
 .cases h
theorem zf6{t:TypeId}{n:Nat}(h:byT P t=some n):∃ i,P.info? t=some i/\i.bytes=n:=by simp_all[byT,none]
theorem zmd{t:TypeId}{l c v:PV}{p q:Value}{H':za}(hw:WRel C H w)(hl:VRel C l p)(hc:VRel C c q)(h:zme P H t l c=some (v,H')):
  ∃ C' u w',CLe C C'/\WRel C' H' w'/\Below C.B w w'/\VRel C' v u/\(Instr.makeSlice t p q).run P w= .ok u w':=by
 unfold zme at h;split at h
 .rename_i e kl l kc c hu;obtain rfl:=zL hl;obtain rfl:=zL hc;split at h
  .rename_i n b z hn hb hz;obtain⟨i,zv,hi,hzv,hzr,hzl,hzc⟩:=zap hz;obtain⟨ie,hie,hs⟩:=zba hn;obtain⟨ib,hib,hby⟩:=zf6 hb;rw[hi]at hie hib;injection hie with hie;injection hib with hib;subst hie hib;split at h
   .rename_i hq;simp only[qA.injEq,qB.injEq]at h;obtain⟨rfl,rfl⟩:=h;have hr:=run_make (P:=P) w t e i zv hu hi hzv kl kc l c hq.1 hq.2.1 (by rw[hby];have:=hq.2.2.1;omega) (by have:=hq.2.2.2.1;omega);have hcn:l.toNat * z.length<=c.toNat * i.size:=by rw[hs,hq.2.2.2.2.1];exact gT n om
    have hmade:=zen (C:=C) (n:=l.toNat) (m:=c.toNat * i.size) hzl (hzr C) (by rw[hq.2.2.2.2.1];exact hq.2.2.2.2.2) hcn;obtain⟨c1,c2,c3⟩:=hw.allocOwn (madeCells zv.cells (c.toNat * i.size)) e (zcc l.toNat z) 0 (zde hzc) (by rw[zaT,size_madeCells];exact hcn) (λj x u hx hu=>hmade j x u hx (by rw[rJ];exact hu));refine⟨_,_,_,c1,c2,c3,?_,hr⟩;refine .msl ?_ ?_ om (by have:=hq.2.2.2.1;simp only[maxLen];omega) (λ_=>⟨rfl,?_⟩)
    .simp[Ctx.more,<-hw.len]
    .simp[Ctx.more,<-hw.lenv]
    .simp[Ctx.more,<-hw.lenc,size_madeCells,hs]
   .cases h
  .cases h
 .cases h
theorem zcj{sz n:Nat}{x:PV}{v:Value}{ys:List PV}(hw:WRel C H w)(hx:VRel C x v)(h:zcb H sz x=some (ys,n)):
  ∃ ad cap us,v= .slice ad n cap/\n<=cap/\us.length=ys.length/\ys.length=n * sz/\Rel C ys us/\(∀ x∈ys,x.cell=true)/\((n=0/\us=[])\/∃ b o,ad=some ⟨b,o,none⟩/\At w b o us):=by
 unfold zcb at h;split at h
 .rename_i xs len full;split at h
  .rename_i hq;simp only[qA.injEq,qB.injEq]at h;obtain⟨rfl,rfl⟩:=h;cases hx with
   | @slice _ _ cap b o _ us hl hM hc hR hcap hmax hf=>exact⟨_,cap,us,rfl,hcap,hl,hq,hR,hc,.inr ⟨b,o,rfl,hw.at_imm hM⟩⟩
   | sliceN=>exact⟨_,0,[],rfl,gV _,rfl,by simp,λj x u hx=>by simp at hx,λx hx=>by simp at hx,.inl ⟨rfl,rfl⟩⟩
  .cases h
 .rename_i id ver off len sz' g;split at h
  .rename_i k hk;split at h
   .rename_i hq;simp only[qA.injEq,qB.injEq]at h;obtain⟨rfl,rfl⟩:=h;have q2:=hw.ver _ k hk;rw[hq.1]at q2;obtain⟨b,cap,off',q1,rfl,hc1,hc2,ho,_⟩|⟨ad,hgh,h0,rfl⟩:=zbC hw hx q2;rotate_left
    .subst h0;exact⟨ad,0,[],rfl,gV _,by simp,by simp,λj x u hx=>by simp at hx,λx hx=>by simp at hx,.inl ⟨rfl,rfl⟩⟩
    obtain⟨cur,q3,q5,q6,q7,q8,q9,q10⟩:=hw.blk hk q1;have hl1:((k.cells.drop off).take (len * sz)).length=len * sz:=by simp;omega
    refine⟨_,cap,((cur.toList.take k.cells.length).drop off).take (len * sz),rfl,hc1,?_,hl1,(q9.drop off).take _,λx hx=>q6 x (wL (vI hx)),.inr ⟨b,off',rfl,?_⟩⟩
    .rw[hl1];simp;omega
    .rcases vS len with h0|h0
     .subst h0;intro j u hu;simp at hu
     .obtain rfl:=ho h0;have:=(q8.drop off').take (len * sz);rwa[wF]at this
   .cases h
  .cases h
 .cases h
theorem zdl{sz n cap:Nat}{ad:Option Addr}{us:List Value}(hl:us.length=n * sz)(h:(n=0/\us=[])\/∃ b o,ad=some ⟨b,o,none⟩/\At w b o us):
  (Builtin.firstCells sz n (.slice ad n cap)).run P w= .ok us.toArray w:=by
 rcases h with⟨rfl,rfl⟩|⟨b,o,rfl,hat⟩
 .cases ad with
  | none=>exact run_firstCells_none w sz 0 0 cap
  | some a=>exact run_firstCells_some w sz 0 a 0 cap [] hl (λj v hv=>by simp at hv)
 .exact run_firstCells_some w sz n ⟨b,o,none⟩ n cap us hl (λj v hv=>by rw[Addr.add_lit];exact hat j v hv)
end Go.Proofs.YtleejngibkbjnaaGreatDoor.Pm
namespace Go.Proofs.YtleejngibkbjnaaGreatDoor.Pm
open Go.RowKit
variable {P:Program} {C:Ctx} {H:za} {w:World} {F:Nat->PV} {a:Act} {N:Nat}
def App(P:Program)(i:TypeInfo)(z:Value)(tx:TypeId)(x:Value)(n:Nat)(news:List Value)(w:World):Prop:=Src P i.size tx x n news w\/∃ kn kq,P.underlying tx=some (.int kn)/\x= .int kq (n:Int)/\news=(Builtin.zeroCells z.cells n).toList/\n<=1048576/\z.cells.size=i.size
theorem zux{t tx ty e:TypeId}{i:TypeInfo}{z:Value}(ht:P.underlying t=some (.slice e))(hi:P.info? e=some i)(hz:i.zero=some z){b off sLen sCap n:Nat}{x:Value}{news:List Value}{w':World}
  (ha:App P i z tx x n news w) (hroom:sLen+n<=sCap) (hby:n * i.bytes<=140737488355328) (hst:(storeCells ⟨b,off+sLen * i.size,none⟩ news).run P w= .ok () w'):
  (Builtin.append_ #[t,tx] ty #[.slice (some ⟨b,off,none⟩) sLen sCap,x]).run P w= .ok (.slice (some ⟨b,off,none⟩) (sLen+n) sCap) w':=by
 rcases ha with hs|⟨kn,kq,htn,rfl,rfl,hn,hsz⟩
 .rcases hs.kind with⟨e',hk⟩|hk<;>simp[Builtin.append_,run_underlying ht,run_underlying hk,sizeOf,typeInfo,hi,hs.len,hroom,hs.cells,Addr.add_lit,hst]
 .have hw:IntKind.i64.wrap (n:Int)=n:=by rw[IntKind.wrap_i64];omega
  have h48i:¬(281474976710656<(n:Int) * (i.bytes:Int)):=om;have hneg:¬((n:Int)<0):=om;by_cases hns:n * i.size=0
  .have hz0:(Builtin.zeroCells z.cells n).toList=[]:=by apply uU;rw[dK,size_zeroCells,hsz];exact hns
   rw[hz0]at hst;have hns':n=0\/i.size=0:=mD.1 hns;simp[Builtin.append_,run_underlying ht,run_underlying htn,sizeOf,typeInfo,hi,asInt,asIntOf,hw,hneg,hns,h48i,hroom,Addr.add_lit,hst]
  .have hns':¬(n=0\/i.size=0):=λhh=>hns (mD.2 hh);simp[Builtin.append_,run_underlying ht,run_underlying htn,sizeOf,typeInfo,zeroValue,hi,hz,asInt,asIntOf,hw,hneg,hns,h48i,hroom,Addr.add_lit,hst]
theorem zeA{t tx ty e:TypeId}{i:TypeInfo}{z:Value}(ht:P.underlying t=some (.slice e))(hi:P.info? e=some i){base:Option Addr}{sLen sCap:Nat}{x:Value}{news:List Value}
  (ha:App P i z tx x 0 news w) (hle:sLen<=sCap):(Builtin.append_ #[t,tx] ty #[.slice base sLen sCap,x]).run P w= .ok (.slice base sLen sCap) w:=by
 rcases ha with hs|⟨kn,kq,htn,rfl,rfl,hn,hsz⟩
 .have hnil:news=[]:=uU (by simpa using hs.newsLen);subst hnil;have hcells:=hs.cells;rcases hs.kind with⟨e',hk⟩|hk<;>cases base<;>simp[Builtin.append_,run_underlying ht,run_underlying hk,sizeOf,typeInfo,hi,hs.len,hle,hcells,storeCells]
 .have hw:IntKind.i64.wrap 0=0:=by rw[IntKind.wrap_i64];omega
  cases base<;>simp[Builtin.append_,run_underlying ht,run_underlying htn,sizeOf,typeInfo,hi,asInt,asIntOf,hw,hle,storeCells]
theorem zm2{t tx ty e:TypeId}{i:TypeInfo}{z:Value}(ht:P.underlying t=some (.slice e))(hi:P.info? e=some i)(hz:i.zero=some z){base:Option Addr}{sLen sCap n:Nat}{x:Value}{olds news:List Value}
  (hold:(Builtin.firstCells i.size sLen (.slice base sLen sCap)).run P w.drew= .ok olds.toArray w.drew) (ha:App P i z tx x n news w)
  (hg:sCap<sLen+n) (h47:(sLen+n) * i.bytes<=140737488355328) (hm:sLen+n<=140737488355328) (hs0:0<i.size):
  (Builtin.append_ #[t,tx] ty #[.slice base sLen sCap,x]).run P w= .ok (.slice (some ⟨w.heap.size,0,none⟩) (sLen+n) (grownCap w (sLen+n) sCap e))
    (w.drew.alloc (.cells ((olds++news).toArray++Builtin.zeroCells z.cells (grownCap w (sLen+n) sCap e - (sLen+n))) e)):=by
 have hfit:=growslice_fits hg h47;rcases ha with hs|⟨kn,kq,htn,rfl,rfl,hn,hsz⟩
 .exact run_append_grow_src w t tx ty e i z ht hi hz base sLen sCap olds hold x n news hs hg om hfit
 .have hw:IntKind.i64.wrap (n:Int)=n:=by rw[IntKind.wrap_i64];omega
  have hnb:n * i.bytes<=(sLen+n) * i.bytes:=gT _ om;have hnr:¬(sLen+n<=sCap):=om;have h63':¬(9223372036854775807<((sLen:Int)+(n:Int))):=om;have h48':¬(281474976710656<Builtin.nextslicecap (sLen+n) sCap * i.bytes):=om;have h48i:¬(281474976710656<(n:Int) * (i.bytes:Int)):=om;have hneg:¬((n:Int)<0):=om;rcases vS n with h0|h0
  .subst h0;have hz0:(Builtin.zeroCells z.cells 0).toList=[]:=by apply uU;rw[dK,size_zeroCells];simp
   rw[hz0];simp only[vQ]at hnr h48' |-;have h63'':¬(9223372036854775807<(sLen:Int)):=om;have hw0:IntKind.i64.wrap 0=0:=by rfl
   simp[Builtin.append_,run_underlying ht,run_underlying htn,sizeOf,typeInfo,zeroValue,hi,hz,asInt,asIntOf,hw0,hnr,h63'',h48',Question.forced,hold,newRow,grownCap]
  .have hns:¬(n * i.size=0):=Nat.mul_ne_zero om om;have hns':¬(n=0\/i.size=0):=λhh=>hns (mD.2 hh);simp[Builtin.append_,run_underlying ht,run_underlying htn,sizeOf,typeInfo,zeroValue,hi,hz,asInt,asIntOf,hw,hnr,hneg,hns,h63',h48',h48i,Question.forced,hold,newRow,grownCap];congr 2;apply sT;simp[gU]
theorem zq2{z:List PV}{zv:Value}{n:Nat}(hzl:zv.cells.toList.length=z.length)(hz:Rel C z zv.cells.toList)(hpos:0<z.length):Rel C (zcc n z) (Builtin.zeroCells zv.cells n).toList:=by have hs:zv.cells.size=z.length:=om;have:=zen (C:=C) (n:=n) (m:=n * zv.cells.size) hzl hz hpos (by rw[hs];exact gV _);exact this
theorem zf9{e sz n:Nat}{tx:TypeId}{x:PV}{v:Value}{news:List PV}{i:TypeInfo}{zv:Value}{z:List PV}(hw:WRel C H w)(hx:VRel C x v)(hi:P.info? e=some i)(hs:i.size=sz)(hz:i.zero=some zv)
  (hzc:zaL P e=some z) (hzl':z.length=sz) (hpos:0<sz) (h:zbI P H e sz tx x=some (news,n)):
  ∃ us,App P i zv tx v n us w/\Rel C news us/\us.length=news.length/\news.length=n * sz/\∀ x∈news,x.cell=true:=by
 unfold zbI at h;split at h
 .rename_i e' hu;obtain⟨ad,cap,us,rfl,hcap,hl,hn,hR,hc,hat⟩:=zcj hw hx h;refine⟨us,.inl ⟨.inl ⟨e',hu⟩,λ_=>rfl,?_,?_,by rw[hl,hn,hs],hR.oneCell hl hc⟩,hR,hl,hn,hc⟩
  .rw[hs];exact zdl om hat
  .rw[hs];exact zdl (w:=w.drew) om (by rcases hat with h1|⟨b,o,h1,h2⟩;exact .inl h1;exact .inr ⟨b,o,h1,h2⟩)
 .rename_i kn k nn hu;rw[hzc]at h;simp only at h;split at h
  .rename_i hq;simp only[qA.injEq,qB.injEq]at h;obtain⟨rfl,rfl⟩:=h;obtain rfl:=zL hx;obtain⟨i',zv',hi',hzv',hzr,hzl,hzcc⟩:=zap hzc;rw[hi]at hi';injection hi' with hi';subst hi';rw[hz]at hzv';injection hzv' with hzv';subst hzv';have hsz:zv.cells.size=sz:=by simp_all
   refine⟨(Builtin.zeroCells zv.cells nn.toNat).toList,.inr ⟨kn,k,hu,by congr 1;omega,rfl,om,by rw[hsz,hs]⟩,zq2 hzl (hzr C) om,?_,?_,zde hzcc⟩
   .rw[dK,size_zeroCells,zaT,hsz,hzl']
   .rw[zaT,hzl']
  .cases h
 .rename_i s hu;split at h
  .rename_i h1;simp only[qA.injEq,qB.injEq]at h;obtain⟨rfl,rfl⟩:=h;obtain⟨s',rfl,rfl⟩:=zbB hx;have hsz:s'.size=s'.data.toList.length:=by rfl
   refine⟨byteCells s',.inl ?_,?_,?_,?_,?_⟩
   .rw[hs,h1,<-hsz];exact Src.ofString w hu s'
   .intro j x u hx hu;simp only[byteCells,vD,gO]at hx hu;obtain⟨b,hb,rfl⟩:=hx;obtain⟨b',hb',rfl⟩:=hu;rw[hb]at hb';injection hb' with hb';subst hb';exact .int _ _
   .simp[byteCells]
   .simp[h1]
   .intro x hx;obtain⟨b,_,rfl⟩:=vW.1 hx;rfl
  .cases h
 .cases h
theorem zjd{t tx ty:TypeId}{s x v:PV}{p q:Value}{H':za}(hw:WRel C H w)(hsv:VRel C s p)(hx:VRel C x q)(h:pappend P H t tx s x=some (v,H')):
  ∃ C' u w',CLe C C'/\WRel C' H' w'/\Below C.B w w'/\VRel C' v u/\(Builtin.append_ #[t,tx] ty #[p,q]).run P w= .ok u w':=by
 unfold pappend at h;split at h
 .rename_i e hu;split at h
  .rename_i sz b z hn hb hz;split at h
   .rename_i hpz;obtain⟨i,zv,hi,hzv,hzr,hzl,hzc⟩:=zap hz;obtain⟨ie,hie,hs⟩:=zba hn;obtain⟨ib,hib,hby⟩:=zf6 hb;rw[hi]at hie hib;injection hie with hie;injection hib with hib;subst hie hib;split at h
    .rename_i news n hsrc;obtain⟨us,happ,hRn,hln,hnn,hcn⟩:=zf9 hw hx hi hs hzv hz hpz.2 hpz.1 hsrc;have hzsize:∀ m,(Builtin.zeroCells zv.cells m).size=m * sz:=λm=>by rw[size_zeroCells,<-dK,hzl,hpz.2]
     have grown:∀(xs:List PV) (len cap:Nat) (ad:Option Addr) (os:List Value),os.length=xs.length->xs.length=len * sz->Rel C xs os->cap<len+n->(len+n) * b<=140737488355328->len+n<=140737488355328->
       ((len=0/\os=[])\/∃ b o,ad=some ⟨b,o,none⟩/\At w b o os)->
       ∃ cur nc,(Builtin.append_ #[t,tx] ty #[.slice ad len cap,q]).run P w= .ok (.slice (some ⟨w.heap.size,0,none⟩) (len+n) nc) (w.drew.alloc (.cells cur e))/\Rel C (xs++news) cur.toList/\
        (xs++news).length<=cur.size/\cur.size=nc * sz/\len+n<=nc/\nc<=maxLen:=by
      intro xs len cap ad os hos hxs hR hg h47 hm hat;have hold:(Builtin.firstCells i.size len (.slice ad len cap)).run P w.drew= .ok os.toArray w.drew:=by rw[hs];exact zdl (w:=w.drew) om (by rcases hat with h1|⟨b,o,h1,h2⟩;exact .inl h1;exact .inr ⟨b,o,h1,h2⟩)
      have hr:=zm2 (P:=P) (ty:=ty) hu hi hzv hold happ hg (by rw[hby];exact h47) hm (by rw[hs];exact hpz.1);have hge:=grownCap_ge w (len+n) cap e;refine⟨_,_,hr,?_,?_,?_,hge,grownCap_le_maxLen w _ _ _ (by simp only[maxLen];omega)⟩
      .intro j x u hx hu';have hlt:j<(xs++news).length:=(gA.1 hx).1;refine Rel.append hos hR hRn j x u hx ?_;rw[nI,gK (by simp at hlt |-;omega)]at hu';exact hu'
      .simp;omega
      .rw[Array.size_append,hzsize];simp only[List.size_toArray,gP,hos,hxs,hln,hnn,<-vE];congr 1;omega
     split at h
     .rename_i xs len full;split at h
      .rename_i h0;subst h0;simp only[qA.injEq,qB.injEq]at h;obtain⟨rfl,rfl⟩:=h;have hle:∃ ad cap,p= .slice ad len cap/\len<=cap:=by
        cases hsv with
        | slice _ _ _ _ hcap _ _=>exact⟨_,_,rfl,hcap⟩
        | sliceN=>exact⟨_,_,rfl,gV _⟩
       obtain⟨ad,cap,rfl,hle⟩:=hle;exact⟨C,_,w,.refl _,hw,.refl _ _,hsv,zeA hu hi happ hle⟩
      .rename_i h0;split at h
       .rename_i hq;simp only[qA.injEq,qB.injEq]at h;obtain⟨rfl,rfl⟩:=h;have hshape:∃ ad os,p= .slice ad len len/\os.length=xs.length/\Rel C xs os/\(∀ x∈xs,x.cell=true)/\((len=0/\os=[])\/∃ b o,ad=some ⟨b,o,none⟩/\At w b o os):=by
         cases hsv with
         | @slice _ _ cap b' o' _ us' hl' hM' hc' hR' hcap' hmax' hf'=>rw[hf' hq.1];exact⟨_,us',rfl,hl',hR',hc',.inr ⟨b',o',rfl,hw.at_imm hM'⟩⟩
         | sliceN=>exact⟨_,[],rfl,rfl,λj x u hx=>by simp at hx,λx hx=>by simp at hx,.inl ⟨rfl,rfl⟩⟩
        obtain⟨ad,os,rfl,hos,hRx,hcx,hat⟩:=hshape;obtain⟨cur,nc,hr,r1,r2,r3,r4,r5⟩:=grown xs len len ad os hos hq.2.1 hRx om hq.2.2.1 hq.2.2.2 hat;obtain⟨c1,c2,c30⟩:=hw.drew.allocOwn cur e (xs++news) (xs++news).length (λx hx=>by rcases uF.1 hx with hx|hx;exact hcx x hx;exact hcn x hx) r2 (λj x u hx hu=>r1 j x u hx (by simpa using hu));have c3:=((Below.refl C.B w).drew).trans c30;refine⟨_,_,_,c1,c2,c3,?_,hr⟩;refine .msl ?_ ?_ r4 r5 (λ_=>⟨rfl,?_⟩)
        .simp[Ctx.more,<-hw.len]
        .simp[Ctx.more,<-hw.lenv]
        .simp[Ctx.more,<-hw.lenc,r3]
       .cases h
     .rename_i id ver off len sz' g;split at h
      .rename_i k hk;split at h
       .rename_i hq;obtain⟨hver,hgt,hoff,hsz,hke,hkl,hvl,h47,hmx⟩:=hq;subst hver hgt hoff hsz;have hid:id<H.length:=(gA.1 hk).1;obtain⟨bb,cap,off',q1,rfl,hc1,hc2,ho,hg⟩|⟨ad,hgh,hl0,rfl⟩:=zbC hw hsv (hw.ver id k hk);rotate_left
        .subst hl0;split at h
         .rename_i h0;subst h0;simp only[qA.injEq,qB.injEq]at h;obtain⟨rfl,rfl⟩:=h;exact⟨C,_,w,.refl _,hw,.refl _ _,hsv,zeA hu hi happ (gV _)⟩
         .rename_i h0;simp only[qA.injEq,qB.injEq]at h;obtain⟨rfl,rfl⟩:=h;subst hke;have hnil:k.cells=[]:=uU om;have hnp:0<news.length:=by simp_all[dS];omega
          obtain⟨cur',nc,hr,r1,r2,r3,r4,r5⟩:=grown k.cells 0 0 ad [] (by simp[hnil]) (by simp[hnil]) (by rw[hnil];exact λj x u hx=>by simp at hx) om h47 hmx (.inl ⟨rfl,rfl⟩);obtain⟨c1,c2,c30⟩:=hw.drew.move hk (k.cells++news).length (by rw[gP];omega) (k.cells++news) cur' (λx hx=>by rcases uF.1 hx with hx|hx;(rw[hnil]at hx;cases hx);exact hcn x hx) r2 (λj x u hx hu=>r1 j x u hx (by simpa using hu));have c3:=((Below.refl C.B w).drew).trans c30;refine⟨_,_,_,c1,c2,c3,?_,hr⟩;refine .msl (b:=w.heap.size) ?_ ?_ r4 r5 (λ_=>⟨rfl,?_⟩)
          .show(C.mu.set id (some w.heap.size))[id]? =_;simp[hw.len,hid]
          .simp[hw.lenv,hid]
          .simp[hw.lenc,hid,r3]
        obtain⟨cur,q3,q5,q6,q7,q8,q9,q10⟩:=hw.blk hk q1;have q2:=hw.ver id k hk;obtain⟨_,rfl,hcp⟩:=hg rfl;rw[q3]at hcp;injection hcp with hcp;split at h
        .rename_i h0;subst h0;simp only[qA.injEq,qB.injEq]at h;obtain⟨rfl,rfl⟩:=h;exact⟨C,_,w,.refl _,hw,.refl _ _,hsv,zeA hu hi happ hc1⟩
        .rename_i h0;simp only[qA.injEq,qB.injEq]at h;obtain⟨rfl,rfl⟩:=h;subst hke;have hRk:Rel C k.cells cur.toList:=by obtain⟨cur2,_,_,r5,_,_,r8⟩:=hw.own id k bb hk q1;rw[q5]at r5;injection r5 with r5;injection r5 with r5;subst r5;exact λj x u hx hu=>r8 j x u hx (by simpa using hu)
         by_cases hroom:len+n<=cap
         .have hfit:len * sz'+us.length<=cur.size:=by rw[hcp,hln,hnn,<-vE];exact gT _ hroom
          have hst:=run_storeCells_at P bb (len * sz') k.e us 0 cur w q5 om (hRn.oneCell hln hcn);rw[vQ]at hst;have hr:=zux (P:=P) (t:=t) (tx:=tx) (ty:=ty) (b:=bb) (off:=0) (sLen:=len) (sCap:=cap) hu hi hzv happ hroom
           (by rw[hby];exact Nat.le_trans (gT _ om) h47) (by rw[wF,hs];exact hst)
          have hsize:(cur.toList.take (len * sz')++us++cur.toList.drop (len * sz'+us.length)).toArray.size=cur.size:=by simp;omega
          obtain⟨c1,c2,c3⟩:=hw.write hk q1 q5 (k.cells++news).length (by rw[gP];omega) (k.cells++news) (cur.toList.take (len * sz')++us++cur.toList.drop (len * sz'+us.length)).toArray hsize
           (λx hx=>by rcases uF.1 hx with hx|hx;exact q6 x hx;exact hcn x hx) (by rw[hsize];simp;omega) (λj x u hx hu=>by
            have hlt:j<(k.cells++news).length:=(gA.1 hx).1;have hu2:(cur.toList.take (len * sz')++us++cur.toList.drop (len * sz'+us.length))[j]? =some u:=by simpa using hu
            rw[gK (by simp at hlt |-;omega)]at hu2;refine Rel.append (C:=C) (by simp;omega) (us:=cur.toList.take (len * sz')) ?_ hRn j x u hx hu2;rw[<-hkl];exact q9)
          refine⟨_,_,_,c1,c2,c3,?_,hr⟩;refine .msl q1 ?_ hroom hc2 (λ_=>⟨rfl,?_⟩)
          .simp[hw.lenv,hid]
          .show C.cp[id]? =_;rw[q3,hcp]
         .obtain⟨cur',nc,hr,r1,r2,r3,r4,r5⟩:=grown k.cells len cap (some ⟨bb,0,none⟩) (cur.toList.take k.cells.length) q10 hkl q9 om h47 hmx (.inr ⟨bb,0,rfl,q8⟩);obtain⟨c1,c2,c30⟩:=hw.drew.move hk (k.cells++news).length (by rw[gP];exact Nat.lt_of_le_of_lt hvl (Nat.lt_add_of_pos_right (by rw[hnn];exact dS om hpz.1))) (k.cells++news) cur' (λx hx=>by rcases uF.1 hx with hx|hx;exact q6 x hx;exact hcn x hx) r2 (λj x u hx hu=>r1 j x u hx (by simpa using hu));have c3:=((Below.refl C.B w).drew).trans c30;refine⟨_,_,_,c1,c2,c3,?_,hr⟩;refine .msl ?_ ?_ r4 r5 (λ_=>⟨rfl,?_⟩)
          .simp[hw.len,hid]
          .simp[hw.lenv,hid]
          .simp[hw.lenc,hid,r3]
       .cases h
      .cases h
     .cases h
    .cases h
   .cases h
  .cases h
 .cases h
end Go.Proofs.YtleejngibkbjnaaGreatDoor.Pm
namespace Go.Proofs.YtleejngibkbjnaaGreatDoor.Pm
open Go.RowKit
variable {P:Program} {C:Ctx} {H:za} {w:World} {F:Nat->PV} {a:Act} {N:Nat}
theorem zxS{a b:List UInt8}{p q:ByteArray}(hp:p.data.toList=a)(hq:q.data.toList=b):(p.toList==q.toList)=(a==b):=by rw[ByteArray.toList_eq,ByteArray.toList_eq,hp,hq]
theorem zip{d:Nat}{t:TypeId}{u:TypeDesc}{x y:PV}{p q:Value}{b:Bool}(hu:P.underlying t=some u)(hx:VRel C x p)(hy:VRel C y q)(h:zek u x y=some b):(Op.equalIn (d+1) t p q).run P w= .ok b w:=by
 unfold zek at h;split at h
 .obtain rfl:=zL hx;obtain rfl:=zL hy;split at h
  .rename_i hk;subst hk;injection h with h;subst h;exact run_equalIn_int w d t _ _ _ _ hu
  .cases h
 .obtain rfl:=zar hx;obtain rfl:=zar hy;injection h with h;subst h;exact run_equalIn_bool' w d t _ _ hu
 .obtain⟨s,rfl,e1⟩:=zbB hx;obtain⟨s',rfl,e2⟩:=zbB hy;injection h with h;subst h;rw[run_equalIn_string w d t _ _ hu,zxS e1 e2]
 .cases h
theorem zr6{e:TypeId}{u:TypeDesc}(h:zdc P e=some u):P.underlying e=some u/\zd1 P e=some false:=by grind[zdc,zd1]
theorem ziq{d e:Nat}{u:TypeDesc}(hs:zdc P e=some u){us vs:List Value}:∀(xs ys:List PV) (j:Nat) (b:Bool),(∀(i:Nat) (x:PV),xs[i]? =some x->∃ u,us[j+i]? =some u/\VRel C x u)->
  (∀(i:Nat) (x:PV),ys[i]? =some x->∃ u,vs[j+i]? =some u/\VRel C x u)->zel u xs ys=some b->(Op.eqItems (d+1) e 1 us.toArray vs.toArray (List.range' j xs.length)).run P w= .ok b w
 | [],[],j,b,hx,hy,h=>by simp only[zel,qA.injEq]at h;subst h;simp[Op.eqItems]
 | [],_::_,j,b,hx,hy,h=>by simp[zel]at h
 | _::_,[],j,b,hx,hy,h=>by simp[zel]at h
 | x::xs,y::ys,j,b,hx,hy,h=>by
  obtain⟨hu,hna⟩:=zr6 hs;simp only[zel]at h;split at h
  .rename_i c hc;simp only[gO]at h;obtain⟨r,hr,rfl⟩:=h;obtain⟨u1,hu1,hux⟩:=hx 0 x rfl;obtain⟨v1,hv1,hvy⟩:=hy 0 y rfl;have ih:=ziq hs (d:=d) (us:=us) (vs:=vs) xs ys (j+1) r (λi x hx'=>by
    have:=hx (i+1) x (by simpa using hx');rw[show j+1+i=j+(i+1)from om];exact this) (λi x hx'=>by
    have:=hy (i+1) x (by simpa using hx');rw[show j+1+i=j+(i+1)from om];exact this) hr
   rw[vQ]at hu1 hv1;have p1:(part e us.toArray (j * 1)).run P w= .ok u1 w:=by simp[part,zdp hna,hu1]
   have p2:(part e vs.toArray (j * 1)).run P w= .ok v1 w:=by simp[part,zdp hna,hv1]
   rw[gZ,mC];simp only[Op.eqItems,Sem.run_bind,p1,p2,Result.andThen_ok,zip (d:=d) hu hux hvy hc];cases c with
   | false=>simp
   | true=>simpa using ih
  .cases h
theorem zir{d:Nat}{eq:TypeId->PV->PV->Option Bool}{xs ys:List PV}{us vs:List Value}(hlx:us.length=xs.length)(hcx:∀ x∈xs,x.cell=true)(hRx:Rel C xs us)(hly:vs.length=ys.length)(hcy:∀ x∈ys,x.cell=true)(hRy:Rel C ys vs)
  (heq:∀ t x y p q b,VRel C x p->VRel C y q->eq t x y=some b->(Op.equalIn d t p q).run P w= .ok b w):∀(fs:List Field) (b:Bool),zcl eq P xs ys fs=some b->(Op.eqFields d us.toArray vs.toArray fs).run P w= .ok b w
 | [],b,h=>by simp only[zcl,qA.injEq]at h;subst h;simp[Op.eqFields]
 | f::fs,b,h=>by
  simp only[zcl]at h;split at h
  .cases h
  ·rename_i hn;have hn' : f.name ≠ "_" := vH hn
   split at h
   .rename_i a c ha hc;split at h
    .rename_i r hr;simp only[gO]at h;obtain⟨q,hq,rfl⟩:=h;obtain⟨p1,hp1,e1⟩:=zbR (P:=P) (w:=w) hlx hcx hRx ha;obtain⟨p2,hp2,e2⟩:=zbR (P:=P) (w:=w) hly hcy hRy hc;have ih:=zir hlx hcx hRx hly hcy hRy heq fs q hq;simp only[Op.eqFields,hn',ne_eq,not_false_eq_true,wN,Sem.run_bind,e1,e2,Result.andThen_ok,heq _ _ _ _ _ _ hp1 hp2 hr];cases r with
     | false=>simp
     | true=>simpa using ih
    .cases h
   .cases h
theorem zis{d e n:Nat}{eq:TypeId->PV->PV->Option Bool}{xs ys:List PV}{us vs:List Value}(hlx:us.length=xs.length)(hcx:∀ x∈xs,x.cell=true)(hRx:Rel C xs us)(hly:vs.length=ys.length)(hcy:∀ x∈ys,x.cell=true)(hRy:Rel C ys vs)
  (heq:∀ t x y p q b,VRel C x p->VRel C y q->eq t x y=some b->(Op.equalIn d t p q).run P w= .ok b w):∀(is:List Nat) (b:Bool),zjc eq P e n xs ys is=some b->(Op.eqItems d e n us.toArray vs.toArray is).run P w= .ok b w
 | [],b,h=>by simp only[zjc,qA.injEq]at h;subst h;simp[Op.eqItems]
 | i::is,b,h=>by
  simp only[zjc]at h;split at h
  .rename_i a c ha hc;split at h
   .rename_i r hr;simp only[gO]at h;obtain⟨q,hq,rfl⟩:=h;obtain⟨p1,hp1,e1⟩:=zbR (P:=P) (w:=w) hlx hcx hRx ha;obtain⟨p2,hp2,e2⟩:=zbR (P:=P) (w:=w) hly hcy hRy hc;have ih:=zis hlx hcx hRx hly hcy hRy heq is q hq;simp only[Op.eqItems,Sem.run_bind,e1,e2,Result.andThen_ok,heq _ _ _ _ _ _ hp1 hp2 hr];cases r with
    | false=>simp
    | true=>simpa using ih
   .cases h
  .cases h
theorem zio:∀(d m:Nat) (t:TypeId) (x y:PV) (p q:Value) (b:Bool),VRel C x p->VRel C y q->za0 P d t x y=some b->(Op.equalIn (d+(m+1)) t p q).run P w= .ok b w
 | 0,m,t,x,y,p,q,b,_,_,h=>by simp[za0]at h
 | d+1,m,t,x,y,p,q,b,hx,hy,h=>by
  rw[show d+1+(m+1)=(d+(m+1))+1 from om];have ih:=λt x y p q b=>zio d m t x y p q b;simp only[za0]at h;split at h
  .rename_i fs hu;split at h
   .rename_i xs ys;split at h
    .rename_i hst;cases hx with
     | agg hlx hcx hRx=>
      cases hy with
      | agg hly hcy hRy=>
       have hf:P.fieldsOf t=fs:=by simp[Program.fieldsOf,hu]
       rw[run_equalIn_struct w (d+(m+1)) t _ _ (by rw[hf];exact hu) hst,hf];exact zir hlx hcx hRx hly hcy hRy ih fs.toList b h
    .cases h
   .cases h
  .rename_i len e hu;split at h
   .rename_i xs ys;cases hx with
    | @agg _ us hlx hcx hRx=>
     cases hy with
     | @agg _ vs hly hcy hRy=>
      split at h
      .rename_i u hs;split at h
       .rename_i hq;obtain⟨h1,h2,h3⟩:=hq;obtain⟨i,hi,hsz⟩:=zba h1;have hce:P.cellsOf e=1:=by simp[Program.cellsOf,hi,hsz]
        rw[run_equalIn_array w (d+(m+1)) _ _ hu hi,hce,List.range_eq_range',<-h2];have get:∀{zs:List PV} {ws:List Value},ws.length=zs.length->Rel C zs ws->∀(i:Nat) (x:PV),zs[i]? =some x->∃ u,ws[0+i]? =some u/\VRel C x u:=fun{zs ws} hl hR i x hx=>by
         have hlt:i<ws.length:=by grind
         exact⟨ws[i],by rw[wF];exact gG hlt,hR i x _ hx (gG hlt)⟩
        exact ziq (d:=d+m) hs xs ys 0 b (get hlx hRx) (get hly hRy) h
       .cases h
      .rename_i hs;split at h
       .rename_i n hn;obtain⟨i,hi,hsz⟩:=zba hn;have hce:P.cellsOf e=n:=by simp[Program.cellsOf,hi,hsz]
        rw[run_equalIn_array w (d+(m+1)) _ _ hu hi,hce];exact zis hlx hcx hRx hly hcy hRy ih (List.range len) b h
       .cases h
   .cases h
  all_goals grind[zip]
theorem znI{op:BinOp}{t:TypeId}{xs ys:List PV}{p q:Value}{v:PV}(X Y:Operand)(hx:VRel C (.agg xs) p)(hy:VRel C (.agg ys) q)(h:zdF P op t (.agg xs) (.agg ys)=some v):
  ∃ u,VRel C v u/\(do eqGuard op t X Y p q;binOp op t p q:Sem Value).run P w= .ok u w:=by
 unfold zdF at h;split at h
 .rename_i hg;split at h
  .rename_i b hb;have he:=zio (w:=w) 12 9987 t _ _ _ _ b hx hy hb;cases hx with
   | agg hlx hcx hRx=>
    cases hy with
    | agg hly hcy hRy=>
     cases op<;>simp only[peq]at h<;>first|(cases h;done)|skip
     .injection h with h;subst h;refine⟨_,.bool b,?_⟩;rw[Sem.run_bind,run_eqGuard_agg w _ _ _ _ _ _ hg,Result.andThen_ok,run_eql_struct];simp[he]
     .injection h with h;subst h;refine⟨_,.bool (!b),?_⟩;rw[Sem.run_bind,run_eqGuard_agg w _ _ _ _ _ _ hg,Result.andThen_ok,run_neq_struct];simp[he]
  .cases h
 .cases h
end Go.Proofs.YtleejngibkbjnaaGreatDoor.Pm
namespace Go.Proofs.YtleejngibkbjnaaGreatDoor.Pm
open Go.RowKit
variable {P:Program} {C:Ctx} {H:za} {w:World} {F:Nat->PV} {a:Act} {N:Nat}
theorem zqS{n:Int}(h0:0<=n)(h1:n<128):VRel C (.str [UInt8.ofNat n.toNat]) (.string (Utf8.encode n)):=by
 have:(Utf8.encode n).data.toList=[UInt8.ofNat n.toNat]:=by
  obtain⟨m,rfl⟩:∃ m:Nat,n=m:=⟨n.toNat,om⟩;have hm:m<128:=om;have hv:Utf8.valid (m:Int)=true:=by simp[Utf8.valid];omega
  unfold Utf8.encode;simp_all
 rw[<-this];exact .str _
theorem zmh{d:TypeDesc}{x y:PV}{p q:Value}{r:Bool}(hx:VRel C x p)(hy:VRel C y q)(h:zek d x y=some r):Instr.sameNow d p q=some r/\(r=true->Instr.sameBits 10000 q p=true):=by
 unfold zek at h;split at h
 .rename_i k0 k a k' b;obtain rfl:=zL hx;obtain rfl:=zL hy;split at h
  .rename_i hk;subst hk;injection h with h;subst h;refine⟨by simp[Instr.sameNow],λhr=> ?_⟩;simp only[wH]at hr;subst hr;simp[Instr.sameBits]
  .cases h
 .rename_i a b;obtain rfl:=zar hx;obtain rfl:=zar hy;injection h with h;subst h;refine⟨by simp[Instr.sameNow],λhr=> ?_⟩;simp only[wH]at hr;subst hr;simp[Instr.sameBits]
 .rename_i a b;obtain⟨s,rfl,rfl⟩:=zbB hx;obtain⟨t,rfl,rfl⟩:=zbB hy;injection h with h;subst h;have key:(s==t)=(s.data.toList==t.data.toList):=by
   rw[gJ,MapKept.bytes_beq,wH];constructor
   .simp_all
   .intro e;cases s;cases t;simp at e;simp[e]
  refine⟨by simp[Instr.sameNow,key],λhr=> ?_⟩;rw[<-key,MapKept.bytes_beq]at hr;subst hr;exact(MapKept.bytes_beq s s).2 rfl
 .cases h
theorem zts{a v:PV}{p q:Value}(h:VRel C (.tup [a,v]) (.tuple #[p,q])):VRel C a p/\VRel C v q:=by
 generalize hu:Value.tuple #[p,q]=u at h;cases h with
 | @tup vs us hl hR=>
  have:us=[p,q]:=by simp_all
  subst this;exact⟨hR 0 a p rfl rfl,hR 1 v q rfl rfl⟩
theorem zfM{a v:PV}{p q:Value}(ha:VRel C a p)(hv:VRel C v q):VRel C (.tup [a,v]) (.tuple #[p,q]):=
 VRel.tup (us:=[p,q]) rfl (λj x u hx hu=>by
  match j with
  | 0=>simp at hx hu;subst hx hu;exact ha
  | 1=>simp at hx hu;subst hx hu;exact hv
  | j+2=>simp at hx)
theorem zej{d:TypeDesc}{k:PV}{p:Value}(hk:VRel C k p):∀(xs:List PV) (es:List MapEntry) (i:Nat) (r:Option (Nat×PV)),es.length=xs.length->(∀(j:Nat) (x:PV) (e:MapEntry),xs[j]? =some x->es[j]? =some e->VRel C x (.tuple #[e.key,e.val]))->zcg d k xs i=some r->
  match r with
  | none=>Instr.findNow d p es i=some none
  | some (n,v)=>∃ e,i<=n/\es[n - i]? =some e/\Instr.findNow d p es i=some (some (n,e.val))/\VRel C v e.val/\Instr.sameBits 10000 e.key p=true
 | [],[],i,r,_,_,h=>by simp only[zcg,qA.injEq]at h;subst h;rfl
 | [],_::_,_,_,hl,_,_=>by simp at hl
 | _::_,[],_,_,hl,_,_=>by simp at hl
 | x::xs,e::es,i,r,hl,hR,h=>by
  have hsh:(∃ a v,x= .tup [a,v])\/zcg d k (x::xs) i=none:=by unfold zcg;grind
  rcases hsh with⟨a,v,rfl⟩|hn
  .simp only[zcg]at h;obtain⟨ha,hv⟩:=zts (hR 0 _ e rfl rfl);split at h
   .rename_i hq;obtain⟨n1,n2⟩:=zmh hk ha hq;injection h with h;subst h;exact⟨e,gV _,by simp,by simp[Instr.findNow,n1],hv,n2 rfl⟩
   .rename_i hq;obtain⟨n1,n2⟩:=zmh hk ha hq;have ih:=zej hk xs es (i+1) r (by simpa using hl) (λj x e hx he=>hR (j+1) x e (by simpa using hx) (by simpa using he)) h;cases r with
    | none=>simpa[Instr.findNow,n1]using ih
    | some r=>obtain⟨n,v'⟩:=r;obtain⟨e',q1,q2,q3,q4,q5⟩:=ih;refine⟨e',om,?_,by simpa[Instr.findNow,n1]using q3,q4,q5⟩;grind
   .cases h
  simp_all
theorem zgo{kt:TypeId}{d:TypeDesc}(h:zdc P kt=some d):P.underlying kt=some d/\((∃ k,d= .int k)\/d= .bool\/d= .string):=by grind[zdc]
theorem zgM{kt:TypeId}{d:TypeDesc}(h:zdc P kt=some d)(e:Bool)(n:Nat)(k:Value):(Instr.checkKey e (n+1) kt k).run P w= .ok () w:=by obtain⟨hu,hd⟩:=zgo h;unfold Instr.checkKey;simp only[Sem.run_bind,run_underlying hu,Result.andThen];rcases hd with⟨k',rfl⟩|rfl|rfl<;>cases k<;>rfl
theorem zfG{t:TypeId}{m:PV}{p:Value}{e:TypeId}{d:TypeDesc}{id:Nat}{b:Blk}(hw:WRel C H w)(hm:VRel C m p)(h:zbP P H t m=some (e,d,id,b))(hlp:∀ l r,b.cells≠[.lp l r]):
  ∃ kt,P.underlying t=some (.map kt e)/\zdc P kt=some d/\H[id]? =some b/\∃ bb es clock,p= .map (some bb)/\C.mu[id]? =some none/\C.cp[id]? =some (bb+1)/\w.heap[bb]? =some (.map es clock)/\es.size=b.cells.length/\
   ∀(j:Nat) (x:PV) (e:MapEntry),b.cells[j]? =some x->es[j]? =some e->VRel C x (.tuple #[e.key,e.val]):=by
 unfold zbP at h;split at h
 .rename_i kt e' id' ver hu;split at h
  .rename_i d' b' hs hb;split at h
   .rename_i hv;simp only[qA.injEq,qB.injEq]at h;obtain⟨rfl,rfl,rfl,rfl⟩:=h;have q:=hw.ver _ _ hb;rw[hv]at q;obtain⟨bb,h1,h2,rfl⟩:=zyE hw hm q;rcases hw.gho _ _ hb h1 with⟨h3,_⟩|⟨bb',es,clock,h3,_,h4,h5,h6⟩|⟨bb',r,h3,_,_,h4⟩
    .rw[h2]at h3;injection h3 with h3;omega
    .rw[h2]at h3;injection h3 with h3;have:bb'=bb:=om;subst this;exact⟨kt,hu,hs,hb,bb',es,clock,rfl,h1,h2,h4,h5,h6⟩
    .exact absurd h4.1 (hlp _ r)
   .cases h
  .cases h
 .cases h
theorem zmf{t:TypeId}{m k v:PV}{p q:Value}{ok:Bool}(hw:WRel C H w)(hm:VRel C m p)(hk:VRel C k q)(h:zil P H t m k ok=some v):∃ u,VRel C v u/\(Instr.lookup t p q ok).run P w= .ok u w:=by
 unfold zil at h;split at h
 .rename_i e d id b hmap;obtain⟨kt,hu,hs,hb,bb,es,clock,rfl,h1,h2,h3,h4,h5⟩:=zfG hw hm hmap (λ_ r hr=>by simp[hr,zcg]at h);obtain⟨hd,_⟩:=zgo hs;have fs:=λr=>zej (d:=d) hk b.cells es.toList 0 r (by simpa using h4) (λj x e hx he=>h5 j x e hx (by simpa using he));have hbase:∀ r,Instr.findNow d q es.toList 0=some r->(Instr.lookup t (.map (some bb)) q ok).run P w=(do
    let (v,o)<-match r with
     | some (_,v)=>pure (v,true)
     | none=>do pure (<-zeroValue e,false)
    pure (if ok then .tuple #[v,.bool o]else v):Sem Value).run P w:=λr hr=>by
   simp only[Instr.lookup,Sem.run_bind,run_underlying hu,Result.andThen_ok,MapKept.run_getObj_map h3,Sem.run_pure,zgM hs,MapKept.run_findKey hd hr];cases r<;>rfl
  split at h
  .rename_i n v' hf;injection h with h;subst h;obtain⟨e',_,_,q3,q4,_⟩:=fs _ hf;rw[hbase _ q3];cases ok
   .simp_all
   .exact⟨_,zfM q4 (.bool true),by simp⟩
  .rename_i hf;have q3:=fs _ hf;rw[hbase _ q3];split at h
   .rename_i z hz;injection h with h;subst h;unfold zrT at hz;cases hi:P.info? e with
    | none=>simp[hi]at hz
    | some i=>
     cases hzz:i.zero with
     | none=>simp[hi,hzz]at hz
     | some zv=>
      simp only[hi,hzz,uO,vM,qA.injEq]at hz;subst hz;cases ok
      .exact⟨zv,zfB zv,by simp[zeroValue,typeInfo,hi,hzz]⟩
      .exact⟨_,zfM (zfB zv) (.bool false),by simp[zeroValue,typeInfo,hi,hzz]⟩
   .cases h
  .cases h
 .cases h
theorem zgW{t:TypeId}{m k v:PV}{p q u:Value}{H':za}(hw:WRel C H w)(hm:VRel C m p)(hk:VRel C k q)(hv:VRel C v u)(h:zdV P H t m k v=some H'):
  ∃ w',WRel C H' w'/\Below C.B w w'/\(Instr.mapUpdate t p q u).run P w= .ok () w':=by
 unfold zdV at h;split at h
 .rename_i e d id b hmap;obtain⟨kt,hu,hs,hb,bb,es,clock,rfl,h1,h2,h3,h4,h5⟩:=zfG hw hm hmap (λ_ r hr=>by simp[hr,zcg]at h);obtain⟨hd,_⟩:=zgo hs;have fs:=λr=>zej (d:=d) hk b.cells es.toList 0 r (by simpa using h4) (λj x e hx he=>h5 j x e hx (by simpa using he));split at h
  .rename_i n v' hf;injection h with h;subst h;obtain⟨e',_,q2,q3,q4,q5⟩:=fs _ hf;simp only[dM,rJ]at q2;have hn:n<es.size:=(vJ.1 q2).1;obtain⟨c1,c2⟩:=hw.mapSet hb h1 h2 h3 (es.modify n λe=>{ e with key:=q,val:=u }) clock (b.cells.set n (.tup [k,v])) (by simpa using h4) (λj x e hx he=>by
    rw[vG]at hx;rw[Array.getElem?_modify]at he;split at hx
    .rename_i hj;subst hj;split at hx
     .injection hx with hx;subst hx;simp only[wN,gO]at he;obtain⟨e0,_,rfl⟩:=he;exact zfM hk hv
     .cases hx
    .rename_i hj;rw[gC hj]at he;exact h5 j x e hx he)
   refine⟨_,c1,c2,?_⟩;simp only[Instr.mapUpdate,Sem.run_bind,run_underlying hu,Result.andThen_ok,MapKept.run_getObj_map h3,zgM hs,MapKept.run_findKey hd q3,q2,vM,rK,Instr.keyThatStays,q5,wN,Sem.run_pure,MapKept.run_setObj_map _ h3]
  .rename_i hf;injection h with h;subst h;have q3:=fs _ hf;obtain⟨c1,c2⟩:=hw.mapSet hb h1 h2 h3 (es.push { key:=q,val:=u,born:=clock }) (clock+1) (b.cells++[.tup [k,v]]) (by simp[h4]) (λj x e hx he=>by
    rcases zE hx with⟨hj,hx⟩|⟨hj,hx⟩
    .rw[nJ,gC om]at he;exact h5 j x e hx he
    .subst hx;rw[nJ,gD om]at he;injection he with he;subst he;exact zfM hk hv)
   refine⟨_,c1,c2,?_⟩;simp only[Instr.mapUpdate,Sem.run_bind,run_underlying hu,Result.andThen_ok,MapKept.run_getObj_map h3,zgM hs,MapKept.run_findKey hd q3,MapKept.run_setObj_map _ h3]
  .cases h
 .cases h
end Go.Proofs.YtleejngibkbjnaaGreatDoor.Pm
namespace Go.Proofs.YtleejngibkbjnaaGreatDoor.Pm
open Go.RowKit
variable {P:Program} {C:Ctx} {H:za} {w:World} {F:Nat->PV} {a:Act} {N:Nat}
theorem zmj{t tx ty:TypeId}{d x v:PV}{p q:Value}{H':za}(hw:WRel C H w)(hd:VRel C d p)(hx:VRel C x q)(h:zgY P H t d x=some (v,H')):
  ∃ C' u w',CLe C C'/\WRel C' H' w'/\Below C.B w w'/\VRel C' v u/\(Builtin.copy_ #[t,tx] ty #[p,q]).run P w= .ok u w':=by
 unfold zgY at h;split at h
 .rename_i e hu;split at h
  .rename_i sz hn;split at h
   .rename_i id ver off len sz' g;split at h
    .rename_i k ys n hk hsc;split at h
     .rename_i hq;simp only[qA.injEq,qB.injEq]at h;obtain⟨rfl,rfl⟩:=h;obtain⟨hver,hfit⟩:=hq;subst hver;obtain⟨ad,cap,us,rfl,hcap,hl,hyl,hR,hc,hat⟩:=zcj hw hx hsc;have hgo:(∃ bb dcap off',C.mu[id]? =some (some bb)/\p= .slice (some ⟨bb,off',none⟩) len dcap/\(0<len->off'=off))\/∃ ad,len=0/\p= .slice ad 0 0:=by
       obtain⟨bb,dcap,off',q1,rfl,_,_,ho,_⟩|⟨ad,_,h0,rfl⟩:=zbC hw hd (hw.ver id k hk)
       .exact .inl ⟨bb,dcap,off',q1,rfl,ho⟩
       .exact .inr ⟨ad,h0,rfl⟩
      have hmn:min n len * sz<=n * sz:=gT _ (Nat.min_le_left _ _);have hml:min n len * sz<=len * sz:=gT _ (Nat.min_le_right _ _);have htl:(ys.take (min n len * sz)).length=min n len * sz:=by simp;omega
      have hul:(us.take (min n len * sz)).length=min n len * sz:=by simp;omega
      have hfirst:(Builtin.firstCells sz (min n len) (.slice ad n cap)).run P w= .ok (us.take (min n len * sz)).toArray w:=by
       rcases hat with⟨rfl,rfl⟩|⟨b,o,rfl,hat⟩
       .have e0:min 0 len=0:=Nat.zero_min len;rw[e0];simpa using zdl (P:=P) (w:=w) (sz:=sz) (n:=0) (cap:=cap) (ad:=ad) (us:=[]) sp (.inl ⟨rfl,rfl⟩)
       .exact run_firstCells_some w sz (min n len) ⟨b,o,none⟩ n cap _ hul (λj v hv=>by rw[Addr.add_lit];exact(hat.take _) j v hv)
      have hcc:∀ x∈ys.take (min n len * sz),x.cell=true:=λx hx=>hc x (vI hx);rcases vS len with h0|h0
      .subst h0;have hp:∃ base dcap,p= .slice base 0 dcap:=by
        rcases hgo with⟨bb,dcap,off',_,rfl,_⟩|⟨ad,_,rfl⟩
        .exact⟨_,_,rfl⟩
        .exact⟨_,_,rfl⟩
       obtain⟨base,dcap,rfl⟩:=hp;simp only[Nat.min_zero,vV,mH]at *;have hsp:zM k.cells off []=k.cells:=by simp[zM]
       rw[hsp];have hset:H.set id ⟨k.e,k.ver,k.cells⟩=H:=by
        apply dG;intro j;rw[vG];split
        .rename_i hj;subst hj;split
         .rw[hk]
         .rename_i hj2;exact absurd (gA.1 hk).1 hj2
        .rfl
       rw[hset];refine⟨C,_,w,.refl _,hw,.refl _ _,.int _ _,?_⟩;cases base<;>simp[Builtin.copy_,run_underlying hu,Builtin.lenOf,zZ hn,hfirst,storeCells,goInt]
      .obtain⟨bb,dcap,off',q1,rfl,ho⟩|⟨ad,h1,_⟩:=hgo;rotate_left
       .omega
       obtain⟨cur,q3,q5,q6,q7,q8,q9,q10⟩:=hw.blk hk q1;obtain rfl:=ho h0;obtain⟨C',w',c1,c2,c3,c4⟩:=hw.store (P:=P) (off:=off') hk q1 q5 (ys.take (min n len * sz)) (us.take (min n len * sz)) (by rw[hul,htl]) hcc (hR.take _) (by rw[htl];omega);refine⟨C',_,w',c1,c2,c3,.int _ _,?_⟩;have hmin:Nat.min n len=min n len:=rfl;simp[Builtin.copy_,run_underlying hu,Builtin.lenOf,zZ hn,hmin,hfirst,c4,goInt]
     .cases h
    .cases h
   .rename_i xs full;split at h
    .rename_i c hsc;simp only[qA.injEq,qB.injEq]at h;obtain⟨rfl,rfl⟩:=h;obtain⟨ys,n⟩:=c;obtain⟨ad,cap,us,rfl,hcap,hl,hyl,hR,hc,hat⟩:=zcj hw hx hsc;have hp:∃ base dcap,p= .slice base 0 dcap:=by
      cases hd with
      | slice=>exact⟨_,_,rfl⟩
      | sliceN=>exact⟨_,_,rfl⟩
     obtain⟨base,dcap,rfl⟩:=hp;refine⟨C,_,w,.refl _,hw,.refl _ _,.int _ _,?_⟩;have hfirst:(Builtin.firstCells sz 0 (.slice ad n cap)).run P w= .ok #[] w:=by
      rcases hat with⟨rfl,rfl⟩|⟨b,o,rfl,hat⟩
      .exact zdl (w:=w) (us:=[]) sp (.inl ⟨rfl,rfl⟩)
      .exact run_firstCells_some w sz 0 ⟨b,o,none⟩ n cap [] sp (λj v hv=>by simp at hv)
     have hmin:Nat.min n 0=0:=Nat.min_zero n;cases base<;>simp[Builtin.copy_,run_underlying hu,Builtin.lenOf,zZ hn,hmin,hfirst,goInt,storeCells]
    .cases h
   .cases h
  .cases h
 .cases h
theorem znD{t ty:TypeId}{x v:PV}{q:Value}(hw:WRel C H w)(hx:VRel C x q)(h:znE P H t x=some v):∃ u,VRel C v u/\(Builtin.len_ #[t] ty #[q]).run P w= .ok u w:=by
 unfold znE at h;split at h
 .rename_i s hu;injection h with h;subst h;obtain⟨s',rfl,rfl⟩:=zbB hx;have hsz:s'.size=s'.data.toList.length:=by rfl
  refine⟨_,.int _ _,?_⟩;rw[<-hsz];simp[Builtin.len_,run_underlying hu,goInt]
 .rename_i n e hu;injection h with h;subst h;exact⟨_,.int _ _,by simp[Builtin.len_,run_underlying hu,goInt]⟩
 .rename_i e xs n full hu;injection h with h;subst h;refine⟨_,.int _ _,?_⟩;cases hx<;>simp[Builtin.len_,run_underlying hu,goInt]
 .rename_i e id ver off n sz g hu;split at h
  .rename_i hlv;injection h with h;subst h;obtain⟨b,cap,off',hb',rfl,_⟩|⟨ad,_,h0,rfl⟩:=zbC hw hx (zbV hw hlv).1
   .exact⟨_,.int _ _,by simp[Builtin.len_,run_underlying hu,goInt]⟩
   .subst h0;exact⟨_,.int _ _,by simp[Builtin.len_,run_underlying hu,goInt]⟩
  .cases h
 .cases h
theorem zei{f:PV->PV->Option PV}{g:Value->Value->Sem Value}(hf:∀ x y z p q,VRel C x p->VRel C y q->f x y=some z->∃ u,VRel C z u/\(g p q).run P w= .ok u w):
  ∀(xs:List PV) (us:List Value) (x v:PV) (p:Value),VRels C xs us->VRel C x p->zfH f x xs=some v->∃ u,VRel C v u/\(us.foldlM g p).run P w= .ok u w
 | [],us,x,v,p,hr,hx,h=>by
  have:us=[]:=uU (by simpa using hr.1);simp_all[zfH,qA.injEq]
 | y::ys,[],x,v,p,hr,_,_=>by simp[VRels]at hr
 | y::ys,u::us,x,v,p,hr,hx,h=>by
  simp only[zfH]at h;split at h
  .rename_i z hz;obtain⟨u',hu',hr'⟩:=hf x y z p u hx (hr.2 0 y u rfl rfl) hz;obtain⟨v',hv',hrv⟩:=zei hf ys us z v u' ⟨by simpa using hr.1,λj x u hx hu=>hr.2 (j+1) x u (by simpa using hx) (by simpa using hu)⟩ hu' h;simp_all
  .cases h
theorem znB(x y z:PV)(p q:Value)(hx:VRel C x p)(hy:VRel C y q)(h:zvu x y=some z):∃ u,VRel C z u/\(Builtin.min2 p q).run P w= .ok u w:=by
 unfold zvu at h;split at h
 .obtain rfl:=zL hx;obtain rfl:=zL hy;injection h with h;subst h;exact⟨_,.int _ _,by simp[Builtin.min2]⟩
 .cases h
theorem znC(x y z:PV)(p q:Value)(hx:VRel C x p)(hy:VRel C y q)(h:zqn x y=some z):∃ u,VRel C z u/\(Builtin.max2 p q).run P w= .ok u w:=by
 unfold zqn at h;split at h
 .obtain rfl:=zL hx;obtain rfl:=zL hy;injection h with h;subst h;exact⟨_,.int _ _,by simp[Builtin.max2]⟩
 .cases h
theorem zgZ:∀(xs:List PV) (s:List UInt8),zgy xs=some s->∃ ns:List Int,xs=ns.map (PV.int .u8)/\s=ns.map λn=>UInt8.ofNat n.toNat
 | [],s,h=>by simp_all[zgy]
 | x::xs,s,h=>by
  simp only[zgy,uR,uD,uN,wJ,qA.injEq]at h;obtain⟨b,hb,s',hs',rfl⟩:=h;obtain⟨ns,rfl,rfl⟩:=zgZ xs s' hs';unfold byteOf at hb;split at hb
  .rename_i n;injection hb with hb;subst hb;exact⟨n::ns,rfl,rfl⟩
  .cases hb
theorem ziF:∀(ns:List Int) (s:ByteArray),(ns.foldl (λr n=>r.push (UInt8.ofNat n.toNat)) s).data.toList=s.data.toList++ns.map λn=>UInt8.ofNat n.toNat
 | [],s=>by simp
 | n::ns,s=>by rw[List.foldl_cons,ziF ns];simp_all
theorem zl1:∀(ns:List Int) (us:List Value),us.length=ns.length->Rel C (ns.map (PV.int .u8)) us->us=ns.map (Value.int .u8)
 | [],us,h,_=>uU (by simpa using h)
 | n::ns,[],h,_=>by simp at h
 | n::ns,u::us,h,hr=>by have h0:=zL (hr 0 _ u rfl rfl);subst h0;rw[zl1 ns us (by simpa using h) (λj x u hx hu=>hr (j+1) x u (by simpa using hx) (by simpa using hu))];rfl
theorem zmk{src dst:TypeId}{x v:PV}{q:Value}(hw:WRel C H w)(hx:VRel C x q)(h:zml P H src dst x=some v):∃ u,VRel C v u/\(convert src dst q).run P w= .ok u w:=by
 unfold zml at h;split at h
 .rename_i d k kk n hs hd;injection h with h;subst h;obtain rfl:=zL hx;exact⟨_,.int _ _,by simp[convert,run_underlying hs,run_underlying hd,Conv.intToInt]⟩
 .rename_i d s hs hd;injection h with h;subst h;obtain⟨s',rfl,rfl⟩:=zbB hx;exact⟨_,.str _,by simp[convert,run_underlying hs,run_underlying hd]⟩
 .rename_i d k n hs hd;split at h
  .rename_i hn;injection h with h;subst h;obtain rfl:=zL hx;refine⟨_,zqS hn.1 hn.2,by simp[convert,run_underlying hs,run_underlying hd,Conv.intToString]⟩
  .cases h
 .rename_i e hs hd _ _;split at h
  .rename_i he;simp only[wJ,gO]at h;obtain⟨⟨ys,n⟩,hsc,s,hb,rfl⟩:=h;obtain⟨ad,cap,us,rfl,hcap,hl,hyl,hR,hc,hat⟩:=zcj hw hx hsc;obtain⟨ns,hys,rfl⟩:=zgZ ys s hb;subst hys;have hus:=zl1 ns us (by simpa using hl) hR;subst hus;rw[run_convert_bytes_string w src dst e ad n cap hs he hd];rcases hat with⟨rfl,h3⟩|⟨b,o,rfl,hat⟩
   .have hns:ns=[]:=by simp_all
    subst hns;refine⟨.string .empty,VRel.str (C:=C) ByteArray.empty,?_⟩;cases ad with
    | none=>simp[Conv.bytesToString]
    | some a=>exact run_bytesToString w a 0 cap [] rfl
   .have hld:=hat.load (P:=P);rw[show(ns.map (Value.int .u8)).length=n by simp at hyl |-;omega]at hld;refine⟨_,?_,run_bytesToString w ⟨b,o,none⟩ n cap ns hld⟩;have:=VRel.str (C:=C) (ns.foldl (λr n=>r.push (UInt8.ofNat n.toNat)) ByteArray.empty);simp_all[ziF]
  .cases h
 .cases h
theorem zjb{op:BinOp}{t:TypeId}{x v:PV}(X Y:Operand)(hw:WRel C H w)(hx:VRel C x (a.eval X))(hy:zdL Y=true)(h:zfF P H op t x=some v):
  ∃ u,VRel C v u/\(do eqGuard op t X Y (a.eval X) (a.eval Y);binOp op t (a.eval X) (a.eval Y):Sem Value).run P w= .ok u w:=by
 have hY:a.eval Y= .slice none 0 0:=by
  cases Y with
  | const c=>
   simp only[zdL]at hy;unfold znZ at hy;split at hy
   .simp only[gB]at hy;rw[wC hy.1,wC hy.2];rfl
   .cases hy
  | _=>simp[zdL]at hy
 rw[hY];generalize a.eval X=p at hx |-;unfold zfF at h;split at h
 .rename_i e hu;have key:∃ ad l c,p= .slice (some ad) l c/\peq op false=some v:=by
   split at h
   .split at h
    .rename_i n f hn;cases hx with
     | slice=>exact⟨_,_,_,rfl,h⟩
     | sliceN=>omega
    .cases h
   .split at h
    .rename_i id ver off n sz g hn;obtain⟨b,cap,off',hb',rfl,_⟩|⟨ad,_,h0,rfl⟩:=zbC hw hx (zbV hw hn.2).1;all_goals simp_all
    .cases h
   .cases h
  obtain⟨ad,l,c,rfl,hp⟩:=key;have heqn:∀ n,(Op.equalIn (n+1) t (.slice (some ad) l c) (.slice none 0 0)).run P w= .ok false w:=λn=>by unfold Op.equalIn;simp only[Sem.run_bind,run_underlying hu,Result.andThen_ok];rfl
  have heq:(Op.equal t (.slice (some ad) l c) (.slice none 0 0)).run P w= .ok false w:=heqn 9999;obtain⟨u,hu',hr⟩:=zbQ (P:=P) (C:=C) (w:=w) hp heq (λo ho=>by rcases ho with rfl|rfl<;>rfl);refine⟨u,hu',?_⟩;have hg:(eqGuard op t X Y (.slice (some ad) l c) (.slice none 0 0)).run P w= .ok () w:=by cases op<;>simp[eqGuard]
  rw[Sem.run_bind,hg,Result.andThen_ok,hr]
 .cases h
theorem zny{x v:PV}{o:Oper}{X:Operand}(hw:WRel C H w)(hx:VRel C x (a.eval X))(ho:o.op= .nilCheck X)(h:zss H x=some v):OpOk P o a w C v H:=by
 unfold zss at h;split at h
 .rename_i id ver off;split at h
  .rename_i hlv;injection h with h;subst h;obtain⟨b,hb,he⟩:=zbW hw hx (zbV hw hlv).1;exact .pure hw hx (by simp[execOp,ho,he])
  .cases h
 .injection h with h;subst h;refine .pure hw hx ?_;generalize hq:a.eval X=u at hx |-;cases hx;simp[execOp,ho,hq]
 .injection h with h;subst h;refine .pure hw hx ?_;generalize hq:a.eval X=u at hx |-;cases hx;simp[execOp,ho,hq]
 .cases h
theorem zit{b:Builtin}{ts:Array TypeId}{args:Array Operand}{v:PV}{H':za}{o:Oper}(hw:WRel C H w)(hF:FRel C N F a)(ho:o.op= .call { callee:=.builtin b,args:=args,argTypes:=ts })
  (h:zH P H b ts.toList (args.toList.map (ev F))=some (v,H')):OpOk P o a w C v H':=by
 have hargs:=zeW hF args.toList;have hex:∀(s:Sem Value),(∀ cs,builtin b ts o.type cs (args.map a.eval)=(do pure (.value (<-s))))->(execOp a.eval o).run P w=(s.run P w).andThen λu w'=>.ok (.value u) w':=λs hs=>by simp only[execOp,ho,resolve,invoke,Sem.run_bind,Sem.run_pure,Result.andThen_ok,hs]
 unfold zH at h;generalize hts:ts.toList=tl at h;generalize hal:args.toList.map (ev F)=al at h hargs;have hts':ts=tl.toArray:=by rw[<-hts]
 have hav:args.map a.eval=(args.toList.map a.eval).toArray:=by grind
 generalize args.toList.map a.eval=vl at hargs hav;split at h
 .rename_i t x;simp only[gO,qB.injEq]at h;obtain⟨v',hv',rfl,rfl⟩:=h
  match vl,hargs with
  | [q],hargs=>
   obtain⟨u,hu,hr⟩:=znD (ty:=o.type) hw (hargs.2 0 x q rfl rfl) hv';exact .pure hw hu (by rw[hex (Builtin.len_ ts o.type (args.map a.eval)) (λ_=>rfl),hts',hav,hr];rfl)
  | [],hargs=>simp[VRels]at hargs
  | _::_::_,hargs=>simp[VRels]at hargs
 .rename_i t tx s x
  match vl,hargs with
  | [p,q],hargs=>
   obtain⟨C',u,w',c1,c2,c3,c4,hr⟩:=zjd (ty:=o.type) hw (hargs.2 0 s p rfl rfl) (hargs.2 1 x q rfl rfl) h;exact⟨C',u,w',c1,c2,c3,c4,.inl (by rw[hex (Builtin.append_ ts o.type (args.map a.eval)) (λ_=>rfl),hts',hav,hr];rfl)⟩
  | [],hargs=>simp[VRels]at hargs
  | [_],hargs=>simp[VRels]at hargs
  | _::_::_::_,hargs=>simp[VRels]at hargs
 .rename_i t tx s x
  match vl,hargs with
  | [p,q],hargs=>
   obtain⟨C',u,w',c1,c2,c3,c4,hr⟩:=zmj (tx:=tx) (ty:=o.type) hw (hargs.2 0 s p rfl rfl) (hargs.2 1 x q rfl rfl) h;exact⟨C',u,w',c1,c2,c3,c4,.inl (by rw[hex (Builtin.copy_ ts o.type (args.map a.eval)) (λ_=>rfl),hts',hav,hr];rfl)⟩
  | [],hargs=>simp[VRels]at hargs
  | [_],hargs=>simp[VRels]at hargs
  | _::_::_::_,hargs=>simp[VRels]at hargs
 .rename_i x r;simp only[gO,qB.injEq]at h;obtain⟨v',hv',rfl,rfl⟩:=h
  match vl,hargs with
  | q::us,hargs=>
   obtain⟨u,hu,hr⟩:=zei (P:=P) (w:=w) znB r us x _ q ⟨by simpa using hargs.1,λj x u hx hu=>hargs.2 (j+1) x u (by simpa using hx) (by simpa using hu)⟩ (hargs.2 0 x q rfl rfl) hv';exact .pure hw hu (by rw[hex (Builtin.min_ ts o.type (args.map a.eval)) (λ_=>rfl),hav];simp[Builtin.min_,hr])
  | [],hargs=>simp[VRels]at hargs
 .rename_i x r;simp only[gO,qB.injEq]at h;obtain⟨v',hv',rfl,rfl⟩:=h
  match vl,hargs with
  | q::us,hargs=>
   obtain⟨u,hu,hr⟩:=zei (P:=P) (w:=w) znC r us x _ q ⟨by simpa using hargs.1,λj x u hx hu=>hargs.2 (j+1) x u (by simpa using hx) (by simpa using hu)⟩ (hargs.2 0 x q rfl rfl) hv';exact .pure hw hu (by rw[hex (Builtin.max_ ts o.type (args.map a.eval)) (λ_=>rfl),hav];simp[Builtin.max_,hr])
  | [],hargs=>simp[VRels]at hargs
 .cases h
theorem zkB(hF:FRel C N F a)(x:Option Operand):zoq C (x.map (ev F)) (x.map a.eval):=by
 cases x with
 | none=>trivial
 | some x=>exact zx hF x
theorem zql{o:Oper}{v:PV}{H':za}(hw:WRel C H w)(hF:FRel C N F a)(h:pop P o.op F H=some (v,H')):OpOk P o a w C v H':=by
 unfold pop at h;split at h;case h_1 x ho=>simp only[qA.injEq,qB.injEq]at h;obtain⟨rfl,rfl⟩:=h;exact .pure hw (zx hF x) (by simp[execOp,ho])
 case h_2 x ho=>simp only[qA.injEq,qB.injEq]at h;obtain⟨rfl,rfl⟩:=h;exact .pure hw (zx hF x) (by simp[execOp,ho])
 case h_3 c x y ho=>
  have hc:=zx hF c;have hx:=zx hF x;have hy:=zx hF y;split at h
  .rename_i t p q ec ex ey;simp only[qA.injEq,qB.injEq]at h;obtain⟨rfl,rfl⟩:=h;rw[ec]at hc;rw[ex]at hx;rw[ey]at hy;have hc':=zar hc;have hx':=zar hx;have hy':=zar hy;refine .pure hw (.bool _) ?_;cases t<;>simp[execOp,ho,asBool,hc',hx',hy']
  .rename_i t ec _;simp only[qA.injEq,qB.injEq]at h;obtain⟨rfl,rfl⟩:=h;rw[ec]at hc;have hc':=zar hc;cases t
   .exact .pure hw hy (by simp[execOp,ho,asBool,hc'])
   .exact .pure hw hx (by simp[execOp,ho,asBool,hc'])
  .cases h
 case h_4 elem x ho=>
  split at h
  .rename_i hall;simp only[qA.injEq,qB.injEq]at h;obtain⟨rfl,rfl⟩:=h;obtain⟨hr,hl⟩:=zdn hall (zx hF x);obtain⟨c1,c2,c3⟩:=hw.allocOwn (a.eval x).cells elem (ev F x).cells 0 (λx hx=>uJ.1 hall x hx) (by rw[<-hl];simp) (λj x u hx hu=>hr j x u hx (by simpa using hu));refine⟨_,.pointer (some ⟨w.heap.size,0,none⟩),_,c1,c2,c3,.ptr (by simp[Ctx.more,<-hw.len]) (by simp[Ctx.more,<-hw.lenv]),.inl ?_⟩;simp[execOp,ho,Instr.box,newVar,newRow]
  .cases h
 case h_5 elem ho=>simp only[gO,qB.injEq]at h;obtain⟨z,hz,rfl,rfl⟩:=h;obtain⟨i,zv,hi,hzv,hzr,hzl,hzc⟩:=zap hz;obtain⟨c1,c2,c3⟩:=hw.allocOwn zv.cells elem z 0 hzc (by rw[<-hzl];simp) (λj x u hx hu=>hzr C j x u hx (by simpa using hu));refine⟨_,.pointer (some ⟨w.heap.size,0,none⟩),_,c1,c2,c3,.ptr (by simp[Ctx.more,<-hw.len]) (by simp[Ctx.more,<-hw.lenv]),.inl ?_⟩;simp[execOp,ho,Instr.alloc,newVar,newRow,zeroValue,typeInfo,hi,hzv]
 case h_6 t parts ho=>simp only[gO,qB.injEq]at h;obtain⟨v',hv',rfl,rfl⟩:=h;obtain⟨hl,hp⟩:=zgA hF parts;obtain⟨u,hu,hr⟩:=zkA (P:=P) (w:=w) hl hp hv';exact .pure hw hu (by simp only[execOp,ho,Sem.run_bind,hr,Result.andThen_ok,Sem.run_pure])
 case h_7 t len parts ho=>simp only[gO,qB.injEq]at h;obtain⟨v',hv',rfl,rfl⟩:=h;obtain⟨hl,hp⟩:=zgA hF parts;obtain⟨C',u,w',c1,c2,c3,c4,hr⟩:=zfL (P:=P) hw hl hp hv';exact⟨C',u,w',c1,c2,c3,c4,.inl (by simp only[execOp,ho,Sem.run_bind,hr,Result.andThen_ok,Sem.run_pure])⟩
 case h_8 t x ho=>simp only[gO,qB.injEq]at h;obtain⟨v',hv',rfl,rfl⟩:=h;obtain⟨u,hu,hr⟩:=zgX (P:=P) hw (zx hF x) hv';exact .pure hw hu (by simp only[execOp,ho,Sem.run_bind,hr,Result.andThen_ok,Sem.run_pure])
 case h_9 t x y ho=>simp only[gO,qB.injEq]at h;obtain⟨H2,hv',rfl,rfl⟩:=h;obtain⟨C',w',c1,c2,c3,hr⟩:=zkr (P:=P) hw (zx hF x) (zx hF y) hv';exact⟨C',_,w',c1,c2,c3,.undefV,.inr ⟨by simp only[execOp,ho,Sem.run_bind,hr,Result.andThen_ok,Sem.run_pure],rfl⟩⟩
 case h_10 x ho=>simp only[gO,qB.injEq]at h;obtain⟨v',hv',rfl,rfl⟩:=h;exact zny hw (zx hF x) ho hv'
 case h_11 op t x y t' ho=>
  split at h
  .rename_i hnil;simp only[gO,qB.injEq]at h;obtain⟨v',hv',rfl,rfl⟩:=h;obtain⟨u,hu,hr⟩:=zjb (P:=P) x y hw (zx hF x) hnil hv';exact .pure hw hu (by simp only[execOp,ho];rw[Sem.run_bind,hr];rfl)
  split at h
  .rename_i xs ys hxe hye;simp only[gO,qB.injEq]at h;obtain⟨v',hv',rfl,rfl⟩:=h;obtain⟨u,hu,hr⟩:=znI (P:=P) (w:=w) x y (hxe▸zx hF x) (hye▸zx hF y) hv';exact .pure hw hu (by simp only[execOp,ho];rw[Sem.run_bind,hr];rfl)
  .simp only[gO,qB.injEq]at h;obtain⟨v',hv',rfl,rfl⟩:=h;obtain⟨u,hu,hr⟩:=znL (P:=P) x y hw (zx hF x) (zx hF y) hv';exact .pure hw hu (by simp only[execOp,ho];rw[Sem.run_bind,hr];rfl)
 case h_12 op t x ho=>simp only[gO,qB.injEq]at h;obtain⟨v',hv',rfl,rfl⟩:=h;obtain⟨u,hu,hr⟩:=zqj (P:=P) (w:=w) (zx hF x) hv';exact .pure hw hu (by simp only[execOp,ho,Sem.run_bind,hr,Result.andThen_ok,Sem.run_pure])
 case h_13 src dst x ho=>simp only[gO,qB.injEq]at h;obtain⟨v',hv',rfl,rfl⟩:=h;obtain⟨u,hu,hr⟩:=zmk (P:=P) hw (zx hF x) hv';exact .pure hw hu (by simp only[execOp,ho,Sem.run_bind,hr,Result.andThen_ok,Sem.run_pure])
 case h_14 f first captured ho=>
  simp only[qA.injEq,qB.injEq]at h;obtain⟨rfl,rfl⟩:=h;obtain⟨hl1,hr1⟩:=zeW hF first.toList
  obtain⟨hl2,hr2⟩:=zeW hF captured.toList;refine .pure hw (.func hl1 hl2 hr1 hr2) ?_;simp only[execOp,ho,Instr.makeFunc,Sem.run_bind,Sem.run_pure,Result.andThen_ok];congr 3;all_goals grind
 case h_15 t l c ho=>obtain⟨C',u,w',c1,c2,c3,c4,hr⟩:=zmd (P:=P) hw (zx hF l) (zx hF c) h;exact⟨C',u,w',c1,c2,c3,c4,.inl (by simp only[execOp,ho,Sem.run_bind,hr,Result.andThen_ok,Sem.run_pure])⟩
 case h_16 t x lo hi mx ho=>simp only[gO,qB.injEq]at h;obtain⟨v',hv',rfl,rfl⟩:=h;obtain⟨u,hu,hr⟩:=zkt (P:=P) hw (zx hF x) (zkB hF lo) (zkB hF hi) (zkB hF mx) hv';exact .pure hw hu (by simp only[execOp,ho,Sem.run_bind,hr,Result.andThen_ok,Sem.run_pure])
 case h_17 s x f ho=>simp only[gO,qB.injEq]at h;obtain⟨v',hv',rfl,rfl⟩:=h;obtain⟨u,hu,hr⟩:=zgx (P:=P) hw (zx hF x) hv';exact .pure hw hu (by simp only[execOp,ho,Sem.run_bind,hr,Result.andThen_ok,Sem.run_pure])
 case h_18 s x f ho=>simp only[gO,qB.injEq]at h;obtain⟨v',hv',rfl,rfl⟩:=h;obtain⟨u,hu,hr⟩:=zky (P:=P) (w:=w) (zx hF x) hv';exact .pure hw hu (by simp only[execOp,ho,Sem.run_bind,hr,Result.andThen_ok,Sem.run_pure])
 case h_19 t x i ho=>simp only[gO,qB.injEq]at h;obtain⟨v',hv',rfl,rfl⟩:=h;obtain⟨u,hu,hr⟩:=zgw (P:=P) hw (zx hF x) (zx hF i) hv';exact .pure hw hu (by simp only[execOp,ho,Sem.run_bind,hr,Result.andThen_ok,Sem.run_pure])
 case h_20 t x i ho=>simp only[gO,qB.injEq]at h;obtain⟨v',hv',rfl,rfl⟩:=h;obtain⟨u,hu,hr⟩:=zkv (P:=P) (w:=w) (zx hF x) (zx hF i) hv';exact .pure hw hu (by simp only[execOp,ho,Sem.run_bind,hr,Result.andThen_ok,Sem.run_pure])
 case h_21 t ho=>simp only[qA.injEq,qB.injEq]at h;obtain⟨rfl,rfl⟩:=h;obtain⟨c1,c2,c3⟩:=hw.allocMap t 0;refine⟨_,.map (some w.heap.size),_,c1,c2,c3,.mp (by simp[Ctx.more,<-hw.len]) (by simp[Ctx.more,<-hw.lenv]) (by simp[Ctx.more,<-hw.lenc]),.inl ?_⟩;simp only[execOp,ho,Option.map_none,Instr.makeMap];rfl
 case h_22 t m k ok ho=>simp only[gO,qB.injEq]at h;obtain⟨v',hv',rfl,rfl⟩:=h;obtain⟨u,hu,hr⟩:=zmf (P:=P) hw (zx hF m) (zx hF k) hv';exact .pure hw hu (by simp only[execOp,ho,Sem.run_bind,hr,Result.andThen_ok,Sem.run_pure])
 case h_23 t m k x ho=>simp only[gO,qB.injEq]at h;obtain⟨H2,hv',rfl,rfl⟩:=h;obtain⟨w',c2,c3,hr⟩:=zgW (P:=P) hw (zx hF m) (zx hF k) (zx hF x) hv';exact⟨C,_,w',.refl _,c2,c3,.undefV,.inr ⟨by simp only[execOp,ho,Sem.run_bind,hr,Result.andThen_ok,Sem.run_pure],rfl⟩⟩
 case h_24 t m k x ho=>simp only[gO,qB.injEq]at h;obtain⟨H2,hv',rfl,rfl⟩:=h;obtain⟨w',c2,c3,hr⟩:=zgW (P:=P) hw (zx hF m) (zx hF k) (zx hF x) hv';exact⟨C,_,w',.refl _,c2,c3,.undefV,.inr ⟨by simp only[execOp,ho,Sem.run_bind,hr,Result.andThen_ok,Sem.run_pure],rfl⟩⟩
 case h_25 x i ho=>
  have hx:=zx hF x;split at h
  .rename_i vs ex;simp only[gO,qB.injEq]at h;obtain⟨v',hv',rfl,rfl⟩:=h;rw[ex]at hx;generalize hq:a.eval x=q at hx;cases hx with
   | @tup _ us hl hR=>
    have hlt:i<us.length:=by grind
    refine .pure hw (hR i _ us[i] hv' (gG hlt)) ?_;simp[execOp,ho,Instr.extract,hq,gG hlt]
  .cases h
 all_goals grind[zit]
end Go.Proofs.YtleejngibkbjnaaGreatDoor.Pm
namespace Go.Proofs.YtleejngibkbjnaaGreatDoor.Pm
open Go.RowKit
variable {P:Program} {C:Ctx} {H:za} {w:World} {F:Fr} {a:Act} {N:Nat}
def zaC (P : Program) (f : FuncId) : Bool := match P.funcs[f]? with | some fn => fn.body.isSome && !(fn.name == "runtime.NumGoroutine") | none => false
def CallOk(P:Program)(f:FuncId)(args:List PV)(H:za)(v:PV)(H':za):Prop:=
 zaC P f=true/\∀(C:Ctx) (us:List Value) (w:World),WRel C H w->VRels C args us->
  Calls P f us.toArray w λe w'=>∃ C' u,CLe C C'/\WRel C' H' w'/\Below C.B w w'/\e= .returned u/\VRel C' v u
def CallEx(P:Program)(f:FuncId)(args:List PV)(H:za)(R:PV->za->Prop):Prop:=
 zaC P f=true/\∀(C:Ctx) (us:List Value) (w:World),WRel C H w->VRels C args us->
  Calls P f us.toArray w λe w'=>∃ C' u v H',R v H'/\CLe C C'/\WRel C' H' w'/\Below C.B w w'/\e= .returned u/\VRel C' v u
theorem CallOk.toEx{f:FuncId}{args:List PV}{v:PV}{H':za}(h:CallOk P f args H v H'):CallEx P f args H (λv' H''=>v'=v/\H''=H'):=⟨h.1,λC us w hw hu=>(h.2 C us w hw hu).mono λe w' ⟨C',u,q1,q2,q3,q4,q5⟩=>⟨C',u,v,H',⟨rfl,rfl⟩,q1,q2,q3,q4,q5⟩⟩
theorem CallEx.one{f:FuncId}{args:List PV}{v:PV}{H':za}(h:CallEx P f args H (λv' H''=>v'=v/\H''=H')):CallOk P f args H v H':=⟨h.1,λC us w hw hu=>(h.2 C us w hw hu).mono λe w' ⟨C',u,v',H'',⟨e1,e2⟩,q1,q2,q3,q4,q5⟩=>⟨C',u,q1,e2▸q2,q3,q4,e1▸q5⟩⟩
theorem CallEx.mono{f:FuncId}{args:List PV}{R R':PV->za->Prop}(h:CallEx P f args H R)(hr:∀ v H',R v H'->R' v H'):CallEx P f args H R':=⟨h.1,λC us w hw hu=>(h.2 C us w hw hu).mono λe w' ⟨C',u,v',H'',q0,q1,q2,q3,q4,q5⟩=>⟨C',u,v',H'',hr _ _ q0,q1,q2,q3,q4,q5⟩⟩
theorem zdz{f:FuncId}{args:Array Value}(h:zaC P f=true):(callFunc f args).run P w= .ok (.enter f args) w:=by
 unfold zaC at h;cases hf:P.funcs[f]? with
 | none=>simp[hf]at h
 | some fn=>
  simp only[hf,gB,vR]at h;have h1:¬ fn.body=none:=by grind
  have h2 : ¬ fn.name = "runtime.NumGoroutine" := by simp_all
  simp[callFunc,hf,h2,h1]
inductive Scoped(n:Nat):PV->Prop where
 | int (k:IntKind) (m:Int):Scoped n (.int k m)
 | bool (b:Bool):Scoped n (.bool b)
 | str (s:List UInt8):Scoped n (.str s)
 | nilp:Scoped n .nilp
 | nl (k:Nat):Scoped n (.nl k)
 | yl {l:Nat} {us:List Value} {fs:List PV} (h:∀(j:Nat) (x:PV),fs[j]? =some x->Scoped n x):Scoped n (.yl l us fs)
 | lp (l:Nat) (o:Obj):Scoped n (.lp l o)
 | undef:Scoped n .undef
 | ptr {id ver off:Nat} (h:id<n):Scoped n (.ptr id ver off)
 | ip {xs:List PV} {off:Nat} (h:∀(j:Nat) (x:PV),xs[j]? =some x->Scoped n x):Scoped n (.ip xs off)
 | slice {xs:List PV} {len:Nat} {full:Bool} (h:∀(j:Nat) (x:PV),xs[j]? =some x->Scoped n x):Scoped n (.slice xs len full)
 | msl {id ver off len sz:Nat} {g:Bool} (h:id<n):Scoped n (.msl id ver off len sz g)
 | mp {id ver:Nat} (h:id<n):Scoped n (.mp id ver)
 | agg {cs:List PV} (h:∀(j:Nat) (x:PV),cs[j]? =some x->Scoped n x):Scoped n (.agg cs)
 | tup {vs:List PV} (h:∀(j:Nat) (x:PV),vs[j]? =some x->Scoped n x):Scoped n (.tup vs)
 | func {f:FuncId} {fs cs:List PV} (h:∀(j:Nat) (x:PV),fs[j]? =some x->Scoped n x) (h':∀(j:Nat) (x:PV),cs[j]? =some x->Scoped n x):Scoped n (.func f fs cs)
theorem zfp{n:Nat}{xs:List PV}{us:List Value}(hl:us.length=xs.length)(h:∀(j:Nat) (x:PV) (u:Value),xs[j]? =some x->us[j]? =some u->Scoped n x):∀(j:Nat) (x:PV),xs[j]? =some x->Scoped n x:=λj x hx=>by
 have hlt:j<us.length:=by grind
 exact h j x us[j] hx (gG hlt)
theorem VRel.scoped{x:PV}{u:Value}(h:VRel C x u):Scoped C.vs.length x:=by
 have lt:∀{id ver:Nat},C.vs[id]? =some ver->id<C.vs.length:=λh=>(gA.1 h).1;induction h with
 | nl k=>exact .nl k
 | yl hl _ ih=>exact .yl (zfp hl ih)
 | int k n=>exact .int k n
 | bool b=>exact .bool b
 | str s=>exact .str _
 | nilp=>exact .nilp
 | ptr hm hv=>exact .ptr (lt hv)
 | ptrS v h1 hv hlt=>exact .ptr (lt hv)
 | ip hl hM hc _ ih=>exact .ip (zfp hl ih)
 | slice hl hM hc _ hcap hmax hf ih=>exact .slice (zfp hl ih)
 | sliceN ad full=>exact .slice (λj x hx=>by simp at hx)
 | msl hm hv hcap hmax hg=>exact .msl (lt hv)
 | mslE hm hv hmax=>exact .msl (lt hv)
 | mslG ad hm hv=>exact .msl (lt hv)
 | mslS v h1 hv hlt=>exact .msl (lt hv)
 | mp hm hv hb=>exact .mp (lt hv)
 | mpS v h1 hv hlt=>exact .mp (lt hv)
 | agg hl hc _ ih=>exact .agg (zfp hl ih)
 | tup hl _ ih=>exact .tup (zfp hl ih)
 | func hl hl' _ _ ih ih'=>exact .func (zfp hl ih) (zfp hl' ih')
 | undef v=>exact .undef
structure CLeN(n:Nat)(C C':Ctx):Prop where
 B:C'.B=C.B
 M:∀ b o u,C.M b o=some u->C'.M b o=some u
 top:C'.top=C.top
 mnew:∀ b o u,C'.M b o=some u->C.M b o=some u\/C.top<=b\/some b∈C.mu
 unew:∀ b,some b∈C'.mu->some b∈C.mu\/C.top<=b
 ids:∀(id ver:Nat),id<n->C.vs[id]? =some ver->∃ ver',C'.vs[id]? =some ver'/\ver<=ver'/\(ver'=ver->C'.mu[id]? =C.mu[id]? /\C'.cp[id]? =C.cp[id]?)
theorem CLe.toN{C C':Ctx}(h:CLe C C')(n:Nat):CLeN n C C':=⟨h.B,h.M,h.top,h.mnew,h.unew,λid ver _ hv=>h.ids id ver hv⟩
theorem CLeN.refl{n:Nat}(C:Ctx):CLeN n C C:=(CLe.refl C).toN n
theorem CLeN.trans{n:Nat}{C C' C'':Ctx}(h:CLeN n C C')(k:CLeN n C' C''):CLeN n C C'':=by
 refine⟨k.B.trans h.B,λb o u e=>k.M _ _ _ (h.M _ _ _ e),k.top.trans h.top,λb o u e=> ?_,λb e=> ?_,λid ver hid e=> ?_⟩
 .rcases k.mnew b o u e with e|e|e
  .exact h.mnew b o u e
  .exact .inr (.inl (by rw[<-h.top];exact e))
  .rcases h.unew b e with e|e;all_goals simp_all
 .rcases k.unew b e with e|e
  .exact h.unew b e
  .exact .inr (by rw[<-h.top];exact e)
 obtain⟨v1,e1,l1,q1⟩:=h.ids id ver hid e;obtain⟨v2,e2,l2,q2⟩:=k.ids id v1 hid e1;grind
theorem CLeN.full{n:Nat}{C C':Ctx}(h:CLeN n C C')(hn:C.vs.length=n):CLe C C':=⟨h.B,h.M,h.top,h.mnew,h.unew,λid ver hv=>h.ids id ver (by have:=(gA.1 hv).1;omega) hv⟩
structure Env where
 N:Nat
 H0:za
def HSc(H:za):Prop:=∀(id:Nat) (k:Blk),H[id]? =some k->∀ x∈k.cells,Scoped H.length x
theorem WRel.hsc(hw:WRel C H w):HSc H:=λid k hk x hx=>by
 obtain⟨m,hm⟩:∃ m,C.mu[id]? =some m:=⟨C.mu[id]'(by rw[hw.len];exact(gA.1 hk).1),gG _⟩;cases m with
 | none=>
  rcases hw.gho id k hk hm with h0|⟨b,es,clock,_,_,_,q4,q5⟩|⟨b,r,_,_,_,q4⟩
  .simp_all
  .obtain⟨j,hj,rfl⟩:=dI hx;have:=(q5 j _ es[j] (gG hj) (wG om)).scoped;rwa[hw.lenv]at this
  .rw[q4.1,uX]at hx;rw[hx];exact .lp _ r
 | some b=>
 obtain⟨cur,_,_,_,_,q7,q8⟩:=hw.own id k b hk hm;obtain⟨j,hj,rfl⟩:=dI hx;have:=(q8 j _ cur[j] (gG hj) (wG om)).scoped;rwa[hw.lenv]at this
def Post(E:Env)(C:Ctx)(w:World)(Q:Exit->Fr->za->Prop):Exit->Act->World->Prop:=λe a' w'=>∃ C' F' H',CLeN E.H0.length C C'/\a'.defers=[]/\WRel C' H' w'/\Below C.B w w'/\FRel C' E.N (slot F') a'/\Q e F' H'
theorem Post.trans{E:Env}{C C1:Ctx}{w w1:World}{Q:Exit->Fr->za->Prop}(h1:CLeN E.H0.length C C1)(h2:Below C.B w w1){e:Exit}{a':Act}{w':World}(h:Post E C1 w1 Q e a' w'):Post E C w Q e a' w':=by obtain⟨C',F',H',q1,q2,q3,q4,q5,q6⟩:=h;exact⟨C',F',H',h1.trans q1,q2,q3,h2.trans (by rw[<-h1.B];exact q4),q5,q6⟩
def PW(P:Program)(E:Env)(c:Code)(F:Fr)(H:za)(Q:Exit->Fr->za->Prop):Prop:=HSc E.H0->∀(C:Ctx) (a:Act) (w:World),a.defers=[]->WRel C H w->FRel C E.N (slot F) a->c.wp P (Post E C w Q) a w
def zhV(K:Fr->za->Prop)(Q:Exit->Fr->za->Prop):Exit->Fr->za->Prop
 | .normal,F,H=>K F H
 | e,F,H=>Q e F H
def zey(id:Nat)(Q:Exit->Fr->za->Prop):Exit->Fr->za->Prop
 | .exit id',F,H=>if id'=id then Q .normal F H else Q (.exit id') F H
 | e,F,H=>Q e F H
def zx5(Q:Exit->Fr->za->Prop):Exit->Fr->za->Prop
 | .goto _,_,_=>False
 | e,F,H=>Q e F H
section rules
variable {E:Env} {Q:Exit->Fr->za->Prop}
theorem PW.mono{c:Code}{Q':Exit->Fr->za->Prop}(h:PW P E c F H Q)(hq:∀ e F H,Q e F H->Q' e F H):PW P E c F H Q':=λhs C a w hd hw hf=>wp_mono (h hs C a w hd hw hf) λ_ _ _ ⟨C',F',H',q1,q2,q3,q4,q5,q6⟩=>⟨C',F',H',q1,q2,q3,q4,q5,hq _ _ _ q6⟩
theorem PW.skip(h:Q .normal F H):PW P E .skip F H Q:=λhs C a w hd hw hf=>wp_skip ⟨C,F,H,.refl _,hd,hw,.refl _ _,hf,h⟩
theorem PW.ret(h:Q .ret F H):PW P E .ret F H Q:=λhs C a w hd hw hf=>wp_ret ⟨C,F,H,.refl _,hd,hw,.refl _ _,hf,h⟩
theorem PW.exit{id:Nat}(h:Q (.exit id) F H):PW P E (.exit id) F H Q:=λhs C a w hd hw hf=>wp_exit ⟨C,F,H,.refl _,hd,hw,.refl _ _,hf,h⟩
theorem PW.label{l:Nat}(h:Q .normal F H):PW P E (.label l) F H Q:=λhs C a w hd hw hf=>wp_label ⟨C,F,H,.refl _,hd,hw,.refl _ _,hf,h⟩
theorem PW.seq{x y:Code}(h:PW P E x F H (zhV (λF' H'=>PW P E y F' H' Q) Q)):PW P E (.seq x y) F H Q:=λhs C a w hd hw hf=>by
 refine wp_seq (wp_mono (h hs C a w hd hw hf) ?_);rintro e a1 w1 ⟨C1,F1,H1,q1,q2,q3,q4,q5,q6⟩;cases e with
 | normal=>exact wp_mono (q6 hs C1 a1 w1 q2 q3 q5) λ_ _ _ hp=>hp.trans q1 q4
 | _=>exact⟨C1,F1,H1,q1,q2,q3,q4,q5,q6⟩
theorem PW.scope{c:Code}(h:PW P E c F H (zx5 Q)):PW P E (.scope c) F H Q:=λhs C a w hd hw hf=>by
 refine wp_scope_straight (wp_mono (h hs C a w hd hw hf) ?_);rintro e a1 w1 ⟨C1,F1,H1,q1,q2,q3,q4,q5,q6⟩;cases e with
 | goto l=>exact q6.elim
 | _=>exact⟨C1,F1,H1,q1,q2,q3,q4,q5,q6⟩
theorem PW.cond{c:Operand}{x y:Code}{t:Bool}(hc:ev (slot F) c= .bool t)(h1:t=true->PW P E x F H Q)(h2:t=false->PW P E y F H Q):PW P E (.cond c x y) F H Q:=λhs C a w hd hw hf=>by have hv:=zx hf c;rw[hc]at hv;exact wp_cond_split (zar hv) (λht=>h1 ht hs C a w hd hw hf) (λht=>h2 ht hs C a w hd hw hf)
theorem PW.block{id:Nat}{c:Code}(h:PW P E c F H (zey id Q)):PW P E (.block id c) F H Q:=λhs C a w hd hw hf=>by
 refine wp_block (wp_mono (h hs C a w hd hw hf) ?_);rintro e a1 w1 ⟨C1,F1,H1,q1,q2,q3,q4,q5,q6⟩;cases e with
 | exit id'=>
  simp only[zey]at q6;simp only[Exit.inBlock];split
  .rename_i he;rw[gD he]at q6;exact⟨C1,F1,H1,q1,q2,q3,q4,q5,q6⟩
  .rename_i he;rw[gC he]at q6;exact⟨C1,F1,H1,q1,q2,q3,q4,q5,q6⟩
 | _=>exact⟨C1,F1,H1,q1,q2,q3,q4,q5,q6⟩
def kp(ks:List Nat)(F:Fr):Fr:=ks.map λt=>(t,slot F t)
theorem ztB(ks:List Nat)(F:Fr)(t:Nat):slot (kp ks F) t=slot F t\/slot (kp ks F) t= .undef:=by
 induction ks with
 | nil=>exact .inr rfl
 | cons k ks ih=>grind[Nat.beq,slot,kp,Nat.eq_of_beq_eq_true]
theorem FRel.keep(hf:FRel C N (slot F) a)(ks:List Nat):FRel C N (slot (kp ks F)) a:=⟨hf.1,λt=>by
 rcases ztB ks F t with h|h
 .rw[h];exact hf.2 t
 .rw[h];exact .undef _⟩
theorem PW.keep{c:Code}(ks:List Nat)(h:PW P E c (kp ks F) H Q):PW P E c F H Q:=λhs C a w hd hw hf=>h hs C a w hd hw (hf.keep ks)
def ztd(P:Program)(c:Code)(Q:Exit->Act->World->Prop)(a:Act)(w:World):Prop:=∀(b:Frame) (k:List Item) (cs:List Frame),∃ e a' w',Q e a' w'/\Arrives P (lone (b.at a (.code c:: .inLoop c::k)) cs w) b k cs e a' w'
theorem zkK{c:Code}{Q:Exit->Act->World->Prop}{a:Act}{w:World}(h:c.wp P (Exit.then (ztd P c Q) Q) a w):ztd P c Q a w:=by
 intro b k cs;obtain⟨e,a1,w1,hq,harr⟩:=h b (.inLoop c::k) cs;cases e with
 | normal=>
  obtain⟨e2,a2,w2,hq2,harr2⟩:=hq b k cs;exact⟨e2,a2,w2,hq2,.of_steps (Steps.trans harr (.one step_inLoop)) harr2⟩
 | exit id=>exact⟨_,a1,w1,hq,.pass (x:=.inLoop c) rfl (λ_ _=>.inl sp) harr⟩
 | goto l=>exact⟨_,a1,w1,hq,.pass (x:=.inLoop c) rfl (λ_ _=>.inl sp) harr⟩
 | ret=>exact⟨_,a1,w1,hq,.pass (x:=.inLoop c) rfl (λ_ _=>.inl sp) harr⟩
 | panic ch=>exact⟨_,a1,w1,hq,.pass (x:=.inLoop c) rfl (λ_ _=>.inl sp) harr⟩
 | outgrown=>exact⟨_,a1,w1,hq,.pass (x:=.inLoop c) rfl (λ_ _=>.inl sp) harr⟩
def PL(P:Program)(E:Env)(c:Code)(F:Fr)(H:za)(Q:Exit->Fr->za->Prop):Prop:=HSc E.H0->∀(C:Ctx) (a:Act) (w:World),a.defers=[]->WRel C H w->FRel C E.N (slot F) a->ztd P c (Post E C w Q) a w
theorem PW.loop{c:Code}(h:PL P E c F H Q):PW P E (.loop c) F H Q:=λhs C a w hd hw hf b k cs=>by obtain⟨e,a',w',hq,harr⟩:=h hs C a w hd hw hf b k cs;exact⟨e,a',w',hq,.of_steps (.one step_loop) harr⟩
theorem PL.round{c:Code}(h:PW P E c F H (zhV (λF' H'=>PL P E c F' H' Q) Q)):PL P E c F H Q:=λhs C a w hd hw hf=>by
 refine zkK (wp_mono (h hs C a w hd hw hf) ?_);rintro e a1 w1 ⟨C1,F1,H1,q1,q2,q3,q4,q5,q6⟩;cases e with
 | normal=>
  have hk:=q6 hs C1 a1 w1 q2 q3 q5;exact λb k cs=>by
   obtain⟨e2,a2,w2,hq2,harr2⟩:=hk b k cs;exact⟨e2,a2,w2,hq2.trans q1 q4,harr2⟩
 | _=>exact⟨C1,F1,H1,q1,q2,q3,q4,q5,q6⟩
theorem PL.keep{c:Code}(ks:List Nat)(h:PL P E c (kp ks F) H Q):PL P E c F H Q:=λhs C a w hd hw hf=>h hs C a w hd hw (hf.keep ks)
def zbZ(all:List Oper)(F:Nat->PV)(o:Oper):Option Bool:=
 match o.guard with
 | none=>some true
 | some (j,b)=>match (all[j]?).bind (·.dst)with
  | some d=>match F d with
   | .bool x=>some (x==b)
   | .tup []=>some false
   | _=>none
  | none=>none
theorem zaw{all:List Oper}{f:Nat->PV}{o:Oper}{b:Bool}(hf:FRel C N f a)(h:zbZ all f o=some b):Region.wanted o (yielded all.toArray a.tmps)=b:=by
 unfold zbZ at h;unfold Region.wanted;split at h
 .simp_all
 .rename_i j t hg;rw[hg];simp only;split at h
  .rename_i d hd;have hv:=hf.2 d;have hy:yielded all.toArray a.tmps j=match a.tmps[d]? with|some (.bool x)=>some x|_=>none:=by unfold yielded;grind
   split at h
   .rename_i x hx;injection h with h;subst h;rw[hx]at hv;have he:=zar hv;rw[vO]at he;cases hq:a.tmps[d]? with
    | none=>simp[hq,Go.undef]at he
    | some u=>rw[hq]at he;simp at he;subst he;rw[hy,hq];simp
   .rename_i hx;injection h with h;subst h;rw[hx]at hv;have he:a.tmps.getD d Go.undef=Go.undef:=by
     generalize a.tmps.getD d Go.undef=u at hv;cases hv with
     | @tup _ us hl hR0=>have:us=[]:=uU (by simpa using hl);subst this;rfl
    rw[vO]at he;rw[hy];cases hq:a.tmps[d]? with
    | none=>simp
    | some u=>rw[hq]at he;simp[Go.undef]at he;subst he;simp
   .cases h
  .cases h
def Exec(P:Program)(o:Oper)(f:Nat->PV)(H:za)(v:PV)(H':za):Prop:=
 match zt o.op f with
 | some (g,args)=>CallOk P g args H v H'
 | none=>pop P o.op f H=some (v,H')
def zT(N:Nat)(o:Oper):Bool:=match o.dst with|some d=>Nat.blt d N|none=>true
theorem zaX{o:Oper}(h:zT N o=true):∀ t,o.dst=some t->t<N:=λt ht=>by simp_all[zT,Nat.blt_eq]
def zcX(P:Program)(o:Oper)(f:Nat->PV)(H:za)(R:PV->za->Prop):Prop:=
 match zt o.op f with
 | some (g,args)=>CallEx P g args H R
 | none=>∃ v H',pop P o.op f H=some (v,H')/\R v H'
theorem Exec.toR{o:Oper}{f:Nat->PV}{v:PV}{H':za}(h:Exec P o f H v H'):zcX P o f H (λv' H''=>v'=v/\H''=H'):=by
 unfold Exec at h;unfold zcX;split at h
 .exact h.toEx
 simp_all
theorem zb8{o:Oper}{f:Nat->PV}{R:PV->za->Prop}(hd:zT N o=true)(hw:WRel C H w)(hf:FRel C N f a)(h:zcX P o f H R)(next:Act->World->Prop)(Q:Exit->Act->World->Prop)
  (hn:∀ C' u w' v H',R v H'->CLe C C'->WRel C' H' w'->Below C.B w w'->FRel C' N (upd f o.dst v) (a.put o.dst u)->next (a.put o.dst u) w'):o.wp P a w next Q:=by
 unfold zcX at h;split at h
 .rename_i g args hc;unfold zt at hc;split at hc
  .rename_i x xs ts ho;split at hc
   .rename_i f' first captured hfv
    simp only[qA.injEq,qB.injEq]at hc;obtain⟨rfl,rfl⟩:=hc;have hv:=zx hf x;rw[hfv]at hv;obtain⟨us,ws,hl,hl',hR,hR',he⟩:∃ us ws,us.length=first.length/\ws.length=captured.length/\Rel C first us/\Rel C captured ws/\a.eval x= .func (.func f') us.toArray ws.toArray:=by
     generalize a.eval x=q at hv;cases hv with
     | func hl hl' hR hR'=>exact⟨_,_,hl,hl',hR,hR',rfl⟩
    obtain⟨hal,har⟩:=zeW hf xs.toList;have hrun:(execOp a.eval o).run P w= .ok (.enter f' (us++xs.toList.map a.eval++ws).toArray) w:=by
     have e1:us.toArray++xs.map a.eval++ws.toArray=(us++xs.toList.map a.eval++ws).toArray:=by simp_all
     simp only[execOp,ho,resolve,he,Deferred.ofValue,invoke,Sem.run_bind,Sem.run_pure,Result.andThen_ok,zdz h.1,e1]
    unfold Oper.wp;rw[hrun,Oper.upon_enter];refine(h.2 C _ w hw ⟨by simp[hl,hl'],Rel.append (by simp[hl]) (Rel.append hl hR har) hR'⟩).mono ?_;rintro e w' ⟨C',u,v,H',q0,q1,q2,q3,rfl,q5⟩;exact hn C' u w' v H' q0 q1 q2 q3 ((hf.mono q1).put _ (zaX hd) q5)
   .cases hc
  .cases hc
 .obtain⟨v,H',h,hR⟩:=h;obtain⟨C',u,w',q1,q2,q3,q4,q5⟩:=zql hw hf h;unfold Oper.wp;rcases q5 with q5|⟨q5,rfl⟩
  .rw[q5,Oper.upon_value];exact hn C' u w' v H' hR q1 q2 q3 ((hf.mono q1).put _ (zaX hd) q4)
  .rw[q5,Oper.upon_skip];exact hn C' _ w' _ H' hR q1 q2 q3 ((hf.mono q1).put _ (zaX hd) q4)
theorem zfk{o:Oper}{f:Nat->PV}{v:PV}{H':za}(hd:zT N o=true)(hw:WRel C H w)(hf:FRel C N f a)(h:Exec P o f H v H')(next:Act->World->Prop)(Q:Exit->Act->World->Prop)
  (hn:∀ C' u w',CLe C C'->WRel C' H' w'->Below C.B w w'->FRel C' N (upd f o.dst v) (a.put o.dst u)->next (a.put o.dst u) w'):o.wp P a w next Q:=
 zb8 hd hw hf h.toR next Q λC' u w' v' H'' e q1 q2 q3 q4=>hn C' u w' q1 (e.2▸q2) q3 (e.1▸q4)
def zbK(P:Program)(all:List Oper):List Oper->(Fr->za->Prop)->Fr->za->Prop
 | [],K,F,H=>K F H
 | o::r,K,F,H=>match zbZ all (slot F) o with
  | some b=>(b=true->match zt o.op (slot F)with
    | some (g,args)=>∃ R,CallEx P g args H R/\∀ v H',R v H'->zbK P all r K (put F o.dst v) H'
    | none=>match pop P o.op (slot F) H with
     | some (v,H')=>zbK P all r K (put F o.dst v) H'
     | none=>False)/\(b=false->zbK P all r K (put F o.dst (.tup [])) H)
  | none=>False
theorem zbM{all:List Oper}{K:Fr->za->Prop}:∀(l:List Oper) (F:Fr) (H:za),l.all (zT N)=true->zbK P all l K F H->∀(C:Ctx) (a:Act) (w:World),a.defers=[]->WRel C H w->FRel C N (slot F) a->
  ∀ Q:Exit->Act->World->Prop,(∀ C' F' H' a' w',CLe C C'->a'.defers=[]->WRel C' H' w'->Below C.B w w'->FRel C' N (slot F') a'->K F' H'->Q .normal a' w')->wpList P all.toArray Q l a w
 | [],F,H,_,h,C,a,w,hd,hw,hf,Q,hQ=>hQ C F H a w (.refl _) hd hw (.refl _ _) hf h
 | o::r,F,H,hall,h,C,a,w,hd,hw,hf,Q,hQ=>by
  simp only[dW,gB]at hall;simp only[zbK]at h;split at h
  .rename_i b hb;have hwant:=zaw hf hb;unfold wpList;cases b with
   | true=>
    rw[gD hwant];left;have h1:=h.1 rfl;have step:∀ R,zcX P o (slot F) H R->(∀ v H',R v H'->zbK P all r K (put F o.dst v) H')->o.wp P a w (wpList P all.toArray Q r) Q:=λR he hr=>by refine zb8 hall.1 hw hf he _ _ λC' u w' v H' q0 q1 q2 q3 q4=> ?_;rw[<-zaH]at q4;refine zbM r _ _ hall.2 (hr v H' q0) C' _ w' (by cases ho:o.dst<;>simp[Act.put,hd]) q2 q4 Q ?_;intro C'' F'' H'' a'' w'' p1 p2 p3 p4 p5 p6;exact hQ C'' F'' H'' a'' w'' (q1.trans p1) p2 p3 (q3.trans (by rw[<-q1.B];exact p4)) p5 p6
    split at h1
    .rename_i g args hc;obtain⟨R,hcall,hr⟩:=h1;exact step R (by unfold zcX;rw[hc];exact hcall) hr
    .rename_i hc;split at h1
     .rename_i v H' hp;exact step (λv' H''=>v'=v/\H''=H') (by unfold zcX;rw[hc];exact⟨v,H',hp,rfl,rfl⟩) (λv' H'' e=>by rw[e.1,e.2];exact h1)
     simp_all
   | false=>rw[gC (by rw[hwant];simp)];have h2:=h.2 rfl;have q4:=hf.put o.dst (zaX hall.1) (VRel.undefV (C:=C));rw[<-zaH]at q4;exact zbM r _ _ hall.2 h2 C _ w (by cases ho:o.dst<;>simp[Act.put,hd]) hw q4 Q hQ
  simp_all
theorem PW.region{id:Nat}{ops:Array Oper}(hd:ops.toList.all (zT E.N)=true)(h:zbK P ops.toList ops.toList (λF' H'=>Q .normal F' H') F H):PW P E (.region id ops false) F H Q:=λhs C a w hdf hw hf=>by refine wp_region_list ?_;have:=zbM (P:=P) (all:=ops.toList) ops.toList F H hd h C a w hdf hw hf (Post E C w Q) (λC' F' H' a' w' p1 p2 p3 p4 p5 p6=>⟨C',F',H',p1.toN _,p2,p3,p4,p5,p6⟩);omega
theorem PW.region_to{id:Nat}{ops:Array Oper}(ks:List Nat)(F1:Fr)(H1:za)(hd:ops.toList.all (zT E.N)=true)(h:zbK P ops.toList ops.toList (λF' H'=>kp ks F'=F1/\H'=H1) F H)(hq:Q .normal F1 H1):
  PW P E (.region id ops false) F H Q:=λhs C a w hdf hw hf=>by
 refine wp_region_list ?_;have:=zbM (P:=P) (all:=ops.toList) ops.toList F H hd h C a w hdf hw hf (Post E C w Q) (λC' F' H' a' w' p1 p2 p3 p4 p5 p6=>⟨C',F1,H1,p1.toN _,p2,p6.2▸p3,p4,p6.1▸p5.keep ks,hq⟩);simpa using this
end rules
end Go.Proofs.YtleejngibkbjnaaGreatDoor.Pm
namespace Go.Proofs.YtleejngibkbjnaaGreatDoor.Pm
open Go.RowKit
variable {P:Program} {H:za}
def Wkn(x y:PV):Prop:=∀(C:Ctx) (u:Value),VRel C x u->VRel C y u
theorem Wkn.refl(x:PV):Wkn x x:=λ_ _ h=>h
theorem Wkn.slF(xs:List PV)(n:Nat)(f:Bool):Wkn (.slice xs n f) (.slice xs n false):=λC u h=>by
 cases h with
 | slice hl hM hc hR hcap hmax hf=>exact .slice hl hM hc hR hcap hmax (λe=>by cases e)
 | sliceN ad full=>exact .sliceN ad false
def Wkns(xs ys:List PV):Prop:=xs.length=ys.length/\∀(j:Nat) (x y:PV),xs[j]? =some x->ys[j]? =some y->Wkn x y
theorem Wkns.nil:Wkns [] []:=⟨rfl,λj x y h=>by simp at h⟩
theorem Wkns.cons{x y:PV}{xs ys:List PV}(h:Wkn x y)(hs:Wkns xs ys):Wkns (x::xs) (y::ys):=⟨by simp[hs.1],λj a b ha hb=>by
 cases j with
 | zero=>
  simp only[rG,qA.injEq]at ha hb;subst ha hb;exact h
 | succ j=>
  simp only[wY]at ha hb;exact hs.2 j a b ha hb⟩
theorem Wkns.refl:∀ xs:List PV,Wkns xs xs
 | []=>.nil
 | x::r=>.cons (.refl x) (Wkns.refl r)
theorem Wkns.append{xs ys xs' ys':List PV}(h:Wkns xs ys)(h':Wkns xs' ys'):Wkns (xs++xs') (ys++ys'):=by
 refine⟨by simp[h.1,h'.1],λj a b ha hb=> ?_⟩;by_cases hj:j<xs.length
 .rw[gK hj]at ha;rw[gK (by rw[<-h.1];exact hj)]at hb;exact h.2 j a b ha hb
 .rw[gN om]at ha;rw[gN (by rw[<-h.1];omega),<-h.1]at hb;exact h'.2 _ a b ha hb
theorem Wkn.agg{xs ys:List PV}(h:Wkns xs ys)(hc:ys.all PV.cell=true):Wkn (.agg xs) (.agg ys):=λC u hu=>by
 cases hu with
 | agg hl _ hR=>
  refine .agg (hl.trans h.1) (λx hx=>uJ.1 hc x hx) λj y u hy hu=> ?_;have hj:j<xs.length:=by have:=(gA.1 hy).1;have:=h.1;omega
  exact h.2 j _ y (gG hj) hy C u (hR j _ u (gG hj) hu)
theorem CallOk.wk{f:FuncId}{args args':List PV}{v:PV}{H':za}(h:CallOk P f args' H v H')(hz:Wkns args args'):CallOk P f args H v H':=
 ⟨h.1,λC us w hw hu=>h.2 C us w hw ⟨hu.1.trans hz.1,λj y u hy hu'=>by
  have hj:j<args.length:=by have:=(gA.1 hy).1;have:=hz.1;omega
  exact hz.2 j _ y (gG hj) hy C u (hu.2 j _ u (gG hj) hu')⟩⟩
end Go.Proofs.YtleejngibkbjnaaGreatDoor.Pm
