/-
  Parts of the proof. No condition.
-/
import Derived.Test.YtleejngibkbjnaaGreatDoorW08
import Derived.Test.YtleejngibkbjnaaGreatDoorW09
open Go.Proofs.YtleejngibkbjnaaGreatDoor.Pm.PV renaming int → O
open Go.IntKind renaming i64 → J
open Nat renaming beq → qA
open Go.Proofs.Tryz
set_option linter.all false
set_option maxRecDepth 100000
set_option maxHeartbeats 32000000
namespace Go.Proofs.YtleejngibkbjnaaGreatDoor.Sc
open Pm Ty Go.RowKit
def pcx(c:Cx):Int:=if c.s=2 then 1 else 0
theorem znK(c:Cx)(H:za):CallOk prog 163 [.agg (cxc c)] H (O J (pcx c)) H:=by obtain⟨t,s,i,n⟩:=c;refine .body (F0:=[(0,.agg [O J t,O J s,.bool i,.bool n])]) func163 rfl ntmps163 results163 rfl kr rfl ?_;(repeat'(first|refine .seq ?_|refine .skip ?_|((refine .rg rfl λK hK=> ?_);simp(disch:=omega) only[go_sem])|(refine hK _ _ ?_)|(refine .cond (t:=_) rfl (λh=> ?_) (λh=> ?_)<;>(try(cases h;done))<;>(try simp only[nqb]at h))));all_goals((refine .ret ⟨_,rfl,?_⟩;refine .base (.id' ?_ (.int _ _)));(simp_all[pcx,slot,qA]))
theorem zfK(c:Cx)(H:za):CallOk prog 105 [.agg (cxc c)] H (O J (pcx c)) H:=by obtain⟨t,s,i,n⟩:=c;refine .body (F0:=[(0,.agg [O J t,O J s,.bool i,.bool n])]) func105 rfl ntmps105 results105 rfl kr rfl ?_;(repeat'(first|refine .seq ?_|refine .skip ?_|refine .block ?_|((first|refine .rg rfl λK hK=> ?_|refine .draw mix kr λK hK=> ?_);simp(disch:=omega) only[go_sem])|((first|refine zg ?_ ?_|refine zr ?_ ?_|refine uI ?_ ?_)<;>intro h<;>(try simp only[nqb]at h)<;>simp(disch:=omega) only[go_sem,h])|(refine hK _ _ ?_)|(refine .cond (t:=_) rfl (λh=> ?_) (λh=> ?_)<;>(try(cases h;done))<;>(try simp only[nqb]at h))));all_goals((refine .ret ⟨_,rfl,?_⟩;first|refine .inl ⟨?_,rfl⟩|refine .base (.id' ?_ (.bool _))|refine .base (.id' ?_ (.int _ _)));(simp_all[pcx,slot,qA]<;>first|rfl|omega|(rw[gJ];simp;done)|(rw[gJ];simp;omega)))
def f0:Fm:=⟨0,0,[],[],[]⟩
def zez(c:Cx)(dir sel:Int):Bool:= !(vcx c)||((decide (dir≠0)&&decide (dir≠1))||(fcx c&&(decide (sel≠0)&&decide (sel≠1))))
def zcz(c:Cx)(pa fu fi:Fm)(dir sel:Int):Fm×Bool:=if dir=1 then(fu,!(fcx c))else if(c.n&&(decide (c.t=2)&&decide (sel≠pcx c)))=true then(fi,true)else(pa,!(fcx c))
def zo(f:Fm)(sel:Int):Fm:=fld (f.w / 2).toNat (f.h / 4).toNat sel.toNat f.y f.u f.v
def zdi(f:Fm)(wh:Bool)(sel:Int):Fm×Int:=if f.w=0 then(f0,6)else if(!(fvd f)||(!wh&&decide (f.h%32≠0)))=true then(f0,1)else if wh=true then(f,0)else(zo f sel,0)
def zcM(c:Cx)(pa fu fi:Fm)(dir sel:Int):Fm×Int:=if zez c dir sel=true then(f0,1)else zdi (zcz c pa fu fi dir sel).1 (zcz c pa fu fi dir sel).2 sel
theorem fz0(n:Nat)(K:za)(e:Int):Fz n K (.tup [.agg [O J 0,O J 0,.slice [] 0 true,.slice [] 0 true,.slice [] 0 true],O J e]) (.tup [.agg (fmc f0),O J e]):=Fz.tupC ⟨Fz.aggC ⟨.id (.int _ _),.id (.int _ _),.slice rfl (λj x y hx=>by simp at hx) (λe=>by cases e),.slice rfl (λj x y hx=>by simp at hx) (λe=>by cases e),.slice rfl (λj x y hx=>by simp at hx) (λe=>by cases e),trivial⟩,.id (.int _ _),trivial⟩
theorem zdM{w ht:Int}{y u v:List UInt8}(h:fvd ⟨w,ht,y,u,v⟩=true)(h32:ht%32=0):∃ V K:Nat,w=((2 * V:Nat):Int)/\ht=((4 * K:Nat):Int)/\Fok V K y u v:=by
 simp only[fvd,fmd,gB,gY]at h;obtain⟨⟨hs,hy,hu,hv⟩,hw,hh⟩:=h;obtain⟨g1,g2,g3,g4,g5,g6⟩:=za8 hs;refine⟨(w / 2).toNat,(ht / 4).toNat,om,om,?_⟩;obtain⟨V,hV⟩:∃ V:Nat,(w / 2).toNat=V:=⟨_,rfl⟩;obtain⟨K,hK⟩:∃ K:Nat,(ht / 4).toNat=K:=⟨_,rfl⟩;rw[hV,hK];have e1:w=((2 * V:Nat):Int):=om;have e2:ht=((4 * K:Nat):Int):=om;have e3:2 * K * (2 * (2 * V))=2 * V * (4 * K):=by grind
 have e4:K * (2 * V)=V * (2 * K):=by grind
 have d1:w / 2=(V:Int):=om;have d2:ht / 2=((2 * K:Nat):Int):=om;rw[d1,d2]at hu hv;rw[e1,e2]at hy;refine⟨om,om,?_,?_,?_⟩;all_goals omega
theorem zaW(V K P:Nat)(y u v:List UInt8):zo (fr4 V K y u v) (P:Int)=fld V K P y u v:=by simp_all[zo,fr4,uV]
theorem zkp(c:Cx)(pa fu fi:Fm)(dir sel:Int)(H:za):CallOk prog 164 [.agg (cxc c),.agg (fmc pa++(fmc fu++fmc fi)),O J dir,O J sel] H (.tup [.agg (fmc (zcM c pa fu fi dir sel).1),O J (zcM c pa fu fi dir sel).2]) H:=by
 generalize hr:zcM c pa fu fi dir sel=r;have vc:=λH=>znb c H;have fc:=λH=>zoa c H;have pc:=λH=>znK c H;obtain⟨t,s,i,n⟩:=c;obtain⟨w1,h1,y1,u1,v1⟩:=pa;obtain⟨w2,h2,y2,u2,v2⟩:=fu;obtain⟨w3,h3,y3,u3,v3⟩:=fi;simp only[fmc,uZ,vC];refine .body (F0:=[(0,.agg [O J t,O J s,.bool i,.bool n]),(1,.agg [O J w1,O J h1,.slice (bs y1) y1.length false,.slice (bs u1) u1.length false,.slice (bs v1) v1.length false,O J w2,O J h2,.slice (bs y2) y2.length false,.slice (bs u2) u2.length false,.slice (bs v2) v2.length false,O J w3,O J h3,.slice (bs y3) y3.length false,.slice (bs u3) u3.length false,.slice (bs v3) v3.length false]),(2,O J dir),(3,O J sel)]) func164 rfl ntmps164 results164 rfl kr rfl ?_;refine .e ?_;(repeat refine .seq ?_);refine .rgv (P:=prog) [2,3,4,5,8] 34 (.bool (zez ⟨t,s,i,n⟩ dir sel)) ?_ ?_ ?_
 .rfl
 .cases hv:vcx ⟨t,s,i,n⟩<;>cases hf:fcx ⟨t,s,i,n⟩;all_goals(rw[hv]at vc;rw[hf]at fc;simp(disch:=omega) only[go_sem];(repeat'(first|((refine zg ?_ ?_)<;>intro h<;>(try simp only[nqb]at h)<;>simp(disch:=omega) only[go_sem,h])|((first|refine VCx.call (vc _) rfl ?_|refine VCx.call (fc _) rfl ?_);simp(disch:=omega) only[go_sem]))))
  all_goals(clear vc fc pc hr;(simp_all[zez,slot,qA]<;>rfl))
 refine .c (λh=> ?_) (λh=> ?_)
 .have hb:zez ⟨t,s,i,n⟩ dir sel=true:=h;refine .e (.v (.tup [.agg [O J 0,O J 0,.slice [] 0 true,.slice [] 0 true,.slice [] 0 true],O J 1]) ?_);rw[<-hr,zcM,gD hb];exact .base (fz0 _ _ _)
 have hb:zez ⟨t,s,i,n⟩ dir sel=false:=h;refine .skip (.dg λK hK=> ?_);simp(disch:=omega) only[go_sem];refine VCz.call (λ_=>fc _) rfl ?_;simp(disch:=omega) only[go_sem];refine hK _ _ ?_;clear hK K;have hr2:zdi (zcz ⟨t,s,i,n⟩ ⟨w1,h1,y1,u1,v1⟩ ⟨w2,h2,y2,u2,v2⟩ ⟨w3,h3,y3,u3,v3⟩ dir sel).1 (zcz ⟨t,s,i,n⟩ ⟨w1,h1,y1,u1,v1⟩ ⟨w2,h2,y2,u2,v2⟩ ⟨w3,h3,y3,u3,v3⟩ dir sel).2 sel=r:=by simp_all[zcM]
 have hwh:(zcz ⟨t,s,i,n⟩ ⟨w1,h1,y1,u1,v1⟩ ⟨w2,h2,y2,u2,v2⟩ ⟨w3,h3,y3,u3,v3⟩ dir sel).2=false->sel=0\/sel=1:=λhw=>by grind[fcx,zcz,zez]
 generalize hpk:zcz ⟨t,s,i,n⟩ ⟨w1,h1,y1,u1,v1⟩ ⟨w2,h2,y2,u2,v2⟩ ⟨w3,h3,y3,u3,v3⟩ dir sel=pk1 at hr2 hwh;obtain⟨⟨w,ht,y,u,v⟩,wh⟩:=pk1;simp only at hr2 hwh;refine .to [3,8,10,11] [(3,O J sel),(8,.ptr (H.length+2) 0 0),(10,.ptr (H.length+3) 0 0),(11,.bool wh)] (H++[⟨145,0,[O J t,O J s,.bool i,.bool n]⟩,⟨85,0,[O J w1,O J h1,.slice (bs y1) y1.length false,.slice (bs u1) u1.length false,.slice (bs v1) v1.length false,O J w2,O J h2,.slice (bs y2) y2.length false,.slice (bs u2) u2.length false,.slice (bs v2) v2.length false,O J w3,O J h3,.slice (bs y3) y3.length false,.slice (bs u3) u3.length false,.slice (bs v3) v3.length false]⟩,⟨29,0,[O J 0,O J 0,.slice [] 0 true,.slice [] 0 true,.slice [] 0 true]⟩,⟨29,0,[O J w,O J ht,.slice (bs y) y.length false,.slice (bs u) u.length false,.slice (bs v) v.length false]⟩]) ?_ ?_
 .clear hr2 hwh hr;refine .b (.e ?_);refine .c (λh=> ?_) (λh=> ?_)
  .have hd:dir=1:=by simpa using h
   rw[zcz,gD hd]at hpk;simp only[Prod.mk.injEq,Fm.mk.injEq]at hpk;obtain⟨⟨rfl,rfl,rfl,rfl,rfl⟩,rfl⟩:=hpk;refine .e ?_;exact⟨rfl,rfl⟩
  .have hd:dir≠1:=by simpa using h
   rw[zcz,gC hd]at hpk;(repeat refine .seq ?_);refine .rgv (P:=prog) [3,5,8,10,11] 46 (.bool (n&&(decide (t=2)&&decide (sel≠pcx ⟨t,s,i,n⟩)))) ?_ ?_ ?_
   .rfl
   .simp(disch:=omega) only[go_sem];(repeat'(first|((refine zg ?_ ?_)<;>intro h<;>(try simp only[nqb]at h)<;>simp(disch:=omega) only[go_sem,h])|((refine VCx.call (znK ⟨_,_,_,_⟩ _) rfl ?_);simp(disch:=omega) only[go_sem])));all_goals(clear vc fc pc hpk;(simp_all[slot,qA]<;>rfl))
   refine .c (λh=> ?_) (λh=> ?_)
   .rw[gD h]at hpk;simp only[Prod.mk.injEq,Fm.mk.injEq]at hpk;obtain⟨⟨rfl,rfl,rfl,rfl,rfl⟩,rfl⟩:=hpk;refine .e ?_;exact⟨rfl,rfl⟩
   .rw[gC (by rw[h];simp)]at hpk;simp only[Prod.mk.injEq,Fm.mk.injEq]at hpk;obtain⟨⟨rfl,rfl,rfl,rfl,rfl⟩,rfl⟩:=hpk;refine .skip ?_;exact⟨rfl,rfl⟩
 clear hpk hr hb vc fc pc;refine .e ?_;refine .c (λh=> ?_) (λh=> ?_)
 .have hw0:w=0:=by simpa using h
  refine .e (.v (.tup [.agg [O J 0,O J 0,.slice [] 0 true,.slice [] 0 true,.slice [] 0 true],O J 6]) ?_);rw[<-hr2,zdi,gD hw0];exact .base (fz0 _ _ _)
 have hw0:w≠0:=by simpa using h
 rw[zdi,gC (by exact hw0)]at hr2;refine .skip ?_;have va:=λH=>zhO ⟨w,ht,y,u,v⟩ H;(repeat refine .seq ?_);refine .rgv (P:=prog) [3,8,10,11] 78 (.bool (!(fvd ⟨w,ht,y,u,v⟩)||(!wh&&decide (ht%32≠0)))) ?_ ?_ ?_
 .rfl
 .cases hv:fvd ⟨w,ht,y,u,v⟩
  .rw[hv]at va;simp(disch:=omega) only[go_sem];(repeat'(((refine VCx.call (va _) rfl ?_);simp(disch:=omega) only[go_sem])));all_goals(clear va hr2 hwh;(simp_all[slot,qA]<;>rfl))
  .rw[hv]at va;have hpos:0<=ht:=by simp only[fvd,fmd,gB]at hv;have:=za8 hv.1.1;omega
   simp(disch:=omega) only[go_sem];(repeat'(first|((refine zg ?_ ?_)<;>intro h<;>(try simp only[nqb]at h)<;>simp(disch:=omega) only[go_sem,zai,h])|((refine VCx.call (va _) rfl ?_);simp(disch:=omega) only[go_sem,zai])));all_goals(clear va hr2 hwh;(simp_all[slot,qA]<;>rfl))
 refine .c (λh=> ?_) (λh=> ?_)
 .have hq:(!(fvd ⟨w,ht,y,u,v⟩)||(!wh&&decide (ht%32≠0)))=true:=h;refine .e (.v (.tup [.agg [O J 0,O J 0,.slice [] 0 true,.slice [] 0 true,.slice [] 0 true],O J 1]) ?_);rw[gD hq]at hr2;rw[<-hr2];exact .base (fz0 _ _ _)
 have hq:(!(fvd ⟨w,ht,y,u,v⟩)||(!wh&&decide (ht%32≠0)))=false:=h;rw[gC (by rw[hq];simp)]at hr2;refine .skip (.e ?_);refine .c (λh=> ?_) (λh=> ?_)
 .subst h;refine .e (.v (.tup [.agg [O J w,O J ht,.slice (bs y) y.length false,.slice (bs u) u.length false,.slice (bs v) v.length false],O J 0]) ?_);rw[gD rfl]at hr2;rw[<-hr2];exact .base (.id (zC _ _ _ _ _ _ _ _ _ _))
 .subst h;refine .skip ?_;have hq1:fvd ⟨w,ht,y,u,v⟩=true:=by simp_all
  have hq2:ht%32=0:=by simp_all
  obtain⟨V,K,rfl,rfl,hok⟩:=zdM hq1 hq2;obtain⟨P,hP,rfl⟩:∃ P:Nat,P<=1/\sel=(P:Int):=by
   rcases hwh rfl with e|e
   .exact⟨0,om,om⟩
   .exact⟨1,om,om⟩
  have fo:=λH=>ziJ V K P y u v H hok hP;have e1:=zaW V K P y u v;rw[gC sp]at hr2;have hr3:r=(fld V K P y u v,0):=by rw[<-hr2,<-e1];rfl
  rw[hr3];obtain⟨g,hg⟩:∃ g,fld V K P y u v=g:=⟨_,rfl⟩;rw[hg]at fo |-;obtain⟨a1,a2,a3,a4,a5⟩:=g;simp only[fmc,fr4]at fo |-;refine .k fo ?_;refine .v (.tup [.agg [O J a1,O J a2,.slice (bs a3) a3.length false,.slice (bs a4) a4.length false,.slice (bs a5) a5.length false],O J 0]) ?_;exact .base (.id (zC _ _ _ _ _ _ _ _ _ _))
theorem zsG{c:Cx}{pa fu fi:Fm}{dir sel:Int}(hb:zez c dir sel=false)(hw:(zcz c pa fu fi dir sel).2=false):sel=0\/sel=1:=by
 have hf:fcx c=true:=by
  unfold zcz at hw;split at hw
  .simpa using hw
  .split at hw
   .cases hw
   .simpa using hw
 rw[zez,hf]at hb;simp at hb;omega
def zmI(c:Cx)(dir sel:Int):Bool:=fcx c&&(c.n&&(decide (c.t=2)&&(decide (dir=0)&&decide (sel≠pcx c))))
theorem zzr{c:Cx}(h:vcx c=true)(hn:c.n=true):fcx c=true:=by simp_all[vcx,gB,fcx]
theorem zsH{c:Cx}{pa fu fi:Fm}{dir sel:Int}(hb:zez c dir sel=false):
  zcz c pa fu fi dir sel=(if dir=1 then fu else if zmI c dir sel=true then fi else pa,!(fcx c)||zmI c dir sel)/\(dir=1->zmI c dir sel=false):=by
 have hv:vcx c=true:=by simp_all[vcx,zez]
 have hd:dir=0\/dir=1:=by grind[zez]
 rcases hd with rfl|rfl
 .refine⟨?_,λe=>om⟩;unfold zcz zmI;cases hn:c.n
  .simp
  .have:=zzr hv hn;by_cases h2:c.t=2<;>by_cases h3:sel=pcx c<;>simp[this,h2,h3]
 .unfold zcz zmI;simp
theorem zjf(c:Cx)(pa fu fi:Fm)(dir sel:Int)(H:za):CallOk prog 239 [.agg (cxc c),.agg (fmc pa++(fmc fu++fmc fi)),O J dir,O J sel] H (.tup [.agg (fmc (zcM c pa fu fi dir sel).1),O J (zcM c pa fu fi dir sel).2]) H:=by
 generalize hr:zcM c pa fu fi dir sel=r;have vc:=λH=>zj3 c H;have fc:=λH=>zhy c H;have pc:=λH=>zfK c H;have hps:= @zsG c pa fu fi dir sel;have hpf:= @zsH c pa fu fi dir sel;obtain⟨t,s,i,n⟩:=c;obtain⟨w1,h1,y1,u1,v1⟩:=pa;obtain⟨w2,h2,y2,u2,v2⟩:=fu;obtain⟨w3,h3,y3,u3,v3⟩:=fi;simp only[fmc,uZ,vC];refine .body (F0:=[(0,.agg [O J t,O J s,.bool i,.bool n]),(1,.agg [O J w1,O J h1,.slice (bs y1) y1.length false,.slice (bs u1) u1.length false,.slice (bs v1) v1.length false,O J w2,O J h2,.slice (bs y2) y2.length false,.slice (bs u2) u2.length false,.slice (bs v2) v2.length false,O J w3,O J h3,.slice (bs y3) y3.length false,.slice (bs u3) u3.length false,.slice (bs v3) v3.length false]),(2,O J dir),(3,O J sel)]) func239 rfl ntmps239 results239 rfl kr rfl ?_;refine .e ?_;(repeat refine .seq ?_);refine .rgv (P:=prog) [2,3,4,5,8] 34 (.bool (zez ⟨t,s,i,n⟩ dir sel)) ?_ ?_ ?_
 .rfl
 .cases hv:vcx ⟨t,s,i,n⟩<;>cases hf:fcx ⟨t,s,i,n⟩;all_goals(rw[hv]at vc;rw[hf]at fc;simp(disch:=omega) only[go_sem];(repeat'(first|((first|refine zg ?_ ?_|refine uI ?_ ?_)<;>intro h<;>(try simp only[nqb]at h)<;>simp(disch:=omega) only[go_sem,h])|((first|refine VCx.call (vc _) rfl ?_|refine VCx.call (fc _) rfl ?_);simp(disch:=omega) only[go_sem]))))
  all_goals(clear vc fc pc hr hps hpf;(simp_all[zez,slot,qA]<;>first|rfl|omega|(rw[gJ];simp;done)|(rw[gJ];simp;omega)))
 refine .c (λh=> ?_) (λh=> ?_)
 .have hb:zez ⟨t,s,i,n⟩ dir sel=true:=h;refine .e (.v (.tup [.agg [O J 0,O J 0,.slice [] 0 true,.slice [] 0 true,.slice [] 0 true],O J 1]) ?_);rw[<-hr,zcM,gD hb];exact .base (fz0 _ _ _)
 have hb:zez ⟨t,s,i,n⟩ dir sel=false:=h;have hsl:=hps hb;obtain⟨hp1',hp2'⟩:=hpf hb;rw[zcM,gC (by rw[hb];simp),hp1']at hr;rw[hp1']at hsl;clear hps hpf hp1';refine .skip (.e ?_);generalize hfs:zmI ⟨t,s,i,n⟩ dir sel=fst at *;generalize hff:fcx ⟨t,s,i,n⟩=ff at *;suffices hrest:∀(w ht:Int) (y u v:List UInt8),(if dir=1 then(⟨w2,h2,y2,u2,v2⟩:Fm)else if fst=true then⟨w3,h3,y3,u3,v3⟩else⟨w1,h1,y1,u1,v1⟩)=⟨w,ht,y,u,v⟩->PW prog _ _ [(3,O J sel),(4,.ptr H.length 0 0),(8,.ptr (H.length+2) 0 0),(10,.ptr (H.length+3) 0 0),(11,.bool fst)] (H++[⟨205,0,[O J t,O J s,.bool i,.bool n]⟩,⟨85,0,[O J w1,O J h1,.slice (bs y1) y1.length false,.slice (bs u1) u1.length false,.slice (bs v1) v1.length false,O J w2,O J h2,.slice (bs y2) y2.length false,.slice (bs u2) u2.length false,.slice (bs v2) v2.length false,O J w3,O J h3,.slice (bs y3) y3.length false,.slice (bs u3) u3.length false,.slice (bs v3) v3.length false]⟩,⟨29,0,[O J 0,O J 0,.slice [] 0 true,.slice [] 0 true,.slice [] 0 true]⟩,⟨29,0,[O J w,O J ht,.slice (bs y) y.length false,.slice (bs u) u.length false,.slice (bs v) v.length false]⟩]) _ by
  refine .e ?_;refine .c (λh=> ?_) (λh=> ?_)
  .have hd:dir=1:=by simpa using h
   have hfst:=hp2' hd;subst hfst;refine .e ?_;(repeat refine .seq ?_);refine .rgv (P:=prog) [3,4,5,8,10] 11 (.bool false) ?_ ?_ ?_
   .rfl
   rotate_left
   .refine .e (.us ?_);exact .a (hrest w2 h2 y2 u2 v2 (gD hd))
   .clear hrest hr hsl;subst hd;cases ff<;>simp(disch:=omega) only[go_sem]<;>(repeat'(first|((first|refine zg ?_ ?_|refine uI ?_ ?_)<;>intro h<;>(try simp only[nqb]at h)<;>simp(disch:=omega) only[go_sem,h])|((first|refine VCx.call (fc _) rfl ?_|refine VCx.call (zfK ⟨_,_,_,_⟩ _) rfl ?_);simp(disch:=omega) only[go_sem])));all_goals(clear vc fc pc;(simp_all[slot,qA]<;>first|rfl|omega|(rw[gJ];simp;done)|(rw[gJ];simp;omega)))
  .have hd:dir≠1:=by simpa using h
   refine .skip ?_;(repeat refine .seq ?_);refine .rgv (P:=prog) [3,4,5,8,10] 11 (.bool fst) ?_ ?_ ?_
   .rfl
   .clear hrest hr hsl;rw[<-hfs];cases ff<;>simp(disch:=omega) only[go_sem]<;>(repeat'(first|((first|refine zg ?_ ?_|refine uI ?_ ?_)<;>intro h<;>(try simp only[nqb]at h)<;>simp(disch:=omega) only[go_sem,h])|((first|refine VCx.call (fc _) rfl ?_|refine VCx.call (zfK ⟨_,_,_,_⟩ _) rfl ?_);simp(disch:=omega) only[go_sem])));all_goals(clear vc fc pc hfs hp2' hb;first|(simp_all[zmI,fcx,slot,qA]<;>first|rfl|omega|(rw[gJ];simp;done)|(rw[gJ];simp;omega))|(simp_all[zmI,fcx,pcx,slot,qA]<;>first|rfl|omega|(rw[gJ];simp;done)|(rw[gJ];simp;omega)))
   refine .e ?_;refine .c (λh=> ?_) (λh=> ?_)
   .subst h;refine .e ?_;exact .a (hrest w3 h3 y3 u3 v3 (by rw[gC hd,gD rfl]))
   .subst h;refine .skip ?_;exact .a (hrest w1 h1 y1 u1 v1 (by rw[gC hd,gC sp]))
 intro w ht y u v hpk;rw[hpk]at hr;simp only at hr hsl;clear hpk hb vc pc hfs hp2';refine .e ?_;refine .c (λh=> ?_) (λh=> ?_)
 .have hw0:w=0:=by simpa using h
  refine .e (.v (.tup [.agg [O J 0,O J 0,.slice [] 0 true,.slice [] 0 true,.slice [] 0 true],O J 6]) ?_);rw[<-hr,zdi,gD hw0];exact .base (fz0 _ _ _)
 have hw0:w≠0:=by simpa using h
 rw[zdi,gC (by exact hw0)]at hr;refine .skip ?_;have va:=λH=>zjh ⟨w,ht,y,u,v⟩ H;(repeat refine .seq ?_);refine .rgv (P:=prog) [3,4,8,10,11] 86 (.bool (!(fvd ⟨w,ht,y,u,v⟩)||(!(!ff||fst)&&decide (ht%32≠0)))) ?_ ?_ ?_
 .rfl
 .clear hr hsl;cases hv:fvd ⟨w,ht,y,u,v⟩
  .rw[hv]at va;simp(disch:=omega) only[go_sem];(repeat'(first|((first|refine zg ?_ ?_|refine uI ?_ ?_)<;>intro h<;>(try simp only[nqb]at h)<;>simp(disch:=omega) only[go_sem,h])|((refine VCx.call (va _) rfl ?_);simp(disch:=omega) only[go_sem])));all_goals(clear va fc;(simp_all[slot,qA]<;>first|rfl|omega|(rw[gJ];simp;done)|(rw[gJ];simp;omega)))
  .rw[hv]at va;have hpos:0<=ht:=by simp only[fvd,fmd,gB]at hv;have:=za8 hv.1.1;omega
   cases ff<;>cases fst<;>simp(disch:=omega) only[go_sem]<;>(repeat'(first|((first|refine zg ?_ ?_|refine uI ?_ ?_)<;>intro h<;>(try simp only[nqb]at h)<;>simp(disch:=omega) only[go_sem,zai,h])|((first|refine VCx.call (va _) rfl ?_|refine VCx.call (fc _) rfl ?_);simp(disch:=omega) only[go_sem,zai])));all_goals(clear va fc;(simp_all[slot,qA]<;>first|rfl|omega|(rw[gJ];simp;done)|(rw[gJ];simp;omega)))
 refine .c (λh=> ?_) (λh=> ?_)
 .have hq:(!(fvd ⟨w,ht,y,u,v⟩)||(!(!ff||fst)&&decide (ht%32≠0)))=true:=h;refine .e (.v (.tup [.agg [O J 0,O J 0,.slice [] 0 true,.slice [] 0 true,.slice [] 0 true],O J 1]) ?_);rw[gD hq]at hr;rw[<-hr];exact .base (fz0 _ _ _)
 have hq:(!(fvd ⟨w,ht,y,u,v⟩)||(!(!ff||fst)&&decide (ht%32≠0)))=false:=h;rw[gC (by rw[hq];simp)]at hr;refine .skip ?_;(repeat refine .seq ?_);refine .rgv (P:=prog) [3,8,10] 93 (.bool (!ff||fst)) ?_ ?_ ?_
 .rfl
 .clear hr hsl hq;cases ff<;>simp(disch:=omega) only[go_sem]<;>(repeat'(first|((first|refine zg ?_ ?_|refine uI ?_ ?_)<;>intro h<;>(try simp only[nqb]at h)<;>simp(disch:=omega) only[go_sem,h])|((refine VCx.call (fc _) rfl ?_);simp(disch:=omega) only[go_sem])));all_goals(clear va fc;(simp_all[slot,qA]<;>first|rfl|omega|(rw[gJ];simp;done)|(rw[gJ];simp;omega)))
 generalize hwh:(!ff||fst)=wh at *;refine .c (λh=> ?_) (λh=> ?_)
 .subst h;refine .e (.v (.tup [.agg [O J w,O J ht,.slice (bs y) y.length false,.slice (bs u) u.length false,.slice (bs v) v.length false],O J 0]) ?_);rw[gD rfl]at hr;rw[<-hr];exact .base (.id (zC _ _ _ _ _ _ _ _ _ _))
 .subst h;refine .skip ?_;have hq1:fvd ⟨w,ht,y,u,v⟩=true:=by simp_all
  have hq2:ht%32=0:=by simp_all
  obtain⟨V,K,rfl,rfl,hok⟩:=zdM hq1 hq2;obtain⟨P,hP,rfl⟩:∃ P:Nat,P<=1/\sel=(P:Int):=by
   rcases hsl rfl with e|e
   .exact⟨0,om,om⟩
   .exact⟨1,om,om⟩
  have fo:=λH=>zjF V K P y u v H hok hP;have e1:=zaW V K P y u v;rw[gC sp]at hr;have hr3:r=(fld V K P y u v,0):=by rw[<-hr,<-e1];rfl
  rw[hr3];obtain⟨g,hg⟩:∃ g,fld V K P y u v=g:=⟨_,rfl⟩;rw[hg]at fo |-;obtain⟨a1,a2,a3,a4,a5⟩:=g;simp only[fmc,fr4]at fo |-;refine .k fo ?_;refine .v (.tup [.agg [O J a1,O J a2,.slice (bs a3) a3.length false,.slice (bs a4) a4.length false,.slice (bs a5) a5.length false],O J 0]) ?_;exact .base (.id (zC _ _ _ _ _ _ _ _ _ _))
def mx3(a b c:Int):Int:=if c>(if b>a then b else a)then c else(if b>a then b else a)
theorem zz4(k:IntKind)(a b c:Int):zfH zqn (.int k a) [.int k b,.int k c]=some (.int k (mx3 a b c)):=rfl
def mx6(a b c d e f:Int):Int:=(λx=>if f>x then f else x) ((λx=>if e>x then e else x) ((λx=>if d>x then d else x) (mx3 a b c)))
theorem zz3(k:IntKind)(a b c d e f:Int):zfH zqn (.int k a) [.int k b,.int k c,.int k d,.int k e,.int k f]=some (.int k (mx6 a b c d e f)):=rfl
attribute [go_sem high] zz4 zz3
end Go.Proofs.YtleejngibkbjnaaGreatDoor.Sc
