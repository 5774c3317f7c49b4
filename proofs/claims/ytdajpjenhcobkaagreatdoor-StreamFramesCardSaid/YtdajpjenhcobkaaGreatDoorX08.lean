/-
  Parts of the proof. No condition.
-/
import Derived.Test.YtdajpjenhcobkaaGreatDoorX05
open Nat renaming beq → qD
open Go.Proofs.Tryz renaming prog → qA, underlying28 → qB
set_option linter.all false
set_option maxRecDepth 100000
set_option maxHeartbeats 32000000
namespace Go.Proofs.YtdajpjenhcobkaaGreatDoor
namespace Sc
open Pm Ty Go.RowKit
def pcx(c:Cx):Int:=if c.s=2 then 1 else 0
theorem zmr(c:Cx)(H:za):CallOk qA 154 [.agg (cxc c)] H (.int .i64 (pcx c)) H:=by obtain⟨t,s,i,n⟩:=c;refine .body (F0:=[(0,.agg [.int .i64 t,.int .i64 s,.bool i,.bool n])]) Tryz.func154 rfl Tryz.ntmps154 Tryz.results154 rfl kr rfl ?_;(repeat'(first|refine .seq ?_|refine .skip ?_|((refine .rg rfl λK hK=> ?_);simp(disch:=omega) only[go_sem])|(refine hK _ _ ?_;clear hK K)|(refine .cond (t:=_) rfl (λh=> ?_) (λh=> ?_)<;>(try(cases h;done))<;>(try simp only[nqb]at h))));all_goals((refine .ret ⟨_,rfl,?_⟩;refine .base (.id' ?_ (.int _ _)));(simp_all[pcx,slot,qD]))
theorem zfa(c:Cx)(H:za):CallOk qA 48 [.agg (cxc c)] H (.int .i64 (pcx c)) H:=by obtain⟨t,s,i,n⟩:=c;refine .body (F0:=[(0,.agg [.int .i64 t,.int .i64 s,.bool i,.bool n])]) Tryz.func48 rfl Tryz.ntmps48 Tryz.results48 rfl kr rfl ?_;(repeat'(first|refine .seq ?_|refine .skip ?_|refine .block ?_|((first|refine .rg rfl λK hK=> ?_|refine .draw mix kr λK hK=> ?_);simp(disch:=omega) only[go_sem])|((first|refine zg ?_ ?_|refine zB ?_ ?_|refine And.intro ?_ ?_)<;>intro h<;>(try simp only[nqb]at h)<;>simp(disch:=omega) only[go_sem,h])|(refine hK _ _ ?_;clear hK K)|(refine .cond (t:=_) rfl (λh=> ?_) (λh=> ?_)<;>(try(cases h;done))<;>(try simp only[nqb]at h))));all_goals((refine .ret ⟨_,rfl,?_⟩;first|refine .inl ⟨?_,rfl⟩|refine .base (.id' ?_ (.bool _))|refine .base (.id' ?_ (.int _ _)));(simp_all[pcx,slot,qD]<;>first|rfl|omega|(rw[Bool.eq_iff_iff];simp;done)|(rw[Bool.eq_iff_iff];simp;omega)))
end Sc
namespace Ln
open Go.ChangeShapes Go.WideShapes Go.ChangeAt Go.RowKit Pm Sc
theorem own:ownKnob qA.godebug=none:=kr
theorem laidOut:laidOutB qA=true:=kr
theorem bytes_of{zs:List Int}(hw:∀ z∈zs,(Lit.int .u8 z).wf=true):∃ p:List UInt8,zs.map (PV.int .u8)=bs p/\p.length=zs.length:=by refine⟨zs.map λz=>UInt8.ofNat z.toNat,?_,by simp⟩;simp only[bs,List.map_map];refine List.map_congr_left λz hz=> ?_;have h1:=hw z hz;simp[Lit.wf,IntKind.min,IntKind.max,IntKind.signed,IntKind.bits]at h1;simp only[Function.comp,UInt8.toNat_ofNat'];congr 1;omega
theorem shp_bytes{ps:List PV}(h:Shp qA 28 ps):∃ p:List UInt8,ps=[.slice (bs p) p.length false]:=by obtain⟨zs,rfl,_,hw⟩:=h.of_ints qB Tryz.underlying5;obtain⟨p,e,hl⟩:=bytes_of hw;exact⟨p,by rw[e,hl]⟩
theorem shp_int{ps:List PV}(h:Shp qA 3 ps):∃ n:Int,ps=[.int .i64 n]/\(-9223372036854775808<=n/\n<=9223372036854775807):=by obtain⟨n,rfl,hw⟩:=h.of_int Tryz.underlying3;simp[Lit.wf,IntKind.min,IntKind.max,IntKind.signed,IntKind.bits]at hw;exact⟨n,rfl,hw⟩
theorem shp_bool{ps:List PV}(h:Shp qA 4 ps):∃ b,ps=[.bool b]:=h.of_bool Tryz.underlying4
theorem shp_frameW{ps:List PV}(h:Shp qA 30 ps):∃ f:Fm,ps=fmc f/\f.u.length<=140737488351232/\f.v.length<=140737488351232:=by
 obtain⟨pss,rfl,hf⟩:=h.fields Tryz.underlying30;have by1:qA.bytesOf 5=1:=kr
 match pss,hf with
 | [a,b,c,d,e],⟨ha,hb,hc,hd,he,_⟩=>obtain⟨a,rfl,_⟩:=shp_int ha;obtain⟨b,rfl,_⟩:=shp_int hb;obtain⟨c,rfl⟩:=shp_bytes hc;obtain⟨d,rfl⟩:=shp_bytes hd;obtain⟨e,rfl⟩:=shp_bytes he;have h1:=Shp.fit qB hd;have h2:=Shp.fit qB he;rw[by1,Nat.mul_one]at h1 h2;exact⟨⟨a,b,c,d,e⟩,rfl,h1,h2⟩
end Ln
namespace Sc
open Pm Ty Go.RowKit
def f0:Fm:=⟨0,0,[],[],[]⟩
def zdL(c:Cx)(dir sel:Int):Bool:= !(vcx c)||((decide (dir≠0)&&decide (dir≠1))||(fcx c&&(decide (sel≠0)&&decide (sel≠1))))
def zcb(c:Cx)(pa fu fi:Fm)(dir sel:Int):Fm×Bool:=if dir=1 then(fu,!(fcx c))else if(c.n&&(decide (c.t=2)&&decide (sel≠pcx c)))=true then(fi,true)else(pa,!(fcx c))
def fieldOf(f:Fm)(sel:Int):Fm:=fld (f.w / 2).toNat (f.h / 4).toNat sel.toNat f.y f.u f.v
def lastF(f:Fm)(wh:Bool)(sel:Int):Fm×Int:=if f.w=0 then(f0,6)else if(!(fvd f)||(!wh&&decide (f.h%32≠0)))=true then(f0,1)else if wh=true then(f,0)else(fieldOf f sel,0)
def refS(c:Cx)(pa fu fi:Fm)(dir sel:Int):Fm×Int:=if zdL c dir sel=true then(f0,1)else lastF (zcb c pa fu fi dir sel).1 (zcb c pa fu fi dir sel).2 sel
theorem fz0(n:Nat)(K:za)(e:Int):Fz n K (.tup [.agg [.int .i64 0,.int .i64 0,.slice [] 0 true,.slice [] 0 true,.slice [] 0 true],.int .i64 e]) (.tup [.agg (fmc f0),.int .i64 e]):=Fz.tupC ⟨Fz.aggC ⟨.id (.int _ _),.id (.int _ _),.slice rfl (λj x y hx=>by simp at hx) (λe=>by cases e),.slice rfl (λj x y hx=>by simp at hx) (λe=>by cases e),.slice rfl (λj x y hx=>by simp at hx) (λe=>by cases e),trivial⟩,.id (.int _ _),trivial⟩
theorem zcK{w ht:Int}{y u v:List UInt8}(h:fvd ⟨w,ht,y,u,v⟩=true)(h32:ht%32=0):∃ V K:Nat,w=((2 * V:Nat):Int)/\ht=((4 * K:Nat):Int)/\Fok V K y u v:=by
 simp only[fvd,fmd,Bool.and_eq_true,decide_eq_true_eq]at h;obtain⟨⟨hs,hy,hu,hv⟩,hw,hh⟩:=h;obtain⟨g1,g2,g3,g4,g5,g6⟩:=zbc hs;refine⟨(w / 2).toNat,(ht / 4).toNat,om,om,?_⟩;obtain⟨V,hV⟩:∃ V:Nat,(w / 2).toNat=V:=⟨_,rfl⟩;obtain⟨K,hK⟩:∃ K:Nat,(ht / 4).toNat=K:=⟨_,rfl⟩;rw[hV,hK];have e1:w=((2 * V:Nat):Int):=om;have e2:ht=((4 * K:Nat):Int):=om;have e3:2 * K * (2 * (2 * V))=2 * V * (4 * K):=by grind
 have e4:K * (2 * V)=V * (2 * K):=by grind
 have d1:w / 2=(V:Int):=om;have d2:ht / 2=((2 * K:Nat):Int):=om;rw[d1,d2]at hu hv;rw[e1,e2]at hy;refine⟨om,om,?_,?_,?_⟩;all_goals omega
theorem zat(V K P:Nat)(y u v:List UInt8):fieldOf (fr4 V K y u v) (P:Int)=fld V K P y u v:=by simp_all[fieldOf,fr4,Int.toNat_natCast]
theorem zjv(c:Cx)(pa fu fi:Fm)(dir sel:Int)(H:za):CallOk qA 155 [.agg (cxc c),.agg (fmc pa++(fmc fu++fmc fi)),.int .i64 dir,.int .i64 sel] H (.tup [.agg (fmc (refS c pa fu fi dir sel).1),.int .i64 (refS c pa fu fi dir sel).2]) H:=by
 generalize hr:refS c pa fu fi dir sel=r;have vc:=λH=>zlR c H;have fc:=λH=>zmP c H;have pc:=λH=>zmr c H;obtain⟨t,s,i,n⟩:=c;obtain⟨w1,h1,y1,u1,v1⟩:=pa;obtain⟨w2,h2,y2,u2,v2⟩:=fu;obtain⟨w3,h3,y3,u3,v3⟩:=fi;simp only[fmc,List.cons_append,List.nil_append];refine .body (F0:=[(0,.agg [.int .i64 t,.int .i64 s,.bool i,.bool n]),(1,.agg [.int .i64 w1,.int .i64 h1,.slice (bs y1) y1.length false,.slice (bs u1) u1.length false,.slice (bs v1) v1.length false,.int .i64 w2,.int .i64 h2,.slice (bs y2) y2.length false,.slice (bs u2) u2.length false,.slice (bs v2) v2.length false,.int .i64 w3,.int .i64 h3,.slice (bs y3) y3.length false,.slice (bs u3) u3.length false,.slice (bs v3) v3.length false]),(2,.int .i64 dir),(3,.int .i64 sel)]) Tryz.func155 rfl Tryz.ntmps155 Tryz.results155 rfl kr rfl ?_;refine .e ?_;(repeat refine .seq ?_);refine .rgv (P:=qA) [2,3,4,5,8] 34 (.bool (zdL ⟨t,s,i,n⟩ dir sel)) ?_ ?_ ?_
 .rfl
 .cases hv:vcx ⟨t,s,i,n⟩<;>cases hf:fcx ⟨t,s,i,n⟩;all_goals(rw[hv]at vc;rw[hf]at fc;simp(disch:=omega) only[go_sem];(repeat'(first|((refine zg ?_ ?_)<;>intro h<;>(try simp only[nqb]at h)<;>simp(disch:=omega) only[go_sem,h])|((first|refine VCx.call (vc _) rfl ?_|refine VCx.call (fc _) rfl ?_);simp(disch:=omega) only[go_sem]))))
  all_goals(clear vc fc pc hr;(simp_all[zdL,slot,qD]<;>rfl))
 refine .c (λh=> ?_) (λh=> ?_)
 .have hb:zdL ⟨t,s,i,n⟩ dir sel=true:=h;refine .e ?_;refine .v (.tup [.agg [.int .i64 0,.int .i64 0,.slice [] 0 true,.slice [] 0 true,.slice [] 0 true],.int .i64 1]) ?_;rw[<-hr,refS,if_pos hb];exact .base (fz0 _ _ _)
 have hb:zdL ⟨t,s,i,n⟩ dir sel=false:=h;refine .skip ?_;(repeat refine .seq ?_);refine .drawg mix kr λK hK=> ?_;simp(disch:=omega) only[go_sem];refine VCz.call (λ_=>fc _) rfl ?_;simp(disch:=omega) only[go_sem];refine hK _ _ ?_;clear hK K;have hr2:lastF (zcb ⟨t,s,i,n⟩ ⟨w1,h1,y1,u1,v1⟩ ⟨w2,h2,y2,u2,v2⟩ ⟨w3,h3,y3,u3,v3⟩ dir sel).1 (zcb ⟨t,s,i,n⟩ ⟨w1,h1,y1,u1,v1⟩ ⟨w2,h2,y2,u2,v2⟩ ⟨w3,h3,y3,u3,v3⟩ dir sel).2 sel=r:=by simp_all[refS]
 have hwh:(zcb ⟨t,s,i,n⟩ ⟨w1,h1,y1,u1,v1⟩ ⟨w2,h2,y2,u2,v2⟩ ⟨w3,h3,y3,u3,v3⟩ dir sel).2=false->sel=0\/sel=1:=λhw=>by grind[fcx,zcb,zdL]
 generalize hpk:zcb ⟨t,s,i,n⟩ ⟨w1,h1,y1,u1,v1⟩ ⟨w2,h2,y2,u2,v2⟩ ⟨w3,h3,y3,u3,v3⟩ dir sel=pk1 at hr2 hwh;obtain⟨⟨w,ht,y,u,v⟩,wh⟩:=pk1;simp only at hr2 hwh;refine .to [3,8,10,11] [(3,.int .i64 sel),(8,.ptr (H.length+2) 0 0),(10,.ptr (H.length+3) 0 0),(11,.bool wh)] (H++[⟨112,0,[.int .i64 t,.int .i64 s,.bool i,.bool n]⟩,⟨58,0,[.int .i64 w1,.int .i64 h1,.slice (bs y1) y1.length false,.slice (bs u1) u1.length false,.slice (bs v1) v1.length false,.int .i64 w2,.int .i64 h2,.slice (bs y2) y2.length false,.slice (bs u2) u2.length false,.slice (bs v2) v2.length false,.int .i64 w3,.int .i64 h3,.slice (bs y3) y3.length false,.slice (bs u3) u3.length false,.slice (bs v3) v3.length false]⟩,⟨30,0,[.int .i64 0,.int .i64 0,.slice [] 0 true,.slice [] 0 true,.slice [] 0 true]⟩,⟨30,0,[.int .i64 w,.int .i64 ht,.slice (bs y) y.length false,.slice (bs u) u.length false,.slice (bs v) v.length false]⟩]) ?_ ?_
 .clear hr2 hwh hr;refine .b ?_;refine .e ?_;refine .c (λh=> ?_) (λh=> ?_)
  .have hd:dir=1:=by simpa using h
   rw[zcb,if_pos hd]at hpk;simp only[Prod.mk.injEq,Fm.mk.injEq]at hpk;obtain⟨⟨rfl,rfl,rfl,rfl,rfl⟩,rfl⟩:=hpk;refine .e ?_;exact⟨rfl,rfl⟩
  .have hd:dir≠1:=by simpa using h
   rw[zcb,if_neg hd]at hpk;(repeat refine .seq ?_);refine .rgv (P:=qA) [3,5,8,10,11] 46 (.bool (n&&(decide (t=2)&&decide (sel≠pcx ⟨t,s,i,n⟩)))) ?_ ?_ ?_
   .rfl
   .simp(disch:=omega) only[go_sem];(repeat'(first|((refine zg ?_ ?_)<;>intro h<;>(try simp only[nqb]at h)<;>simp(disch:=omega) only[go_sem,h])|((refine VCx.call (zmr ⟨_,_,_,_⟩ _) rfl ?_);simp(disch:=omega) only[go_sem])));all_goals(clear vc fc pc hpk;(simp_all[slot,qD]<;>rfl))
   refine .c (λh=> ?_) (λh=> ?_)
   .rw[if_pos h]at hpk;simp only[Prod.mk.injEq,Fm.mk.injEq]at hpk;obtain⟨⟨rfl,rfl,rfl,rfl,rfl⟩,rfl⟩:=hpk;refine .e ?_;exact⟨rfl,rfl⟩
   .rw[if_neg (by rw[h];simp)]at hpk;simp only[Prod.mk.injEq,Fm.mk.injEq]at hpk;obtain⟨⟨rfl,rfl,rfl,rfl,rfl⟩,rfl⟩:=hpk;refine .skip ?_;exact⟨rfl,rfl⟩
 clear hpk hr hb vc fc pc;refine .e ?_;refine .c (λh=> ?_) (λh=> ?_)
 .have hw0:w=0:=by simpa using h
  refine .e ?_;refine .v (.tup [.agg [.int .i64 0,.int .i64 0,.slice [] 0 true,.slice [] 0 true,.slice [] 0 true],.int .i64 6]) ?_;rw[<-hr2,lastF,if_pos hw0];exact .base (fz0 _ _ _)
 have hw0:w≠0:=by simpa using h
 rw[lastF,if_neg (by exact hw0)]at hr2;refine .skip ?_;have va:=λH=>zhf ⟨w,ht,y,u,v⟩ H;(repeat refine .seq ?_);refine .rgv (P:=qA) [3,8,10,11] 78 (.bool (!(fvd ⟨w,ht,y,u,v⟩)||(!wh&&decide (ht%32≠0)))) ?_ ?_ ?_
 .rfl
 .cases hv:fvd ⟨w,ht,y,u,v⟩
  .rw[hv]at va;simp(disch:=omega) only[go_sem];(repeat'(((refine VCx.call (va _) rfl ?_);simp(disch:=omega) only[go_sem])));all_goals(clear va hr2 hwh;(simp_all[slot,qD]<;>rfl))
  .rw[hv]at va;have hpos:0<=ht:=by simp only[fvd,fmd,Bool.and_eq_true]at hv;have:=zbc hv.1.1;omega
   simp(disch:=omega) only[go_sem];(repeat'(first|((refine zg ?_ ?_)<;>intro h<;>(try simp only[nqb]at h)<;>simp(disch:=omega) only[go_sem,zad,h])|((refine VCx.call (va _) rfl ?_);simp(disch:=omega) only[go_sem,zad])));all_goals(clear va hr2 hwh;(simp_all[slot,qD]<;>rfl))
 refine .c (λh=> ?_) (λh=> ?_)
 .have hq:(!(fvd ⟨w,ht,y,u,v⟩)||(!wh&&decide (ht%32≠0)))=true:=h;refine .e ?_;refine .v (.tup [.agg [.int .i64 0,.int .i64 0,.slice [] 0 true,.slice [] 0 true,.slice [] 0 true],.int .i64 1]) ?_;rw[if_pos hq]at hr2;rw[<-hr2];exact .base (fz0 _ _ _)
 have hq:(!(fvd ⟨w,ht,y,u,v⟩)||(!wh&&decide (ht%32≠0)))=false:=h;rw[if_neg (by rw[hq];simp)]at hr2;refine .skip ?_;refine .e ?_;refine .c (λh=> ?_) (λh=> ?_)
 .subst h;refine .e ?_;refine .v (.tup [.agg [.int .i64 w,.int .i64 ht,.slice (bs y) y.length false,.slice (bs u) u.length false,.slice (bs v) v.length false],.int .i64 0]) ?_;rw[if_pos rfl]at hr2;rw[<-hr2];exact .base (.id (zC _ _ _ _ _ _ _ _ _ _))
 .subst h;refine .skip ?_;have hq1:fvd ⟨w,ht,y,u,v⟩=true:=by simp_all
  have hq2:ht%32=0:=by simp_all
  obtain⟨V,K,rfl,rfl,hok⟩:=zcK hq1 hq2;obtain⟨P,hP,rfl⟩:∃ P:Nat,P<=1/\sel=(P:Int):=by
   rcases hwh rfl with e|e
   .exact⟨0,om,om⟩
   .exact⟨1,om,om⟩
  have fo:=λH=>zh4 V K P y u v H hok hP;have e1:=zat V K P y u v;rw[if_neg sp]at hr2;have hr3:r=(fld V K P y u v,0):=by rw[<-hr2,<-e1];rfl
  rw[hr3];obtain⟨g,hg⟩:∃ g,fld V K P y u v=g:=⟨_,rfl⟩;rw[hg]at fo |-;obtain⟨a1,a2,a3,a4,a5⟩:=g;simp only[fmc,fr4]at fo |-;refine .k fo ?_;refine .v (.tup [.agg [.int .i64 a1,.int .i64 a2,.slice (bs a3) a3.length false,.slice (bs a4) a4.length false,.slice (bs a5) a5.length false],.int .i64 0]) ?_;exact .base (.id (zC _ _ _ _ _ _ _ _ _ _))
end Sc
end Go.Proofs.YtdajpjenhcobkaaGreatDoor
