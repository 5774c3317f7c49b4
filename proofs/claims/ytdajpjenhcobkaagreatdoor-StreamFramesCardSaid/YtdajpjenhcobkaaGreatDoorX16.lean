/-
  Parts of the proof. No condition.
-/
import Derived.Test.YtdajpjenhcobkaaGreatDoorX08
import Derived.Test.YtdajpjenhcobkaaGreatDoorX15
open Bool renaming eq_iff_iff → qA
open Nat renaming beq → qD
open Go.Proofs.Tryz renaming prog → qB
set_option linter.all false
set_option maxRecDepth 100000
set_option maxHeartbeats 32000000
namespace Go.Proofs.YtdajpjenhcobkaaGreatDoor.Sc
open Pm Ty Go.RowKit
theorem zqV{c:Cx}{pa fu fi:Fm}{dir sel:Int}(hb:zdL c dir sel=false)(hw:(zcb c pa fu fi dir sel).2=false):sel=0\/sel=1:=by
 have hf:fcx c=true:=by
  unfold zcb at hw;split at hw
  .simpa using hw
  .split at hw
   .cases hw
   .simpa using hw
 rw[zdL,hf]at hb;simp at hb;omega
def zlq(c:Cx)(dir sel:Int):Bool:=fcx c&&(c.n&&(decide (c.t=2)&&(decide (dir=0)&&decide (sel≠pcx c))))
theorem zwY{c:Cx}(h:vcx c=true)(hn:c.n=true):fcx c=true:=by simp_all[vcx,Bool.and_eq_true,fcx]
theorem zqW{c:Cx}{pa fu fi:Fm}{dir sel:Int}(hb:zdL c dir sel=false):
  zcb c pa fu fi dir sel=(if dir=1 then fu else if zlq c dir sel=true then fi else pa,!(fcx c)||zlq c dir sel)/\(dir=1->zlq c dir sel=false):=by
 have hv:vcx c=true:=by simp_all[vcx,zdL]
 have hd:dir=0\/dir=1:=by grind[zdL]
 rcases hd with rfl|rfl
 .refine⟨?_,λe=>om⟩;unfold zcb zlq;cases hn:c.n
  .simp
  .have:=zwY hv hn;by_cases h2:c.t=2<;>by_cases h3:sel=pcx c<;>simp[this,h2,h3]
 .unfold zcb zlq;simp
theorem ziu(c:Cx)(pa fu fi:Fm)(dir sel:Int)(H:za):CallOk qB 174 [.agg (cxc c),.agg (fmc pa++(fmc fu++fmc fi)),.int .i64 dir,.int .i64 sel] H (.tup [.agg (fmc (refS c pa fu fi dir sel).1),.int .i64 (refS c pa fu fi dir sel).2]) H:=by
 generalize hr:refS c pa fu fi dir sel=r;have vc:=λH=>zja c H;have fc:=λH=>zgY c H;have pc:=λH=>zfa c H;have hps:= @zqV c pa fu fi dir sel;have hpf:= @zqW c pa fu fi dir sel;obtain⟨t,s,i,n⟩:=c;obtain⟨w1,h1,y1,u1,v1⟩:=pa;obtain⟨w2,h2,y2,u2,v2⟩:=fu;obtain⟨w3,h3,y3,u3,v3⟩:=fi;simp only[fmc,List.cons_append,List.nil_append];refine .body (F0:=[(0,.agg [.int .i64 t,.int .i64 s,.bool i,.bool n]),(1,.agg [.int .i64 w1,.int .i64 h1,.slice (bs y1) y1.length false,.slice (bs u1) u1.length false,.slice (bs v1) v1.length false,.int .i64 w2,.int .i64 h2,.slice (bs y2) y2.length false,.slice (bs u2) u2.length false,.slice (bs v2) v2.length false,.int .i64 w3,.int .i64 h3,.slice (bs y3) y3.length false,.slice (bs u3) u3.length false,.slice (bs v3) v3.length false]),(2,.int .i64 dir),(3,.int .i64 sel)]) Tryz.func174 rfl Tryz.ntmps174 Tryz.results174 rfl kr rfl ?_;refine .e ?_;(repeat refine .seq ?_);refine .rgv (P:=qB) [2,3,4,5,8] 34 (.bool (zdL ⟨t,s,i,n⟩ dir sel)) ?_ ?_ ?_
 .rfl
 .cases hv:vcx ⟨t,s,i,n⟩<;>cases hf:fcx ⟨t,s,i,n⟩;all_goals(rw[hv]at vc;rw[hf]at fc;simp(disch:=omega) only[go_sem];(repeat'(first|((first|refine zg ?_ ?_|refine And.intro ?_ ?_)<;>intro h<;>(try simp only[nqb]at h)<;>simp(disch:=omega) only[go_sem,h])|((first|refine VCx.call (vc _) rfl ?_|refine VCx.call (fc _) rfl ?_);simp(disch:=omega) only[go_sem]))))
  all_goals(clear vc fc pc hr hps hpf;(simp_all[zdL,slot,qD]<;>first|rfl|omega|(rw[qA];simp;done)|(rw[qA];simp;omega)))
 refine .c (λh=> ?_) (λh=> ?_)
 .have hb:zdL ⟨t,s,i,n⟩ dir sel=true:=h;refine .e ?_;refine .v (.tup [.agg [.int .i64 0,.int .i64 0,.slice [] 0 true,.slice [] 0 true,.slice [] 0 true],.int .i64 1]) ?_;rw[<-hr,refS,if_pos hb];exact .base (fz0 _ _ _)
 have hb:zdL ⟨t,s,i,n⟩ dir sel=false:=h;have hsl:=hps hb;obtain⟨hp1',hp2'⟩:=hpf hb;rw[refS,if_neg (by rw[hb];simp),hp1']at hr;rw[hp1']at hsl;clear hps hpf hp1';refine .skip ?_;refine .e ?_;generalize hfs:zlq ⟨t,s,i,n⟩ dir sel=fst at *;generalize hff:fcx ⟨t,s,i,n⟩=ff at *;suffices hrest:∀(w ht:Int) (y u v:List UInt8),(if dir=1 then(⟨w2,h2,y2,u2,v2⟩:Fm)else if fst=true then⟨w3,h3,y3,u3,v3⟩else⟨w1,h1,y1,u1,v1⟩)=⟨w,ht,y,u,v⟩->PW qB _ _ [(3,.int .i64 sel),(4,.ptr H.length 0 0),(8,.ptr (H.length+2) 0 0),(10,.ptr (H.length+3) 0 0),(11,.bool fst)] (H++[⟨125,0,[.int .i64 t,.int .i64 s,.bool i,.bool n]⟩,⟨58,0,[.int .i64 w1,.int .i64 h1,.slice (bs y1) y1.length false,.slice (bs u1) u1.length false,.slice (bs v1) v1.length false,.int .i64 w2,.int .i64 h2,.slice (bs y2) y2.length false,.slice (bs u2) u2.length false,.slice (bs v2) v2.length false,.int .i64 w3,.int .i64 h3,.slice (bs y3) y3.length false,.slice (bs u3) u3.length false,.slice (bs v3) v3.length false]⟩,⟨30,0,[.int .i64 0,.int .i64 0,.slice [] 0 true,.slice [] 0 true,.slice [] 0 true]⟩,⟨30,0,[.int .i64 w,.int .i64 ht,.slice (bs y) y.length false,.slice (bs u) u.length false,.slice (bs v) v.length false]⟩]) _ by
  refine .e ?_;refine .c (λh=> ?_) (λh=> ?_)
  .have hd:dir=1:=by simpa using h
   have hfst:=hp2' hd;subst hfst;refine .e ?_;(repeat refine .seq ?_);refine .rgv (P:=qB) [3,4,5,8,10] 11 (.bool false) ?_ ?_ ?_
   .rfl
   rotate_left
   .refine .e ?_;refine .us ?_;exact .at [3,4,8,10,11] (hrest w2 h2 y2 u2 v2 (if_pos hd)) rfl rfl
   .clear hrest hr hsl;subst hd;cases ff<;>simp(disch:=omega) only[go_sem]<;>(repeat'(first|((first|refine zg ?_ ?_|refine And.intro ?_ ?_)<;>intro h<;>(try simp only[nqb]at h)<;>simp(disch:=omega) only[go_sem,h])|((first|refine VCx.call (fc _) rfl ?_|refine VCx.call (zfa ⟨_,_,_,_⟩ _) rfl ?_);simp(disch:=omega) only[go_sem])));all_goals(clear vc fc pc;(simp_all[slot,qD]<;>first|rfl|omega|(rw[qA];simp;done)|(rw[qA];simp;omega)))
  .have hd:dir≠1:=by simpa using h
   refine .skip ?_;(repeat refine .seq ?_);refine .rgv (P:=qB) [3,4,5,8,10] 11 (.bool fst) ?_ ?_ ?_
   .rfl
   .clear hrest hr hsl;rw[<-hfs];cases ff<;>simp(disch:=omega) only[go_sem]<;>(repeat'(first|((first|refine zg ?_ ?_|refine And.intro ?_ ?_)<;>intro h<;>(try simp only[nqb]at h)<;>simp(disch:=omega) only[go_sem,h])|((first|refine VCx.call (fc _) rfl ?_|refine VCx.call (zfa ⟨_,_,_,_⟩ _) rfl ?_);simp(disch:=omega) only[go_sem])));all_goals(clear vc fc pc hfs hp2' hb;first|(simp_all[zlq,fcx,slot,qD]<;>first|rfl|omega|(rw[qA];simp;done)|(rw[qA];simp;omega))|(simp_all[zlq,fcx,pcx,slot,qD]<;>first|rfl|omega|(rw[qA];simp;done)|(rw[qA];simp;omega)))
   refine .e ?_;refine .c (λh=> ?_) (λh=> ?_)
   .subst h;refine .e ?_;exact .at [3,4,8,10,11] (hrest w3 h3 y3 u3 v3 (by rw[if_neg hd,if_pos rfl])) rfl rfl
   .subst h;refine .skip ?_;exact .at [3,4,8,10,11] (hrest w1 h1 y1 u1 v1 (by rw[if_neg hd,if_neg sp])) rfl rfl
 intro w ht y u v hpk;rw[hpk]at hr;simp only at hr hsl;clear hpk hb vc pc hfs hp2';refine .e ?_;refine .c (λh=> ?_) (λh=> ?_)
 .have hw0:w=0:=by simpa using h
  refine .e ?_;refine .v (.tup [.agg [.int .i64 0,.int .i64 0,.slice [] 0 true,.slice [] 0 true,.slice [] 0 true],.int .i64 6]) ?_;rw[<-hr,lastF,if_pos hw0];exact .base (fz0 _ _ _)
 have hw0:w≠0:=by simpa using h
 rw[lastF,if_neg (by exact hw0)]at hr;refine .skip ?_;have va:=λH=>ziv ⟨w,ht,y,u,v⟩ H;(repeat refine .seq ?_);refine .rgv (P:=qB) [3,4,8,10,11] 86 (.bool (!(fvd ⟨w,ht,y,u,v⟩)||(!(!ff||fst)&&decide (ht%32≠0)))) ?_ ?_ ?_
 .rfl
 .clear hr hsl;cases hv:fvd ⟨w,ht,y,u,v⟩
  .rw[hv]at va;simp(disch:=omega) only[go_sem];(repeat'(first|((first|refine zg ?_ ?_|refine And.intro ?_ ?_)<;>intro h<;>(try simp only[nqb]at h)<;>simp(disch:=omega) only[go_sem,h])|((refine VCx.call (va _) rfl ?_);simp(disch:=omega) only[go_sem])));all_goals(clear va fc;(simp_all[slot,qD]<;>first|rfl|omega|(rw[qA];simp;done)|(rw[qA];simp;omega)))
  .rw[hv]at va;have hpos:0<=ht:=by simp only[fvd,fmd,Bool.and_eq_true]at hv;have:=zbc hv.1.1;omega
   cases ff<;>cases fst<;>simp(disch:=omega) only[go_sem]<;>(repeat'(first|((first|refine zg ?_ ?_|refine And.intro ?_ ?_)<;>intro h<;>(try simp only[nqb]at h)<;>simp(disch:=omega) only[go_sem,zad,h])|((first|refine VCx.call (va _) rfl ?_|refine VCx.call (fc _) rfl ?_);simp(disch:=omega) only[go_sem,zad])));all_goals(clear va fc;(simp_all[slot,qD]<;>first|rfl|omega|(rw[qA];simp;done)|(rw[qA];simp;omega)))
 refine .c (λh=> ?_) (λh=> ?_)
 .have hq:(!(fvd ⟨w,ht,y,u,v⟩)||(!(!ff||fst)&&decide (ht%32≠0)))=true:=h;refine .e ?_;refine .v (.tup [.agg [.int .i64 0,.int .i64 0,.slice [] 0 true,.slice [] 0 true,.slice [] 0 true],.int .i64 1]) ?_;rw[if_pos hq]at hr;rw[<-hr];exact .base (fz0 _ _ _)
 have hq:(!(fvd ⟨w,ht,y,u,v⟩)||(!(!ff||fst)&&decide (ht%32≠0)))=false:=h;rw[if_neg (by rw[hq];simp)]at hr;refine .skip ?_;(repeat refine .seq ?_);refine .rgv (P:=qB) [3,8,10] 93 (.bool (!ff||fst)) ?_ ?_ ?_
 .rfl
 .clear hr hsl hq;cases ff<;>simp(disch:=omega) only[go_sem]<;>(repeat'(first|((first|refine zg ?_ ?_|refine And.intro ?_ ?_)<;>intro h<;>(try simp only[nqb]at h)<;>simp(disch:=omega) only[go_sem,h])|((refine VCx.call (fc _) rfl ?_);simp(disch:=omega) only[go_sem])));all_goals(clear va fc;(simp_all[slot,qD]<;>first|rfl|omega|(rw[qA];simp;done)|(rw[qA];simp;omega)))
 generalize hwh:(!ff||fst)=wh at *;refine .c (λh=> ?_) (λh=> ?_)
 .subst h;refine .e ?_;refine .v (.tup [.agg [.int .i64 w,.int .i64 ht,.slice (bs y) y.length false,.slice (bs u) u.length false,.slice (bs v) v.length false],.int .i64 0]) ?_;rw[if_pos rfl]at hr;rw[<-hr];exact .base (.id (zC _ _ _ _ _ _ _ _ _ _))
 .subst h;refine .skip ?_;have hq1:fvd ⟨w,ht,y,u,v⟩=true:=by simp_all
  have hq2:ht%32=0:=by simp_all
  obtain⟨V,K,rfl,rfl,hok⟩:=zcK hq1 hq2;obtain⟨P,hP,rfl⟩:∃ P:Nat,P<=1/\sel=(P:Int):=by
   rcases hsl rfl with e|e
   .exact⟨0,om,om⟩
   .exact⟨1,om,om⟩
  have fo:=λH=>ziR V K P y u v H hok hP;have e1:=zat V K P y u v;rw[if_neg sp]at hr;have hr3:r=(fld V K P y u v,0):=by rw[<-hr,<-e1];rfl
  rw[hr3];obtain⟨g,hg⟩:∃ g,fld V K P y u v=g:=⟨_,rfl⟩;rw[hg]at fo |-;obtain⟨a1,a2,a3,a4,a5⟩:=g;simp only[fmc,fr4]at fo |-;refine .k fo ?_;refine .v (.tup [.agg [.int .i64 a1,.int .i64 a2,.slice (bs a3) a3.length false,.slice (bs a4) a4.length false,.slice (bs a5) a5.length false],.int .i64 0]) ?_;exact .base (.id (zC _ _ _ _ _ _ _ _ _ _))
def mx3(a b c:Int):Int:=if c>(if b>a then b else a)then c else(if b>a then b else a)
theorem zxv(k:IntKind)(a b c:Int):ze6 zoH (.int k a) [.int k b,.int k c]=some (.int k (mx3 a b c)):=rfl
def mx6(a b c d e f:Int):Int:=(λx=>if f>x then f else x) ((λx=>if e>x then e else x) ((λx=>if d>x then d else x) (mx3 a b c)))
theorem zxu(k:IntKind)(a b c d e f:Int):ze6 zoH (.int k a) [.int k b,.int k c,.int k d,.int k e,.int k f]=some (.int k (mx6 a b c d e f)):=rfl
attribute [go_sem high] zxv zxu
end Go.Proofs.YtdajpjenhcobkaaGreatDoor.Sc
