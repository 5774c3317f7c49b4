/-
  Parts of the proof. No condition.
-/
import Derived.Test.YtleejngibkbjnaaGreatDoorW13
open Go.Proofs.YtleejngibkbjnaaGreatDoor.Pm.PV renaming int → O
open Go.IntKind renaming i64 → J
open List renaming replicate → qA, take → qB, drop → qD
open Nat renaming beq → qE, reduceAdd → qF
open Go.Proofs.Tryz
set_option linter.all false
set_option maxRecDepth 100000
set_option maxHeartbeats 32000000
namespace Go.Proofs.YtleejngibkbjnaaGreatDoor.Sc
open Pm Ty Go.RowKit
def v1(m:Mb)(d:Nat):Int:=if d=0 then m.va else m.ve
def v2(m:Mb)(d:Nat):Int:=if d=0 then m.vb else m.vf
def v3(m:Mb)(d:Nat):Int:=if d=0 then m.vc else m.vg
def v4(m:Mb)(d:Nat):Int:=if d=0 then m.vd else m.vh
def s1(m:Mb)(d:Nat):Int:=if d=0 then m.sa else m.sc
def s2(m:Mb)(d:Nat):Int:=if d=0 then m.sb else m.sd
def us(m:Mb)(d:Nat):Bool:=if d=0 then m.ua else m.ub
def zcQ(c:Cx)(m:Mb)(pa fu fi:Fm)(d:Nat)(mx my:Int):Fm×Int:=zfm c m.fp (v1 m d) (v2 m d) (v3 m d) (v4 m d) (s1 m d) (s2 m d) pa fu fi (d:Int) mx my
def zog(m:Mb)(d:Nat):Nat:=(if 0<d/\m.ua=true then 1 else 0)+(if 1<d/\m.ub=true then 1 else 0)
def zv4:List Fm->Fm
 | []=>f0
 | [a]=>a
 | a::b::_=>mnF a b
def goP(c:Cx)(m:Mb)(pa fu fi:Fm)(mx my:Int):Nat->List Fm->Fm×Int
 | 0,l=>(zv4 l,0)
 | n+1,l=>if us m (1 - n)=true then(if(zcQ c m pa fu fi (1 - n) mx my).2≠0 then(f0,(zcQ c m pa fu fi (1 - n) mx my).2)else goP c m pa fu fi mx my n (l++[(zcQ c m pa fu fi (1 - n) mx my).1]))else goP c m pa fu fi mx my n l
theorem zmQ{c:Cx}{fp:Bool}{va vb vc vd sa sb:Int}{pa fu fi:Fm}{d mx my:Int}(h:(zfm c fp va vb vc vd sa sb pa fu fi d mx my).2≠0):(zfm c fp va vb vc vd sa sb pa fu fi d mx my).1=f0:=by
 unfold zfm at h |-;by_cases h1:(zcM c pa fu fi d sa).2≠0
 .rw[gD h1]
 .rw[gC h1]at h |-;generalize (zcM c pa fu fi d sa).1=g at h |-;cases fp
  .rw[gC sp]at h |-;unfold zja at h |-;split at h
   .rename_i a;rw[gD a];split at h
    .exact absurd rfl h
    .rename_i b;rw[gC b]
   .rename_i a;rw[gC a]
  .rw[gD rfl]at h |-;unfold ze4 at h |-;split at h
   .exact absurd rfl h
   .rename_i a;rw[gC a]
theorem zvS(c:Cx)(m:Mb)(pa fu fi:Fm)(mx my:Int)(h:m.ua=true\/m.ub=true):goP c m pa fu fi mx my 2 []=prS c m pa fu fi mx my:=by
 have d0:zcQ c m pa fu fi 0 mx my=ziP c m pa fu fi mx my:=rfl;have d1:zcQ c m pa fu fi 1 mx my=zf3 c m pa fu fi mx my:=rfl;have u0:us m 0=m.ua:=rfl;have u1:us m 1=m.ub:=rfl;have e0:1 - 1=0:=rfl;have e1:1 - 0=1:=rfl;unfold prS;rw[goP,e0,u0,d0];generalize ziP c m pa fu fi mx my=r0;cases ha:m.ua
 .rw[gC sp,gC sp,goP,e1,u1,d1];have hbad:(zf3 c m pa fu fi mx my).2≠0->(zf3 c m pa fu fi mx my).1=f0:=zmQ;generalize zf3 c m pa fu fi mx my=r1 at hbad |-;rw[ha]at h;have hb:m.ub=true:=by simpa using h
  rw[hb,gD rfl];obtain⟨g,e⟩:=r1;by_cases he:e=0
  .subst he;simp[goP,zv4]
  .rw[gD (by exact he)];exact Prod.ext (hbad he).symm rfl
 .rw[gD rfl,gD rfl];by_cases he:r0.2=0
  .rw[gC (by simp[he]),gC (by simp[he]),goP,e1,u1,d1];generalize zf3 c m pa fu fi mx my=r1;cases hb:m.ub
   .rw[gC sp,gC sp];obtain⟨g,e⟩:=r0;simp only at he;subst he;rfl
   .rw[gD rfl,gD rfl];by_cases he1:r1.2=0
    .rw[gC (by simp[he1]),gC (by simp[he1])];rfl
    .rw[gD he1,gD he1]
  .rw[gD he,gD he]
structure PrOk(m:Mb):Prop where
 u:m.ua=true\/m.ub=true
 f:∀ d,us m d=true->m.fp=true->(s1 m d=0\/s1 m d=1)/\(s2 m d=0\/s2 m d=1)/\vrg (v1 m d) (v2 m d)=true/\vrg (v3 m d) (v4 m d)=true
theorem zyh(f:Fm)(mx my vx vy:Int):zeh f (16 * min (max mx (-1)) 128) (16 * min (max my (-1)) 128) 16 vx vy=zja f mx my vx vy:=by
 unfold zeh zja;by_cases hf:fmd f=true
 .have hb:f.w<=64/\f.h<=64:=by unfold fmd at hf;rw[gB]at hf;have:=za8 hf.1;omega
  by_cases hc:0<=mx/\16 * mx+16<=f.w/\0<=my/\16 * my+16<=f.h
  .have e1:min (max mx (-1)) 128=mx:=om;have e2:min (max my (-1)) 128=my:=om;have h1:zc5 f (16 * mx) (16 * my) ((16:Nat):Int)=true:=by simp only[zc5,gB,gY];omega
   have h2:(fmd f&&(decide (0<=mx)&&(decide (16 * mx+16<=f.w)&&(decide (0<=my)&&decide (16 * my+16<=f.h)))))=true:=by simp only[hf,uP,gB,gY];exact hc
   rw[e1,e2,gD h2,hf,h1,gD (by rfl)]
  .have h1:zc5 f (16 * min (max mx (-1)) 128) (16 * min (max my (-1)) 128) ((16:Nat):Int)=false:=by rw[sX];intro h;simp only[zc5,gB,gY]at h;obtain⟨q1,q2,q3,q4,q5,q6⟩:=h;have hx:min (max mx (-1)) 128=mx\/min (max mx (-1)) 128= -1\/min (max mx (-1)) 128=128:=om;have hy:min (max my (-1)) 128=my\/min (max my (-1)) 128= -1\/min (max my (-1)) 128=128:=om;apply hc;generalize min (max mx (-1)) 128=X at *;generalize min (max my (-1)) 128=Y at *;rcases hx with rfl|rfl|rfl<;>rcases hy with rfl|rfl|rfl<;>omega
   have h2:¬(fmd f&&(decide (0<=mx)&&(decide (16 * mx+16<=f.w)&&(decide (0<=my)&&decide (16 * my+16<=f.h)))))=true:=by simp only[gB,gY];omega
   rw[h1,mN,gC sp,gC h2]
 .have hf':fmd f=false:=by simpa using hf
  rw[hf',vB,vB];rfl
theorem zAl(l:List Fm):(l.flatMap fmc).length=l.length * 5:=zac fmc 5 l λx _=>rfl
theorem zl6(c:Cx)(m:Mb)(i:Nat)(pa fu fi:Fm)(mx my:Int)(H:za)(hi:H[i]? =some (mB m))(hml:m.lv.length=384)(hp:PrOk m):
  CallOk prog 94 [.agg (cxc c),.ptr i 0 0,.agg (fmc pa++(fmc fu++fmc fi)),O J mx,O J my] H (.tup [.agg (fmc (prS c m pa fu fi mx my).1),O J (prS c m pa fu fi mx my).2]) H:=by
 have hil:=(gA.1 hi).1;have hx:=λK=>zas (K:=K) hi;have e4:=zbz m hml;have eu:qB 2 (qD 1 (mbc m))=[.bool m.ua,.bool m.ub]:=rfl;have efp:(mbc m)[3]? =some (.bool m.fp):=rfl;have es:∀ d,d<2->(mbc m)[13+d * 2]? =some (O J (s1 m d)):=λd hd=>by have:d=0\/d=1:=om;rcases this with rfl|rfl<;>rfl
 have ess:∀ d,d<2->qB 2 (qD (13+d * 2) (mbc m))=[O J (s1 m d),O J (s2 m d)]:=λd hd=>by have:d=0\/d=1:=om;rcases this with rfl|rfl<;>rfl
 have ev4:∀ d,d<2->qB 4 (qD (5+d * 4) (mbc m))=[O J (v1 m d),O J (v2 m d),O J (v3 m d),O J (v4 m d)]:=λd hd=>by have:d=0\/d=1:=om;rcases this with rfl|rfl<;>rfl
 have ev2:∀ d,d<2->qB 2 (qD (5+d * 4) (mbc m))=[O J (v1 m d),O J (v2 m d)]:=λd hd=>by have:d=0\/d=1:=om;rcases this with rfl|rfl<;>rfl
 have cl:(cxc c).length=4:=rfl;have cc:(cxc c).all PV.cell=true:=rfl;have ct4:qB 4 (cxc c)=cxc c:=rfl;have rl:(fmc pa++(fmc fu++fmc fi)).length=15:=rfl;have rc:(fmc pa++(fmc fu++fmc fi)).all PV.cell=true:=rfl;have rt:qB 15 (fmc pa++(fmc fu++fmc fi))=fmc pa++(fmc fu++fmc fi):=rfl;have hgo:=zvS c m pa fu fi mx my hp.u;generalize prS c m pa fu fi mx my=r at hgo |-;refine .go func94 ntmps94 results94 ?_;refine .g (nq2 cc rc) ?_;refine .e (.g (nq2 hi (nq2 hx (nq2 @mB.eq_1 (nq2 eu e4)))) ?_);(repeat refine .seq ?_);refine .view (Vs.ghost 12 29 5 rfl) ?_;refine .l ?_;suffices hloop:∀(n d:Nat) (l:List Fm),d+n=2->(∀ g∈l,F16 g)->l.length=zog m d->goP c m pa fu fi mx my n l=r->PL prog _ _ [(1,.ptr i 0 0),(3,O J mx),(4,O J my),(5,.ptr H.length 0 0),(7,.ptr (H.length+1) 0 0),(10,.ptr (H.length+2) 0 0),(12,.msl (H.length+3) (l.length * 5) 0 l.length 5 true),(21,.agg [.bool m.ua,.bool m.ub]),(22,O J (d:Int))] (H++[⟨145,0,cxc c⟩,⟨85,0,fmc pa++(fmc fu++fmc fi)⟩,⟨29,0,[O J 0,O J 0,.slice [] 0 true,.slice [] 0 true,.slice [] 0 true]⟩,⟨29,l.length * 5,l.flatMap fmc⟩]) _ by exact .a (hloop 2 0 [] rfl (λg hg=>by cases hg) rfl hgo) (by simp[kp,slot,qE]) sp
 intro n;induction n with
 | zero=>
  intro d l hd hl hlen hr;have hd2:d=2:=om;subst hd2;have hr1:r=(zv4 l,0):=hr.symm;subst hr1;refine .round (.e ?_);refine .u (.exit ?_);have hn:l.length=1\/l.length=2:=by
   have e2:zog m 2=(if m.ua=true then 1 else 0)+(if m.ub=true then 1 else 0):=by simp[zog]
   rw[hlen,e2];rcases hp.u with e|e<;>rw[e]
   .cases m.ub<;>simp
   .cases m.ua<;>simp
  rcases hn with h1|h1
  .obtain⟨a,rfl⟩:∃ a,l=[a]:=by
    match l,h1 with
    | [a],_=>exact⟨a,rfl⟩
   have ga:=(hl a sp).c;have gt:qB 5 ([a].flatMap fmc)=fmc a:=rfl;have gl:([a].flatMap fmc).length=5:=rfl;have g5:(fmc a).all PV.cell=true:=rfl;have g7:(fmc a).length=5:=rfl;have g8:qB 5 (fmc a)=fmc a:=rfl;have g9:qD 5 [PV.int .i64 0,PV.int .i64 0,PV.slice [] 0 true,PV.slice [] 0 true,PV.slice [] 0 true]=[]:=rfl;refine .e (.t ?_);refine .g (nq2 gt (nq2 gl (nq2 g5 (nq2 g7 (nq2 g8 g9))))) ?_;refine .w (.tup [.agg (fmc a),O J 0]) (nq2 g7 g8) ?_;exact .base (.id (zC _ _ _ _ _ _ _ _ _ _))
  .obtain⟨a,b,rfl⟩:∃ a b,l=[a,b]:=by
    match l,h1 with
    | [a,b],_=>exact⟨a,b,rfl⟩
   have av:=λL=>zon a b (hl a sp) (hl b sp) L;have gt:qB 5 ([a,b].flatMap fmc)=fmc a:=rfl;have gt2:qB 5 (qD 5 ([a,b].flatMap fmc))=fmc b:=rfl;have gl:([a,b].flatMap fmc).length=10:=rfl;obtain⟨g,hg⟩:∃ g,mnF a b=g:=⟨_,rfl⟩;rw[hg]at av;have hfg:zv4 [a,b]=g:=hg;rw[hfg];have g5:(fmc g).all PV.cell=true:=rfl;have g7:(fmc g).length=5:=rfl;have g8:qB 5 (fmc g)=fmc g:=rfl;have g9:qD 5 [PV.int .i64 0,PV.int .i64 0,PV.slice [] 0 true,PV.slice [] 0 true,PV.slice [] 0 true]=[]:=rfl;refine .e (.us ?_);refine .y [H.length+2] [(10,[0])] [] [106] λK hK=> ?_;simp(maxSteps:=9^9) (disch:=omega) only[go_sem,zy,gt,gt2,gl];refine VCj.read (λ_ _=>av _) rfl ?_;refine sqx (nq2 g5 (nq2 g7 (nq2 g8 g9))) ?_;refine hK _ _ ?_;clear hK K;refine .w (.tup [.agg (fmc g),O J 0]) (nq2 g7 g8) ?_;exact .base (.id (zC _ _ _ _ _ _ _ _ _ _))
 | succ n ih=>
  intro d l hd hl hlen hr;have hd2:d<2:=om;have hdn:1 - n=d:=om;rw[goP,hdn]at hr;have ct:decide ((d:Int)<2)=true:=gX om;have eus:[PV.bool m.ua,PV.bool m.ub][d]? =some (.bool (us m d)):=by have:d=0\/d=1:=om;rcases this with rfl|rfl<;>rfl
  have hcn:zog m (d+1)=zog m d+if us m d=true then 1 else 0:=by have:d=0\/d=1:=om;rcases this with rfl|rfl<;>simp[zog,us]
  refine .round (.g ct ?_);refine .t (.skip ?_);refine .b (.g eus ?_);refine .e ?_;refine .c (λh=> ?_) (λh=> ?_)
  .have hu:us m d=false:=by simpa using h
   rw[hu,gC sp]at hr;rw[hu,gC sp]at hcn;refine .exit (.e ?_);exact .a (ih (d+1) l om hl om hr)
  have hu:us m d=true:=by simpa using h
  rw[hu,gD rfl]at hr hcn;have hpf:=hp.f d hu;have h1:=es d hd2;have h2:=ess d hd2;have h3:=ev4 d hd2;have h4:=ev2 d hd2;have hD:zcQ c m pa fu fi d mx my=zfm c m.fp (v1 m d) (v2 m d) (v3 m d) (v4 m d) (s1 m d) (s2 m d) pa fu fi (d:Int) mx my:=rfl;have h16:(zcQ c m pa fu fi d mx my).2=0->F16 (zcQ c m pa fu fi d mx my).1:=zhA;unfold zfm at hD;have rf:=λL=>zkp c pa fu fi (d:Int) (s1 m d) L;generalize zcQ c m pa fu fi d mx my=R at hD hr h16;generalize zcM c pa fu fi (d:Int) (s1 m d)=T at rf hD;obtain⟨g,e⟩:=T;simp only at rf hD;refine .skip ?_;have g5:(fmc g).all PV.cell=true:=rfl;have g7:(fmc g).length=5:=rfl;have g8:qB 5 (fmc g)=fmc g:=rfl;refine .view (Vs.place 29) ?_;refine .y [H.length+4] [(15,[0])] [(15,0)] [39] λK hK=> ?_;simp(maxSteps:=9^9) (disch:=omega) only[go_sem,zy,hi,hx,mB,e4,h1,cl,ct4,rl,rt];refine VCj.read (λ_ _=>rf _) rfl ?_;refine sqx (nq2 g5 g7) ?_;refine hK _ _ ?_;clear hK K;refine .e ?_;refine .c (λh=> ?_) (λh=> ?_)
  .have he:e≠0:=by simpa using h
   rw[gD he]at hD;subst hD;rw[gD (by exact he)]at hr;refine .e (.v (.tup [.agg [O J 0,O J 0,.slice [] 0 true,.slice [] 0 true,.slice [] 0 true],O J e]) ?_);rw[<-hr];exact .base (fz0 _ _ _)
  have he:e=0:=by simpa using h
  rw[gC (by simp[he])]at hD;refine .skip (.e ?_);refine .g (nq2 hi (nq2 hx (nq2 @mB.eq_1 (nq2 e4 efp)))) ?_;suffices hrest:PW prog _ _ [(1,.ptr i 0 0),(3,O J mx),(4,O J my),(5,.ptr H.length 0 0),(7,.ptr (H.length+1) 0 0),(10,.ptr (H.length+2) 0 0),(12,.msl (H.length+3) (l.length * 5) 0 l.length 5 true),(16,O J R.2),(17,.ptr (H.length+5) 0 0),(21,.agg [.bool m.ua,.bool m.ub]),(22,O J (d:Int))] (H++[⟨145,0,cxc c⟩,⟨85,0,fmc pa++(fmc fu++fmc fi)⟩,⟨29,0,[O J 0,O J 0,.slice [] 0 true,.slice [] 0 true,.slice [] 0 true]⟩,⟨29,l.length * 5,l.flatMap fmc⟩,⟨29,1,fmc g⟩,⟨29,0,fmc R.1⟩]) _ by
   refine .c (λh=> ?_) (λh=> ?_)
   .have hf:m.fp=true:=h;rw[hf,gD rfl]at hD;obtain⟨k1,k2,k3,k4⟩:=hpf hf;have fl:=λL=>zqJ g mx my (v1 m d) (v2 m d) (v3 m d) (v4 m d) (s1 m d) (s2 m d) k1 k2 k3 k4 L;rw[<-hD]at fl;have r5:(fmc R.1).all PV.cell=true:=rfl;have r7:(fmc R.1).length=5:=rfl;have r9:qD 5 [PV.int .i64 0,PV.int .i64 0,PV.slice [] 0 true,PV.slice [] 0 true,PV.slice [] 0 true]=[]:=rfl;refine .y [H.length+5] [(17,[0])] [] [66] λK hK=> ?_;simp(maxSteps:=9^9) (disch:=omega) only[go_sem,zy,hi,hx,mB,e4,h2,h3,g7,g8];refine VCj.read (λ_ _=>fl _) rfl ?_;refine sqx (nq2 r5 (nq2 r7 r9)) ?_;refine hK _ _ ?_;clear hK K;exact .a hrest
   .have hf:m.fp=false:=h;rw[hf,gC sp,<-zyh]at hD;have sx:=λL=>zjq mx L;have sy:=λL=>zjq my L;have pr:=λL=>zeg g (16 * min (max mx (-1)) 128) (16 * min (max my (-1)) 128) (v1 m d) (v2 m d) 16 (.inr rfl) om L;rw[<-hD]at pr;have r5:(fmc R.1).all PV.cell=true:=rfl;have r7:(fmc R.1).length=5:=rfl;have r9:qD 5 [PV.int .i64 0,PV.int .i64 0,PV.slice [] 0 true,PV.slice [] 0 true,PV.slice [] 0 true]=[]:=rfl;refine .y [H.length+5] [(17,[0])] [] [72,74,82] λK hK=> ?_;simp(maxSteps:=9^9) (disch:=omega) only[go_sem,zy,hi,hx,mB,e4,h4,g7,g8];refine VCj.read (λ_ _=>sx _) rfl ?_;refine sqz ?_;refine VCj.read (λ_ _=>sy _) rfl ?_;simp(maxSteps:=9^9) (disch:=omega) only[go_sem,zy,hi,hx,mB,e4,h4,g7,g8];refine VCj.read (λ_ _=>pr _) rfl ?_;refine sqx (nq2 r5 (nq2 r7 r9)) ?_;refine hK _ _ ?_;clear hK K;exact .a hrest
  refine .e ?_;refine .c (λh=> ?_) (λh=> ?_)
  .have he2:R.2≠0:=by simpa using h
   rw[gD he2]at hr;refine .e (.v (.tup [.agg [O J 0,O J 0,.slice [] 0 true,.slice [] 0 true,.slice [] 0 true],O J R.2]) ?_);rw[<-hr];exact .base (fz0 _ _ _)
  have he2:R.2=0:=by simpa using h
  rw[gC (by simp[he2])]at hr;have hR:=h16 he2;have nx:=ih (d+1) (l++[R.1]) om (λg hg=>by
   rcases uF.1 hg with hg|hg
   .exact hl g hg
   .rw[uX]at hg;rw[hg];exact hR) (by rw[gP];simp only[gZ,uS];omega) hr
  have r7:(fmc R.1).length=5:=rfl;have r8:qB 5 (fmc R.1)=fmc R.1:=rfl;have r5:(fmc R.1).all PV.cell=true:=rfl;have lf:=zAl l;have lb:l.length<=2:=by rw[hlen];unfold zog;split<;>split<;>omega
  have fa:(l++[R.1]).flatMap fmc=l.flatMap fmc++fmc R.1:=by simp
  have ll1:(l++[R.1]).length=l.length+1:=by simp
  have lp:(l.flatMap fmc++fmc R.1).length=(l.length+1) * 5:=by rw[gP,lf,r7];omega
  rw[fa,ll1]at nx;refine .skip (.g (nq2 r5 (nq2 r7 (nq2 r8 lf))) ?_);refine .e ?_;rw[lp];refine .view (Vs.trim (F1:=[(1,.ptr i 0 0),(3,O J mx),(4,O J my),(5,.ptr H.length 0 0),(7,.ptr (H.length+1) 0 0),(10,.ptr (H.length+2) 0 0),(12,.msl (H.length+3) ((l.length+1) * 5) 0 (l.length+1) 5 true),(21,.agg [.bool m.ua,.bool m.ub]),(22,O J ((d+1:Nat):Int))]) (H1:=H++[⟨145,0,cxc c⟩,⟨85,0,fmc pa++(fmc fu++fmc fi)⟩,⟨29,0,[O J 0,O J 0,.slice [] 0 true,.slice [] 0 true,.slice [] 0 true]⟩,⟨29,(l.length+1) * 5,l.flatMap fmc++fmc R.1⟩]) (zfi ?_) sp (gU _ [_,_,_,_] [_,_]).symm ?_) nx
  .intro b hb z hz;simp only[gM,gL,uA]at hb;rcases hb with rfl|rfl|rfl|rfl
   .simp only[cxc,gM,gL,uA]at hz;rcases hz with rfl|rfl|rfl|rfl
    .exact .int _ _
    .exact .int _ _
    .exact .bool _
    .exact .bool _
   .rcases uF.1 hz with hz|hz
    .exact zan _ _ _ _ _ _ _ _ _ _ _ _ z hz
    .rcases uF.1 hz with hz|hz
     .exact zan _ _ _ _ _ _ _ _ _ _ _ _ z hz
     .exact zan _ _ _ _ _ _ _ _ _ _ _ _ z hz
   .exact zan _ 0 0 [] [] [] _ _ _ _ _ _ z hz
   .rcases uF.1 hz with hz|hz
    .obtain⟨g,_,hg⟩:=wM.1 hz;exact zan _ _ _ _ _ _ _ _ _ _ _ _ z hg
    .exact zan _ _ _ _ _ _ _ _ _ _ _ _ z hz
  .rw[hl4];exact⟨.id (.ptr om),.id (.int _ _),.id (.int _ _),.id (.ptr om),.id (.ptr om),.id (.ptr om),.id (.msl om),.id (zn λx hx=>by
    simp only[gM,gL,uA]at hx;rcases hx with rfl|rfl<;>exact .bool _),.id (.int _ _),trivial⟩
theorem zyj(H:za):CallOk prog 202 [.int .u64 1,.int .u64 64] H (.tup [.int .u64 0,.int .u64 64]) H:=CallOk.evalV 100000 kr (λx hx=>by
 simp only[gM,gL,uA]at hx;rcases hx with rfl|rfl<;>exact .int _ _)
theorem zvF(H:za):CallOk prog 202 [.int .u64 1,.int .u64 256] H (.tup [.int .u64 0,.int .u64 256]) H:=CallOk.evalV 100000 kr (λx hx=>by
 simp only[gM,gL,uA]at hx;rcases hx with rfl|rfl<;>exact .int _ _)
def rpk(n k:Nat):List UInt8:=qA k 128++qA (n - k) 0
theorem zoR{n k:Nat}(h:k<=n):(rpk n k).length=n:=by simp[rpk];omega
theorem zoS(n:Nat):rpk n n=qA n 128:=by simp[rpk]
theorem zjs(n:Nat)(hn:n=64\/n=256)(H:za):CallOk prog 141 [.slice [.int .u8 128] 1 true,O J (n:Int)] H (.slice (bs (qA n 128)) n false) H:=by
 have mu:∀ K,CallOk prog 202 [.int .u64 1,.int .u64 (n:Int)] K (.tup [.int .u64 0,.int .u64 (n:Int)]) K:=λK=>by grind[zyj,zvF]
 have hz:(qA n [PV.int .u8 0]).flatten=bs (qA n 0):=zbh n;have u1:IntKind.u64.wrap (n:Int)=(n:Int):=by rcases hn with rfl|rfl<;>rfl
 have u2:IntKind.u64.wrap 1=1:=rfl;refine .go func141 ntmps141 results141 ?_;refine .e (.e ?_);refine .us (.m (nq2 u1 u2) mu ?_);(repeat refine .seq ?_);refine .rgv (P:=prog) [0,6] 26 (.bool false) ?_ ?_ ?_
 .rfl
 .simp(maxSteps:=9^9) (disch:=omega) only[go_sem];(repeat'((refine zg ?_ ?_)<;>intro h<;>(try simp only[nqb]at h)<;>simp(maxSteps:=9^9) (disch:=omega) only[go_sem,h]));all_goals(simp_all[slot,qE])
 refine .us (.e ?_);rw[hz];have mn:min 1 n=1:=om;refine .f (λK k=>by simp(maxSteps:=9^9) (disch:=omega) only[go_sem,zd,uQ,mn];exact k) ?_;refine .l ?_;suffices hloop:∀ k:Nat,1<=k->k<=n->PL prog _ _ [(7,.msl H.length 0 0 n 1 true),(8,O J (k:Int))] (H++[⟨5,0,bs (rpk n k)⟩]) _ by exact .a (hloop 1 om om) rfl (by simp[zM];rcases hn with rfl|rfl<;>rfl)
 intro k hk1 hkn;induction hm:n - k using Nat.strongRecOn generalizing k with
 | _ d ih=>
  have hl:=zoR hkn;refine .round (.e ?_);refine .c (λh=> ?_) (λh=> ?_)
  .have h4:k<n:=by simp_all
   refine .skip (.b ?_);refine .dn λK hK=> ?_;simp(maxSteps:=9^9) (disch:=omega) only[go_sem,zd,hl];refine hK _ _ ?_;clear hK K;have hm1:min (k - 0) (n - k)=min k (n - k):=by rfl
   rw[hm1,dM];have e1:(k:Int)+((min k (n - k):Nat):Int)=((k+min k (n - k):Nat):Int):=om;rw[e1];have e2:qB k (bs (rpk n k))=bs (qA k 128):=by simp_all[zbi,rpk,rM,gH]
   have e3:qB (min k (n - k)) (bs (qA k (128:UInt8)))=bs (qA (min k (n - k)) 128):=by simp_all[zbi,sO]
   have e4:qD (k+(bs (qA (min k (n - k)) (128:UInt8))).length) (bs (rpk n k))=bs (qA (n - (k+min k (n - k))) 0):=by rw[zd,uQ,zbY];congr 1;simp_all[rpk,rL,uQ,uB,vC,rS];omega
   rw[e2,e3,e4];have e5:bs (qA k 128)++(bs (qA (min k (n - k)) 128)++bs (qA (n - (k+min k (n - k))) 0))=bs (rpk n (k+min k (n - k))):=by rw[<-zS,<-zS];unfold rpk;rw[<-gU,sY]
   rw[e5];exact .a (ih (n - (k+min k (n - k))) om (k+min k (n - k)) om om rfl)
  .have h4:k=n:=by grind
   subst h4;refine .exit ?_;rw[zoS];refine .e (.ret ⟨_,rfl,?_⟩);exact .base (Fz.mslC (e:=5) (xs:=bs (qA k 128)) om (hp0 _ _ _) (by simp[zd]) (FzC.refl (zh _ _)))
theorem zxb:fmc gry=[O J 16,O J 16,.slice (bs (qA 256 128)) 256 false,.slice (bs (qA 64 128)) 64 false,.slice (bs (qA 64 128)) 64 false]:=F16.gry.c
theorem zv1(H:za):CallOk prog 80 [O J 16,O J 16,.int .u8 128,.int .u8 128,.int .u8 128] H (.tup [.agg (fmc gry),O J 0]) H:=by have fz:=λK=>zkO 16 16 K;rw[show fsz 16 16=true by decide]at fz;have r1:=λK=>zjs 256 (.inr rfl) K;have r2:=λK=>zjs 64 (.inl rfl) K;rw[zxb];generalize qA 256 (128:UInt8)=A at r1 |-;generalize qA 64 (128:UInt8)=B at r2 |-;have d1:(16:Int).tdiv 2=8:=rfl;have m1:(16:Int) * 16=((256:Nat):Int):=rfl;have m2:(8:Int) * 8=((64:Nat):Int):=rfl;refine .go func80 ntmps80 results80 ?_;refine .e (.k fz ?_);refine .us (.g (nq2 d1 (nq2 m1 m2)) ?_);refine .f (λK k=>by simp(maxSteps:=9^9) (disch:=omega) only[go_sem];refine VCx.call (r1 _) rfl ?_;simp(maxSteps:=9^9) (disch:=omega) only[go_sem];refine VCx.call (r2 _) rfl ?_;simp(maxSteps:=9^9) (disch:=omega) only[go_sem];refine VCx.call (r2 _) rfl ?_;simp(maxSteps:=9^9) (disch:=omega) only[go_sem];exact k) ?_;refine .v (.tup [.agg [O J 16,O J 16,.slice (bs A) 256 false,.slice (bs B) 64 false,.slice (bs B) 64 false],O J 0]) ?_;exact .base (.id (zC _ _ _ _ _ _ _ _ _ _))
theorem zxA(q:Int)(H:za):CallOk prog 91 [O J q] H (.bool (qnB q)) H:=by refine .go func91 ntmps91 results91 ?_;(repeat'(first|refine .seq ?_|((refine .rg rfl λK hK=> ?_);simp(maxSteps:=9^9) (disch:=omega) only[go_sem])|((refine zg ?_ ?_)<;>intro h<;>(try simp only[nqb]at h)<;>simp(maxSteps:=9^9) (disch:=omega) only[go_sem,h])|(refine hK _ _ ?_)));all_goals((refine .ret ⟨_,rfl,?_⟩;refine .inl ⟨?_,rfl⟩);(simp_all[qnB,slot,qE]<;>omega))
theorem zkY{c:Cx}{fp used:Bool}{a b d e p q:Int}(h:zbT c fp used a b d e p q=true):(p=0\/p=1)/\(q=0\/q=1)/\(used=true->vrg a b=true/\vrg d e=true):=by unfold zbT at h;grind
theorem ziG{c:Cx}{m:Mb}(h:fmS c m=true)(hk:m.k=2):PrOk m/\selB m/\lvr m.lv=true:=by unfold fmS at h;rw[gB,gC om,gC om,gD hk]at h;have h2:=h.2;unfold zfV at h2;simp only[gB]at h2;obtain⟨hu,_,h0,h1,hl,_⟩:=h2;have d0:=zkY h0;have d1:=zkY h1;refine⟨⟨?_,λd hd hf=> ?_⟩,⟨d0.1,d0.2.1,d1.1,d1.2.1⟩,hl⟩;all_goals grind[zgj,us,s1,s2,v1,v2,v3,v4]
theorem ztH{c:Cx}{m:Mb}(h:fmS c m=true)(hk:m.k=1):lvr m.lv=true:=by simp_all[fmS,gB]
theorem zqH{c:Cx}{m:Mb}(h:fmS c m=true):m.k=0\/m.k=1\/m.k=2:=by unfold fmS at h;grind
theorem zzm:lrm zl384:=λi=>by grind[ze,zl384]
theorem zxT(c:Cx):PrOk (stl c):=⟨.inl rfl,λd _ hf=>by cases hf⟩
theorem zrK(s:Sq)(h:s.ia.length=64):qB 64 (qD 7 (sqc s))=bs s.ia:=zgU s.ia s.ie h
theorem zrJ(s:Sq)(h:s.ia.length=64)(h':s.ie.length=64):qB 64 (qD 71 (sqc s))=bs s.ie:=by show qB 64 (qD 64 (bs s.ia++bs s.ie))=_;rw[zgT _ _ h,zfx _ h']
theorem zoL(s:Sq)(h:s.ia.length=64)(h':s.ie.length=64):(sqc s).length=135:=by simp[sqc,zd,h,h']
theorem zlQ(s:Sq):(sqc s).all PV.cell=true:=by simp[sqc,bs,PV.cell]
theorem zsf(c:Cx)(s:Sq)(al:Bool)(q:Int)(m:Mb)(pa fu fi:Fm)(mx my:Int)(H:za)(hml:m.lv.length=384)(hia:s.ia.length=64)(hie:s.ie.length=64):
  CallOk prog 47 [.agg (cxc c),.agg (sqc s),.bool al,O J q,.agg (mbc m),.agg (fmc pa++(fmc fu++fmc fi)),O J mx,O J my] H (.tup [.agg (fmc (zdC c s.ia s.ie al q m pa fu fi mx my).1),O J (zdC c s.ia s.ie al q m pa fu fi mx my).2]) H:=by
 have fo:=λL=>zAk c m L hml;have q1:=λL=>zms s.ia L hia;have q2:=λL=>zms s.ie L hie;have q3:=λL=>zxA q L;have c1:=zrK s hia;have c2:=zrJ s hia hie;have c3:=zoL s hia hie;have c4:=zlQ s;have m1:=zbz m hml;have m2:=zbS m;have m3:(mbc m)[0]? =some (O J m.k):=rfl;have m4:qB 408 (mbc m)=mbc m:=gH om;have m5:qD 408 (mbc m)=[]:=uB om;have cl:(cxc c).length=4:=rfl;have cc:(cxc c).all PV.cell=true:=rfl;have ct4:qB 4 (cxc c)=cxc c:=rfl;have rl:(fmc pa++(fmc fu++fmc fi)).length=15:=rfl;have rc:(fmc pa++(fmc fu++fmc fi)).all PV.cell=true:=rfl;have rt:qB 15 (fmc pa++(fmc fu++fmc fi))=fmc pa++(fmc fu++fmc fi):=rfl;have z9:qD 5 [PV.int .i64 0,PV.int .i64 0,PV.slice [] 0 true,PV.slice [] 0 true,PV.slice [] 0 true]=[]:=rfl;generalize hr:zdC c s.ia s.ie al q m pa fu fi mx my=r;unfold zdC at hr;refine .go func47 ntmps47 results47 ?_;refine .g (nq2 cc (nq2 rc (nq2 c4 m2))) ?_;(repeat refine .seq ?_);refine .rgv (P:=prog) [2,3,6,7,8,9,12,13,16,17] 42 (.bool (!(fmS c m&&(zaM s.ia&&(zaM s.ie&&qnB q))))) ?_ ?_ ?_
 .rfl
 .clear hr;generalize fmS c m=b1 at fo |-;generalize zaM s.ia=b2 at q1 |-;generalize zaM s.ie=b3 at q2 |-;generalize qnB q=b4 at q3 |-;simp(maxSteps:=9^9) (disch:=omega) only[go_sem,cl,ct4,m1,m4,c1,c2,c3];(repeat'(first|((refine zg ?_ ?_)<;>intro h<;>(try simp only[nqb]at h)<;>simp(maxSteps:=9^9) (disch:=omega) only[go_sem,cl,ct4,m1,m4,c1,c2,c3,h])|((first|refine VCx.call (fo _) rfl ?_|refine VCx.call (q1 _) rfl ?_|refine VCx.call (q2 _) rfl ?_|refine VCx.call (q3 _) rfl ?_);simp(maxSteps:=9^9) (disch:=omega) only[go_sem,cl,ct4,m1,m4,c1,c2,c3])));all_goals(clear fo q1 q2 q3;(simp_all[slot,qE]))
 refine .c (λh=> ?_) (λh=> ?_)
 .have hb:(fmS c m&&(zaM s.ia&&(zaM s.ie&&qnB q)))=false:=by grind
  rw[hb,gC sp]at hr;refine .e (.v (.tup [.agg [O J 0,O J 0,.slice [] 0 true,.slice [] 0 true,.slice [] 0 true],O J 1]) ?_);rw[<-hr];exact .base (fz0 _ _ _)
 have hb:(fmS c m&&(zaM s.ia&&(zaM s.ie&&qnB q)))=true:=by simpa using h
 rw[hb,gD rfl]at hr;simp only[gB]at hb;obtain⟨hf,hb1,hb2,hb3⟩:=hb;refine .skip (.g (nq2 m1 m3) ?_);refine .c (λh=> ?_) (λh=> ?_)
 .have hk:m.k=1:=by simpa using h
  rw[gD hk]at hr;have fl:=λL=>zv1 L;have ad:=λL hL=>zuF gry F16.gry m (H.length+2) s.ia q al L hL hml (zkJ hml (ztH hf hk)) hia hb1 hb3;generalize gry=g at fl ad hr;obtain⟨g',hg'⟩:∃ g',addN m al s.ia q g 6=g':=⟨_,rfl⟩;rw[hg']at ad hr;have g5:(fmc g).all PV.cell=true:=rfl;have g7:(fmc g).length=5:=rfl;have g8:qB 5 (fmc g)=fmc g:=rfl;have e5:(fmc g').all PV.cell=true:=rfl;have e7:(fmc g').length=5:=rfl;have e8:qB 5 (fmc g')=fmc g':=rfl;refine .m (nq2 g5 (nq2 g7 z9)) fl ?_;refine .e (.us ?_);refine .f (λK k=>by simp(maxSteps:=9^9) (disch:=omega) only[go_sem,g7,g8,c1,c3,e5,e7,e8,z9];refine VCx.call (ad _ (apn _ _ 2)) rfl ?_;simp(maxSteps:=9^9) (disch:=omega) only[go_sem,g7,g8,c1,c3,e5,e7,e8,z9];exact k) ?_;refine .w (.tup [.agg (fmc g'),O J 0]) (nq2 e7 e8) ?_;rw[<-hr];exact .base (.id (zC _ _ _ _ _ _ _ _ _ _))
 have hk:m.k≠1:=by simpa using h
 rw[gC hk]at hr;refine .skip ?_;obtain⟨M,hM⟩:∃ M,(if m.k=0 then stl c else m)=M:=⟨_,rfl⟩;have hMl:M.lv.length=384:=by rw[<-hM];split;exact zdr;exact hml
 have hMp:PrOk M:=by rw[<-hM];split;all_goals grind[zxT,ziG,zqH]
 have hMr:lrm M.lv:=by
  rw[<-hM];split
  .exact zzm
  grind[zkJ,ziG,zqH]
 rw[hM]at hr;suffices hrest:PW prog _ _ [(2,.bool al),(3,O J q),(6,O J mx),(7,O J my),(8,.ptr H.length 0 0),(9,.ptr (H.length+1) 0 0),(12,.ptr (H.length+2) 0 0),(13,.ptr (H.length+3) 0 0),(16,.ptr (H.length+4) 0 0)] (H++[⟨145,0,cxc c⟩,⟨37,0,sqc s⟩,⟨142,0,mbc M⟩,⟨85,0,fmc pa++(fmc fu++fmc fi)⟩,⟨29,0,[O J 0,O J 0,.slice [] 0 true,.slice [] 0 true,.slice [] 0 true]⟩]) _ by
  refine .g (nq2 m1 m3) ?_;refine .c (λh=> ?_) (λh=> ?_)
  .have hz:m.k=0:=by simpa using h
   rw[gD hz]at hM;have so:=λL=>zrD c L;rw[hM]at so;have n1:=zbz M hMl;have n2:=zbS M;refine .m (nq2 cl (nq2 ct4 (nq2 m1 (nq2 m5 (nq2 n1 n2))))) so ?_;exact .a hrest
  .have hz:m.k≠0:=by simpa using h
   rw[gC hz]at hM;subst hM;refine .skip ?_;exact .a hrest
 have h16:(prS c M pa fu fi mx my).2=0->F16 (prS c M pa fu fi mx my).1:=zso;have pr:=λL hL=>zl6 c M (H.length+2) pa fu fi mx my L hL hMl hMp;generalize prS c M pa fu fi mx my=T at pr hr h16;obtain⟨g,e⟩:=T;simp only at pr hr h16;have g5:(fmc g).all PV.cell=true:=rfl;have g7:(fmc g).length=5:=rfl;have g8:qB 5 (fmc g)=fmc g:=rfl;refine .f (λK k=>by simp(maxSteps:=9^9) (disch:=omega) only[go_sem,cl,ct4,rl,rt,g5,g7,z9];refine VCx.call (pr _ (apn _ _ 2)) rfl ?_;simp(maxSteps:=9^9) (disch:=omega) only[go_sem,cl,ct4,rl,rt,g5,g7,z9];exact k) ?_;refine .e ?_;refine .c (λh=> ?_) (λh=> ?_)
 .have he:e≠0:=by simpa using h
  rw[gD he]at hr;refine .e (.v (.tup [.agg [O J 0,O J 0,.slice [] 0 true,.slice [] 0 true,.slice [] 0 true],O J e]) ?_);rw[<-hr];exact .base (fz0 _ _ _)
 have he:e=0:=by simpa using h
 rw[gC (by simp[he])]at hr;have ad:=λL hL=>zuF g (h16 he) M (H.length+2) s.ie q al L hL hMl hMr hie hb2 hb3;obtain⟨g',hg'⟩:∃ g',addN M al s.ie q g 6=g':=⟨_,rfl⟩;rw[hg']at ad hr;have e5:(fmc g').all PV.cell=true:=rfl;have e7:(fmc g').length=5:=rfl;have e8:qB 5 (fmc g')=fmc g':=rfl;refine .skip (.f (λK k=>by simp(maxSteps:=9^9) (disch:=omega) only[go_sem,g7,g8,c2,c3,e5,e7,e8,z9];refine VCx.call (ad _ (apn _ _ 2)) rfl ?_;simp(maxSteps:=9^9) (disch:=omega) only[go_sem,g7,g8,c2,c3,e5,e7,e8,z9];exact k) ?_);refine .w (.tup [.agg (fmc g'),O J 0]) (nq2 e7 e8) ?_;rw[<-hr];exact .base (.id (zC _ _ _ _ _ _ _ _ _ _))
theorem zfX(f:Fm)(mx my:Int)(H:za):CallOk prog 178 [.agg (fmc f),O J mx,O J my] H (.bool (zcD f mx my)) H:=by
 have va:=λK=>zjh f K;have hr:zcD f mx my=(fvd f&&(decide (0<=mx)&&(decide (mx<f.w / 16)&&(decide (0<=my)&&decide (my<f.h / 16))))):=rfl;generalize zcD f mx my=r at hr |-;cases hv:fvd f
 .rw[hv]at va hr;obtain⟨w,ht,y,u,v⟩:=f;simp only[fmc]at va |-;refine .body (F0:=[(0,.agg [O J w,O J ht,.slice (bs y) y.length false,.slice (bs u) u.length false,.slice (bs v) v.length false]),(1,O J mx),(2,O J my)]) func178 rfl ntmps178 results178 rfl kr rfl ?_;refine .e (.x λK hK=> ?_);simp(disch:=omega) only[go_sem];(repeat'(first|((first|refine zg ?_ ?_|refine uI ?_ ?_)<;>intro h<;>(try simp only[nqb]at h)<;>simp(disch:=omega) only[go_sem,h])|((refine VCx.call (va _) rfl ?_);simp(disch:=omega) only[go_sem])));all_goals(refine hK _ _ ?_;clear hK;(refine .ret ⟨_,rfl,?_⟩;first|refine .inl ⟨?_,rfl⟩|refine .base (.id' ?_ (.bool _))|refine .base (.id' ?_ (.int _ _)));(simp_all[slot,qE]<;>first|rfl|omega|(rw[gJ];simp;done)|(rw[gJ];simp;omega)))
 .rw[hv]at va hr;have hp:(0<=f.w/\f.w<=64)/\0<=f.h/\f.h<=64:=by unfold fvd fmd at hv;simp only[gB]at hv;have:=za8 hv.1.1;omega
  obtain⟨w,ht,y,u,v⟩:=f;simp only[fmc]at va hp hr |-;clear hv;refine .body (F0:=[(0,.agg [O J w,O J ht,.slice (bs y) y.length false,.slice (bs u) u.length false,.slice (bs v) v.length false]),(1,O J mx),(2,O J my)]) func178 rfl ntmps178 results178 rfl kr rfl ?_;refine .e (.x λK hK=> ?_);simp(disch:=omega) only[go_sem];(repeat'(first|((first|refine zg ?_ ?_|refine uI ?_ ?_)<;>intro h<;>(try simp only[nqb]at h)<;>simp(disch:=omega) only[go_sem,zF,h])|((refine VCx.call (va _) rfl ?_);simp(disch:=omega) only[go_sem,zF])));all_goals(refine hK _ _ ?_;clear hK va;(refine .ret ⟨_,rfl,?_⟩;first|refine .inl ⟨?_,rfl⟩|refine .base (.id' ?_ (.bool _))|refine .base (.id' ?_ (.int _ _)));rw[hr];simp_all[slot,qE]<;>grind)
def zBk(n:Nat):Blk:=⟨5,1,bs (qA n 0)⟩
theorem zjV(N:Nat)(f:Nat->Int):zBk N=⟨5,1,bs (flB N f 0)⟩:=by unfold zBk;rw[ztM,zbh]
theorem zqP(K0:za):CallOk prog 176 [O J 16,O J 16] (K0++[plc,plc,plc]) (.agg [O J 16,O J 16,.msl K0.length 1 0 256 1 true,.msl (K0.length+1) 1 0 64 1 true,.msl (K0.length+2) 1 0 64 1 true]) (K0++[zBk 256,zBk 64,zBk 64]):=by
 have d1:(16:Int).tdiv 2=8:=rfl;obtain⟨N1,h1⟩:∃ N:Nat,N=256:=⟨_,rfl⟩;obtain⟨N2,h2⟩:∃ N:Nat,N=64:=⟨_,rfl⟩;have m1:(16:Int) * 16=(N1:Int):=by rw[h1];rfl
 have m2:(8:Int) * 8=(N2:Int):=by rw[h2];rfl
 rw[<-h1,<-h2];have z1:(qA N1 [PV.int .u8 0]).flatten=bs (qA N1 0):=zbh N1;have z2:(qA N2 [PV.int .u8 0]).flatten=bs (qA N2 0):=zbh N2;refine .go func176 ntmps176 results176 ?_;refine .g @plc.eq_1 ?_;refine .y [K0.length,K0.length+1,K0.length+2,K0.length+3] [(4,[3]),(10,[0]),(16,[1]),(22,[2])] [(10,0),(16,1),(22,2)] [] λK hK=> ?_;simp(disch:=omega) only[go_sem,zy,plc,d1,m1,m2];refine hK _ _ ?_;rw[z1,z2];refine .v (.agg [O J 16,O J 16,.msl K0.length 1 0 N1 1 true,.msl (K0.length+1) 1 0 N2 1 true,.msl (K0.length+2) 1 0 N2 1 true]) ?_;refine .cut (A:=K0++[zBk N1,zBk N2,zBk N2]) (gU _ [_,_,_] [_]).symm sp (zqB sp λb hb x hx=> ?_) (.id (zn λx hx=> ?_))
 .simp only[gM,gL,uA]at hb;rcases hb with rfl|rfl|rfl<;>exact zh _ _ x hx
 .simp only[gM,gL,uA]at hx;rcases hx with rfl|rfl|rfl|rfl|rfl
  .exact .int _ _
  .exact .int _ _
  .exact .msl (by simp only[gP,gZ,uS];omega)
  .exact .msl (by simp only[gP,gZ,uS];omega)
  .exact .msl (by simp only[gP,gZ,uS];omega)
theorem zkR(n:Nat):rgB n (λ_=>128)=qA n 128:=by apply dD;all_goals simp_all[rgB,u8]
theorem ztJ(H:za):CallOk prog 107 [O J 16,O J 16,.int .u8 128,.int .u8 128,.int .u8 128] H (.agg (fmc gry)) H:=by
 have bl:=zqP (H++[⟨29,0,[PV.int .i64 0,PV.int .i64 0,PV.slice [] 0 true,PV.slice [] 0 true,PV.slice [] 0 true]⟩]);rw[zjV 256 (λ_=>128),zjV 64 (λ_=>128)]at bl;simp only[plc,hl1,gU,uZ,vC,vT,qF]at bl;rw[zxb,<-zkR,<-zkR,<-zeU,<-zeU];obtain⟨N1,hn1⟩:∃ N:Nat,N=256:=⟨_,rfl⟩;obtain⟨N2,hn2⟩:∃ N:Nat,N=64:=⟨_,rfl⟩;rw[<-hn1,<-hn2]at bl |-;have fs:=fun(N k:Nat)=>zhw (N:=N) (f:=λ_=>128) (n:=k) (by decide);have fl:=λN k=>zhx N (λ_=>128) k;refine .go func107 ntmps107 results107 ?_;refine .e (.view (Vs.place 5) ?_);refine .view (Vs.place 5) ?_;refine .view (Vs.place 5) ?_;refine .f (λK k=>by simp(disch:=omega) only[go_sem];refine VCx.call (bl) rfl ?_;simp(disch:=omega) only[go_sem];exact k) ?_;refine .e (.l ?_);suffices h1:∀ k:Nat,k<=N1->PL prog _ _ [(2,.int .u8 128),(3,.int .u8 128),(4,.int .u8 128),(10,.ptr H.length 0 0),(11,.ptr (H.length+4) 0 0),(12,O J (k:Int))] (H++[⟨29,0,[PV.int .i64 0,PV.int .i64 0,PV.slice [] 0 true,PV.slice [] 0 true,PV.slice [] 0 true]⟩,⟨5,1,bs (flB N1 (λ_=>128) k)⟩,⟨5,1,bs (flB N2 (λ_=>128) 0)⟩,⟨5,1,bs (flB N2 (λ_=>128) 0)⟩,⟨29,0,[O J 16,O J 16,.msl (H.length+1) 1 0 N1 1 true,.msl (H.length+2) 1 0 N2 1 true,.msl (H.length+3) 1 0 N2 1 true]⟩]) _ by exact .a (h1 0 om)
 refine cnt N1 (λk hk ih=> ?_) ?_
 .have ct:=zco hk;refine .round (.g ct ?_);refine .t (.skip ?_);refine .b (.f (λK k=>by simp(disch:=omega) only[go_sem,zd,fl,fs];exact k) ?_);refine .e ?_;exact .a ih
 refine .round (.f (λK k=>by simp(disch:=omega) only[go_sem,zcP N1];exact k) ?_);refine .u (.exit ?_);refine .e (.l ?_);suffices h1:∀ k:Nat,k<=N2->PL prog _ _ [(3,.int .u8 128),(4,.int .u8 128),(10,.ptr H.length 0 0),(11,.ptr (H.length+4) 0 0),(13,O J (k:Int))] (H++[⟨29,0,[PV.int .i64 0,PV.int .i64 0,PV.slice [] 0 true,PV.slice [] 0 true,PV.slice [] 0 true]⟩,⟨5,1,bs (flB N1 (λ_=>128) N1)⟩,⟨5,1,bs (flB N2 (λ_=>128) k)⟩,⟨5,1,bs (flB N2 (λ_=>128) k)⟩,⟨29,0,[O J 16,O J 16,.msl (H.length+1) 1 0 N1 1 true,.msl (H.length+2) 1 0 N2 1 true,.msl (H.length+3) 1 0 N2 1 true]⟩]) _ by exact .a (h1 0 om)
 refine cnt N2 (λk hk ih=> ?_) ?_
 .have ct:=zco hk;refine .round (.g ct ?_);refine .t (.skip ?_);refine .b (.y [H.length+2,H.length+3] [(37,[0]),(44,[0]),(40,[1]),(45,[1])] [] [] λK hK=> ?_);simp(disch:=omega) only[go_sem,zy,zd,fl,fs];refine hK _ _ ?_;refine .e ?_;exact .a ih
 refine .round (.f (λK k=>by simp(disch:=omega) only[go_sem,zcP N2];exact k) ?_);refine .u (.exit ?_);refine .e (.v (.agg [O J 16,O J 16,.msl (H.length+1) 1 0 N1 1 true,.msl (H.length+2) 1 0 N2 1 true,.msl (H.length+3) 1 0 N2 1 true]) ?_);refine .base (Fz.aggC ⟨.id (.int _ _),.id (.int _ _),Fz.mslC (e:=5) (xs:=bs (flB N1 (λ_=>128) N1)) om (apn _ _ 1) (by rw[zd,fl];omega) (FzC.refl (zh _ _)),Fz.mslC (e:=5) (xs:=bs (flB N2 (λ_=>128) N2)) om (apn _ _ 2) (by rw[zd,fl];omega) (FzC.refl (zh _ _)),Fz.mslC (e:=5) (xs:=bs (flB N2 (λ_=>128) N2)) om (apn _ _ 3) (by rw[zd,fl];omega) (FzC.refl (zh _ _)),trivial⟩)
theorem zqo(w ht:Int)(y u v:List UInt8)(n:Nat)(H:za)(hn:n<6):CallOk prog 250 [.agg (fmc ⟨w,ht,y,u,v⟩),O J (n:Int)] H (.slice (bs (cmp ⟨w,ht,y,u,v⟩ n)) (cmp ⟨w,ht,y,u,v⟩ n).length false) H:=by
 refine .body (F0:=[(0,.agg [O J w,O J ht,.slice (bs y) y.length false,.slice (bs u) u.length false,.slice (bs v) v.length false]),(1,O J (n:Int))]) func250 rfl ntmps250 results250 rfl kr rfl ?_;refine .e (.e ?_);refine .b (.e ?_);refine .c (λh=> ?_) (λh=> ?_)
 .have e:n=4:=by grind
  subst e;refine .e ?_;exact .ret ⟨_,rfl,Fin.base (.id (zk (zh _ _)))⟩
 have e4:n≠4:=by grind
 refine .e ?_;refine .c (λh=> ?_) (λh=> ?_)
 .have e:n=5:=by grind
  subst e;refine .e ?_;exact .ret ⟨_,rfl,Fin.base (.id (zk (zh _ _)))⟩
 have e5:n≠5:=by grind
 have ec:cmp ⟨w,ht,y,u,v⟩ n=y:=by unfold cmp;rw[gC e4,gC e5]
 rw[ec];refine .skip (.e ?_);exact .ret ⟨_,rfl,Fin.base (.id (zk (zh _ _)))⟩
theorem znF(w ht:Int)(r a b c:Nat)(n:Nat)(H:za)(hr:r+2<H.length)(hn:n<6):CallOk prog 250 [.agg [O J w,O J ht,.msl r 1 0 a 1 true,.msl (r+1) 1 0 b 1 true,.msl (r+2) 1 0 c 1 true],O J (n:Int)] H (if n=4 then .msl (r+1) 1 0 b 1 true else if n=5 then .msl (r+2) 1 0 c 1 true else .msl r 1 0 a 1 true) H:=by
 refine .go func250 ntmps250 results250 ?_;refine .e (.e ?_);refine .b (.e ?_);refine .c (λh=> ?_) (λh=> ?_)
 .have e:n=4:=by grind
  subst e;refine .e ?_;exact .ret ⟨_,rfl,Fin.base (.id (.msl om))⟩
 have e4:n≠4:=by grind
 rw[gC e4];refine .e ?_;refine .c (λh=> ?_) (λh=> ?_)
 .have e:n=5:=by grind
  subst e;refine .e ?_;exact .ret ⟨_,rfl,Fin.base (.id (.msl om))⟩
 have e5:n≠5:=by grind
 rw[gC e5];refine .skip (.e ?_);exact .ret ⟨_,rfl,Fin.base (.id (.msl om))⟩
theorem ziX(v:Int)(H:za):CallOk prog 252 [O J v] H (.int .u8 (clp v)) H:=by
 have cl:(if(if 255<v then 255 else v)>0 then(if 255<v then 255 else v)else 0)=clp v:=by unfold clp;omega
 have b1:=zfo v;refine .go func252 ntmps252 results252 ?_;refine .e (.g cl ?_);(refine .ret ⟨_,rfl,?_⟩;first|refine .inl ⟨?_,rfl⟩|refine .base (.id' ?_ (.bool _))|refine .base (.id' ?_ (.int _ _)));rfl
theorem zdE(n:Nat)(fd:Bool)(k:Nat)(hn:n<6)(hk:k<64)(H:za):CallOk prog 251 [O J 16,O J 0,O J 0,O J (n:Int),.bool fd,O J (k:Int)] H (O J (bps n fd k:Int)) H:=by
 have m1:(n:Int).tmod 2=((n%2:Nat):Int):=by rfl
 have m2:(n:Int).tdiv 2=((n / 2:Nat):Int):=by rfl
 have k1:(k:Int).tmod 8=((k%8:Nat):Int):=by rfl
 have k2:(k:Int).tdiv 8=((k / 8:Nat):Int):=by rfl
 have d1:(16:Int).tdiv 2=8:=rfl;refine .go func251 ntmps251 results251 ?_;refine .e (.e ?_);refine .c (λh=> ?_) (λh=> ?_)
 .have h4:4<=n:=by grind
  refine .g (nq2 m1 (nq2 m2 (nq2 k1 (nq2 k2 d1)))) ?_;(refine .ret ⟨_,rfl,?_⟩;first|refine .inl ⟨?_,rfl⟩|refine .base (.id' ?_ (.bool _))|refine .base (.id' ?_ (.int _ _)));simp_all[slot,qE,bps,bfr,bst]
 have h4:¬ 4<=n:=by grind
 refine .skip (.g (nq2 m1 (nq2 m2 (nq2 k1 (nq2 k2 d1)))) ?_);refine .e ?_;cases fd
 .refine .us (.g (nq2 m1 (nq2 m2 (nq2 k1 (nq2 k2 d1)))) ?_);(refine .ret ⟨_,rfl,?_⟩;first|refine .inl ⟨?_,rfl⟩|refine .base (.id' ?_ (.bool _))|refine .base (.id' ?_ (.int _ _)));simp only[slot,qE];grind[bps,bfr,bst,Bool.false_eq_true]
 .refine .t (.g (nq2 m1 (nq2 m2 (nq2 k1 (nq2 k2 d1)))) ?_);refine .g (nq2 m1 (nq2 m2 (nq2 k1 (nq2 k2 d1)))) ?_;(refine .ret ⟨_,rfl,?_⟩;first|refine .inl ⟨?_,rfl⟩|refine .base (.id' ?_ (.bool _))|refine .base (.id' ?_ (.int _ _)));simp only[slot,qE];grind[bps,bfr,bst]
theorem zqO(f:Fm)(hf:F16 f)(n:Nat)(hn:n<6)(fd:Bool)(H:za):
  CallOk prog 187 [.agg (fmc f),O J 0,O J 0,O J (n:Int),.bool fd] H (.tup [.agg (is (blk (cmp f n) n fd)),O J 0]) H:=by
 have hm:=λK=>zfX f 0 0 K;rw[hf.has]at hm;have co:=λK=>zqo f.w f.h f.y f.u f.v n K hn;have cl:=hf.cmp hn;have bb:bln n<=256:=by unfold bln;split<;>omega
 have hz:=zg1 (λk=>byt (cmp f n) (bps n fd k));obtain⟨w,ht,y,u,v⟩:=f;have hw:w=16:=hf.w;have hh:ht=16:=hf.h;subst hw hh;simp only at co;obtain⟨P,hP⟩:∃ P,cmp ⟨16,16,y,u,v⟩ n=P:=⟨_,rfl⟩;rw[hP]at co cl hz |-;simp only[fmc]at hm co |-;refine .body (F0:=[(0,.agg [O J 16,O J 16,.slice (bs y) y.length false,.slice (bs u) u.length false,.slice (bs v) v.length false]),(1,O J 0),(2,O J 0),(3,O J (n:Int)),(4,.bool fd)]) func187 rfl ntmps187 results187 rfl kr rfl ?_;refine .e ?_;(repeat refine .seq ?_);refine .rgv (P:=prog) [1,2,3,4,5,10,11] 26 (.bool false) ?_ ?_ ?_
 .rfl
 .simp(disch:=omega) only[go_sem];(repeat'(first|((first|refine zg ?_ ?_|refine uI ?_ ?_)<;>intro h<;>(try simp only[nqb]at h)<;>simp(disch:=omega) only[go_sem,h])|((refine VCx.call (hm _) rfl ?_);simp(disch:=omega) only[go_sem])));all_goals(simp_all[slot,qE]<;>first|rfl|omega|(rw[gJ];simp;done)|(rw[gJ];simp;omega))
 refine .us (.e ?_);refine .e (.l ?_);suffices h1:∀ k:Nat,k<=64->PL prog _ _ [(1,O J 0),(2,O J 0),(3,O J (n:Int)),(4,.bool fd),(5,.ptr H.length 0 0),(10,.ptr (H.length+1) 0 0),(12,.ptr (H.length+2) 0 0),(13,O J (k:Int))] (H++[⟨29,0,[O J 16,O J 16,.slice (bs y) y.length false,.slice (bs u) u.length false,.slice (bs v) v.length false]⟩,⟨139,0,is zi⟩,⟨139,0,is (fil (λk=>byt P (bps n fd k)) k)⟩]) _ by exact .a (h1 0 om) rfl (by rw[hz];rfl)
 refine cnt 64 (λk hk ih=> ?_) ?_
 .have po:=λL=>zdE n fd k hn hk L;have bl:=zi0 (fd:=fd) hn hk;have f1:=zeV (λk=>byt P (bps n fd k)) k;have f2:=za2 (λk=>byt P (bps n fd k)) k;have br:=zR P (bps n fd k);refine .round (.e ?_);refine .t (.skip ?_);refine .b (.y [H.length+2] [(12,[0]),(47,[0])] [] [35,43] λK hK=> ?_);simp(disch:=omega) only[go_sem,zy];refine VCj.read (λ_ _=>co _) rfl ?_;simp(disch:=omega) only[go_sem,zy];refine VCj.read (λ_ _=>po _) rfl ?_;simp(disch:=omega) only[go_sem,zy,zak,zd,zj,f2,zaB,f1];refine hK _ _ ?_;clear hK K;refine .e ?_;exact .a ih
 refine .round (.e ?_);refine .u (.exit ?_);rw[zpL];have c3:(blk P n fd).length=64:=zaP _ _;have c4:(is (blk P n fd)).length=64:=by rfl
 have c5:=zq (blk P n fd);have c6:qB 64 (is (blk P n fd))=is (blk P n fd):=gH om;have z3:(is zi).length=64:=by rfl
 have z4:qD 64 (is zi)=[]:=uB om;refine .g (nq2 c4 (nq2 c5 (nq2 c6 (nq2 z3 z4)))) ?_;refine .w (.tup [.agg (is (blk P n fd)),O J 0]) (nq2 c4 c6) ?_;exact .base (.id (zjJ _ _ _))
theorem zub(w ht:Int)(y u v:List UInt8)(K0:za)(hy:1<=y.length/\y.length<=100000)(hu:1<=u.length/\u.length<=100000)(hv:1<=v.length/\v.length<=100000):
  CallOk prog 179 [.agg (fmc ⟨w,ht,y,u,v⟩)] (K0++[plc,plc,plc]) (.agg [O J w,O J ht,.msl K0.length 1 0 y.length 1 true,.msl (K0.length+1) 1 0 u.length 1 true,.msl (K0.length+2) 1 0 v.length 1 true]) (K0++[cpB y,cpB u,cpB v]):=by
 refine .body (F0:=[(0,.agg [O J w,O J ht,.slice (bs y) y.length false,.slice (bs u) u.length false,.slice (bs v) v.length false])]) func179 rfl ntmps179 results179 rfl kr rfl ?_;refine .e (.y [K0.length,K0.length+1,K0.length+2,K0.length+3] [(1,[3]),(4,[3]),(8,[3]),(12,[3]),(15,[3]),(16,[3]),(17,[3]),(6,[0]),(10,[1]),(14,[2])] [(6,0),(10,1),(14,2)] [] λK hK=> ?_);simp(disch:=omega) only[go_sem,zy,plc,zd];refine hK _ _ ?_;refine .e (.v (.agg [O J w,O J ht,.msl K0.length 1 0 y.length 1 true,.msl (K0.length+1) 1 0 u.length 1 true,.msl (K0.length+2) 1 0 v.length 1 true]) ?_);refine .cut (A:=K0++[cpB y,cpB u,cpB v]) (gU _ [_,_,_] [_,_]).symm sp (zqB sp λb hb x hx=> ?_) (.id (zn λx hx=> ?_))
 .simp only[gM,gL,uA]at hb;rcases hb with rfl|rfl|rfl<;>exact zh _ _ x hx
 .simp only[gM,gL,uA]at hx;rcases hx with rfl|rfl|rfl|rfl|rfl
  .exact .int _ _
  .exact .int _ _
  .exact .msl (by simp only[gP,gZ,uS];omega)
  .exact .msl (by simp only[gP,gZ,uS];omega)
  .exact .msl (by simp only[gP,gZ,uS];omega)
theorem zki(f:Fm)(hf:F16 f)(n:Nat)(hn:n<6)(fd:Bool)(x:List Int)(hx:x.length=64)(H:za):
  CallOk prog 188 [.agg (fmc f),O J 0,O J 0,O J (n:Int),.bool fd,.agg (is x)] H (.tup [.agg (fmc (zh2 f n (zdw (cmp f n) n fd x))),O J 0]) H:=by
 have hm:=λK=>zfX f 0 0 K;rw[hf.has]at hm;have cl:=hf.cmp hn;have bb:bln n<=256:=by unfold bln;split<;>omega
 have hsl:=zcw (fd:=fd) (x:=x) hn cl;obtain⟨w,ht,y,u,v⟩:=f;obtain⟨hw,hh,l1,l2,l3⟩:=hf;simp only at hw hh l1 l2 l3;subst hw hh;have hall:=zq x;have fc:=zub 16 16 y u v (H++[⟨29,0,fmc ⟨16,16,y,u,v⟩⟩,⟨139,0,is x⟩,⟨29,0,[O J 0,O J 0,.slice [] 0 true,.slice [] 0 true,.slice [] 0 true]⟩]) om om om;simp only[fmc,plc,cpB,l1,l2,l3,hl3,gU,uZ,vC,vT,qF]at hm fc |-;refine .body (F0:=[(0,.agg [O J 16,O J 16,.slice (bs y) 256 false,.slice (bs u) 64 false,.slice (bs v) 64 false]),(1,O J 0),(2,O J 0),(3,O J (n:Int)),(4,.bool fd),(5,.agg (is x))]) func188 rfl ntmps188 results188 rfl kr rfl ?_;refine .g hall ?_;(repeat refine .seq ?_);refine .rgv (P:=prog) [1,2,3,4,6,11,12,13] 27 (.bool false) ?_ ?_ ?_
 .rfl
 .simp(disch:=omega) only[go_sem];(repeat'(first|((first|refine zg ?_ ?_|refine uI ?_ ?_)<;>intro h<;>(try simp only[nqb]at h)<;>simp(disch:=omega) only[go_sem,h])|((refine VCx.call (hm _) rfl ?_);simp(disch:=omega) only[go_sem])));all_goals(simp_all[slot,qE]<;>first|rfl|omega|(rw[gJ];simp;done)|(rw[gJ];simp;omega))
 refine .us (.view (Vs.place 5) ?_);refine .view (Vs.place 5) ?_;refine .view (Vs.place 5) ?_;refine .f (λK k=>by simp(disch:=omega) only[go_sem];refine VCx.call (fc) rfl ?_;simp(disch:=omega) only[go_sem];exact k) ?_;refine .e (.l ?_);have co:=λL hL=>znF 16 16 (H.length+3) 256 64 64 n L hL hn;simp only[vT,qF]at co;by_cases h4:n=4
 .subst h4;have cu:cmp ⟨16,16,y,u,v⟩ 4=u:=rfl;rw[cu]at hsl cl;rw[cu,zwP];simp only[gD,hsl,l1,l2,l3]at co |-;have sz:=zh3 (fd:=fd) (x:=x) hn (show u.length=bln 4 by rw[cl]);suffices h1:∀ k:Nat,k<=64->PL prog _ _ [(1,O J 0),(2,O J 0),(3,O J ((4:Nat):Int)),(4,.bool fd),(6,.ptr H.length 0 0),(11,.ptr (H.length+1) 0 0),(12,.ptr (H.length+2) 0 0),(14,O J (k:Int))] (H++[⟨29,0,[O J 16,O J 16,.msl (H.length+3) 1 0 256 1 true,.msl (H.length+4) 1 0 64 1 true,.msl (H.length+5) 1 0 64 1 true]⟩,⟨139,0,is x⟩,⟨29,0,[O J 0,O J 0,.slice [] 0 true,.slice [] 0 true,.slice [] 0 true]⟩,⟨5,1,bs y⟩,⟨5,1,bs (sst u 4 fd x k)⟩,⟨5,1,bs v⟩]) _ by exact .a (h1 0 om)
  refine cnt 64 (λk hk ih=> ?_) ?_
  .have b1:=zfo (ze x k);have sl:=zeE u 4 fd x k;have bl:=zi0 (fd:=fd) hn hk;have sv:(bs (sst u 4 fd x k)).set (bps 4 fd k) (.int .u8 (clp (ze x k)))=bs (sst u 4 fd x (k+1)):=by
    conv=>lhs;rw[<-zd5 b1]
    rw[ziZ];rfl
   have po:=λL=>zdE 4 fd k hn hk L;have cp:=λL=>ziX (ze x k) L;refine .round (.e ?_);refine .t (.skip ?_);refine .b (.y [H.length+4] [(37,[0]),(50,[0])] [] [37,45,49] λK hK=> ?_);simp(disch:=omega) only[go_sem,zy,zQ,zj,hx];refine VCj.read (λL hL=>co L (by have:=hL.len;simp at this;omega)) rfl ?_;refine sqz ?_;refine VCj.read (λ_ _=>po _) rfl ?_;simp(disch:=omega) only[go_sem,zy,zQ,zj,hx];refine VCj.read (λ_ _=>cp _) rfl ?_;simp(disch:=omega) only[go_sem,zy,zd,sl,l2,sv];refine hK _ _ ?_;clear hK K;refine .e ?_;exact .a ih
  refine .round (.e ?_);refine .u (.exit ?_);rw[sz];have hs2:=zcw (fd:=fd) (x:=x) hn (show u.length=bln 4 by rw[cl]);refine .e (.v (.tup [.agg [O J 16,O J 16,.msl (H.length+3) 1 0 256 1 true,.msl (H.length+4) 1 0 64 1 true,.msl (H.length+5) 1 0 64 1 true],O J 0]) ?_);refine .base (Fz.tupC ⟨Fz.aggC ⟨.id (.int _ _),.id (.int _ _),Fz.mslC (e:=5) (xs:=(bs y)) om (apn _ _ 3) (by rw[zd];omega) (FzC.refl (zh _ _)),Fz.mslC (e:=5) (xs:=(bs (zdw u 4 fd x))) om (apn _ _ 4) (by rw[zd];omega) (FzC.refl (zh _ _)),Fz.mslC (e:=5) (xs:=(bs v)) om (apn _ _ 5) (by rw[zd];omega) (FzC.refl (zh _ _)),trivial⟩,.id (.int _ _),trivial⟩)
 by_cases h5:n=5
 .subst h5;have cu:cmp ⟨16,16,y,u,v⟩ 5=v:=rfl;rw[cu]at hsl cl;rw[cu,zwO];simp only[gC h4,gD,hsl,l1,l2,l3]at co |-;have sz:=zh3 (fd:=fd) (x:=x) hn (show v.length=bln 5 by rw[cl]);suffices h1:∀ k:Nat,k<=64->PL prog _ _ [(1,O J 0),(2,O J 0),(3,O J ((5:Nat):Int)),(4,.bool fd),(6,.ptr H.length 0 0),(11,.ptr (H.length+1) 0 0),(12,.ptr (H.length+2) 0 0),(14,O J (k:Int))] (H++[⟨29,0,[O J 16,O J 16,.msl (H.length+3) 1 0 256 1 true,.msl (H.length+4) 1 0 64 1 true,.msl (H.length+5) 1 0 64 1 true]⟩,⟨139,0,is x⟩,⟨29,0,[O J 0,O J 0,.slice [] 0 true,.slice [] 0 true,.slice [] 0 true]⟩,⟨5,1,bs y⟩,⟨5,1,bs u⟩,⟨5,1,bs (sst v 5 fd x k)⟩]) _ by exact .a (h1 0 om)
  refine cnt 64 (λk hk ih=> ?_) ?_
  .have b1:=zfo (ze x k);have sl:=zeE v 5 fd x k;have bl:=zi0 (fd:=fd) hn hk;have sv:(bs (sst v 5 fd x k)).set (bps 5 fd k) (.int .u8 (clp (ze x k)))=bs (sst v 5 fd x (k+1)):=by
    conv=>lhs;rw[<-zd5 b1]
    rw[ziZ];rfl
   have po:=λL=>zdE 5 fd k hn hk L;have cp:=λL=>ziX (ze x k) L;refine .round (.e ?_);refine .t (.skip ?_);refine .b (.y [H.length+5] [(37,[0]),(50,[0])] [] [37,45,49] λK hK=> ?_);simp(disch:=omega) only[go_sem,zy,zQ,zj,hx];refine VCj.read (λL hL=>co L (by have:=hL.len;simp at this;omega)) rfl ?_;refine sqz ?_;refine VCj.read (λ_ _=>po _) rfl ?_;simp(disch:=omega) only[go_sem,zy,zQ,zj,hx];refine VCj.read (λ_ _=>cp _) rfl ?_;simp(disch:=omega) only[go_sem,zy,zd,sl,l3,sv];refine hK _ _ ?_;clear hK K;refine .e ?_;exact .a ih
  refine .round (.e ?_);refine .u (.exit ?_);rw[sz];have hs2:=zcw (fd:=fd) (x:=x) hn (show v.length=bln 5 by rw[cl]);refine .e (.v (.tup [.agg [O J 16,O J 16,.msl (H.length+3) 1 0 256 1 true,.msl (H.length+4) 1 0 64 1 true,.msl (H.length+5) 1 0 64 1 true],O J 0]) ?_);refine .base (Fz.tupC ⟨Fz.aggC ⟨.id (.int _ _),.id (.int _ _),Fz.mslC (e:=5) (xs:=(bs y)) om (apn _ _ 3) (by rw[zd];omega) (FzC.refl (zh _ _)),Fz.mslC (e:=5) (xs:=(bs u)) om (apn _ _ 4) (by rw[zd];omega) (FzC.refl (zh _ _)),Fz.mslC (e:=5) (xs:=(bs (zdw v 5 fd x))) om (apn _ _ 5) (by rw[zd];omega) (FzC.refl (zh _ _)),trivial⟩,.id (.int _ _),trivial⟩)
 have cu:cmp ⟨16,16,y,u,v⟩ n=y:=zxk _ _ _ _ _ h4 h5;rw[cu]at hsl cl;rw[cu,zwN _ _ _ _ _ _ h4 h5];simp only[gC h4,gC h5,hsl,l1,l2,l3]at co |-;have sz:=zh3 (fd:=fd) (x:=x) hn (show y.length=bln n by rw[cl]);suffices h1:∀ k:Nat,k<=64->PL prog _ _ [(1,O J 0),(2,O J 0),(3,O J (n:Int)),(4,.bool fd),(6,.ptr H.length 0 0),(11,.ptr (H.length+1) 0 0),(12,.ptr (H.length+2) 0 0),(14,O J (k:Int))] (H++[⟨29,0,[O J 16,O J 16,.msl (H.length+3) 1 0 256 1 true,.msl (H.length+4) 1 0 64 1 true,.msl (H.length+5) 1 0 64 1 true]⟩,⟨139,0,is x⟩,⟨29,0,[O J 0,O J 0,.slice [] 0 true,.slice [] 0 true,.slice [] 0 true]⟩,⟨5,1,bs (sst y n fd x k)⟩,⟨5,1,bs u⟩,⟨5,1,bs v⟩]) _ by exact .a (h1 0 om)
 refine cnt 64 (λk hk ih=> ?_) ?_
 .have b1:=zfo (ze x k);have sl:=zeE y n fd x k;have bl:=zi0 (fd:=fd) hn hk;have sv:(bs (sst y n fd x k)).set (bps n fd k) (.int .u8 (clp (ze x k)))=bs (sst y n fd x (k+1)):=by
   conv=>lhs;rw[<-zd5 b1]
   rw[ziZ];rfl
  have po:=λL=>zdE n fd k hn hk L;have cp:=λL=>ziX (ze x k) L;refine .round (.e ?_);refine .t (.skip ?_);refine .b (.y [H.length+3] [(37,[0]),(50,[0])] [] [37,45,49] λK hK=> ?_);simp(disch:=omega) only[go_sem,zy,zQ,zj,hx];refine VCj.read (λL hL=>co L (by have:=hL.len;simp at this;omega)) rfl ?_;refine sqz ?_;refine VCj.read (λ_ _=>po _) rfl ?_;simp(disch:=omega) only[go_sem,zy,zQ,zj,hx];refine VCj.read (λ_ _=>cp _) rfl ?_;simp(disch:=omega) only[go_sem,zy,zd,sl,l1,sv];refine hK _ _ ?_;clear hK K;refine .e ?_;exact .a ih
 refine .round (.e ?_);refine .u (.exit ?_);rw[sz];have hs2:=zcw (fd:=fd) (x:=x) hn (show y.length=bln n by rw[cl]);refine .e (.v (.tup [.agg [O J 16,O J 16,.msl (H.length+3) 1 0 256 1 true,.msl (H.length+4) 1 0 64 1 true,.msl (H.length+5) 1 0 64 1 true],O J 0]) ?_);refine .base (Fz.tupC ⟨Fz.aggC ⟨.id (.int _ _),.id (.int _ _),Fz.mslC (e:=5) (xs:=(bs (zdw y n fd x))) om (apn _ _ 3) (by rw[zd];omega) (FzC.refl (zh _ _)),Fz.mslC (e:=5) (xs:=(bs u)) om (apn _ _ 4) (by rw[zd];omega) (FzC.refl (zh _ _)),Fz.mslC (e:=5) (xs:=(bs v)) om (apn _ _ 5) (by rw[zd];omega) (FzC.refl (zh _ _)),trivial⟩,.id (.int _ _),trivial⟩)
def flt(A B:Nat):Fm:=⟨((16 * A:Nat):Int),((16 * B:Nat):Int),qA (16 * A * (16 * B)) 128,qA (8 * A * (8 * B)) 128,qA (8 * A * (8 * B)) 128⟩
theorem zxg(A B:Nat):fmc (flt A B)=[O J ((16 * A:Nat):Int),O J ((16 * B:Nat):Int),.slice (bs (qA (16 * A * (16 * B)) 128)) (16 * A * (16 * B)) false,.slice (bs (qA (8 * A * (8 * B)) 128)) (8 * A * (8 * B)) false,.slice (bs (qA (8 * A * (8 * B)) 128)) (8 * A * (8 * B)) false]:=by simp_all[flt,fmc,uQ]
theorem zz9(k:Nat)(hk:k<=64)(H:za):CallOk prog 202 [.int .u64 1,.int .u64 ((64 * k:Nat):Int)] H (.tup [.int .u64 0,.int .u64 ((64 * k:Nat):Int)]) H:=by
 have h:((List.range 65).all λk=>ztq (zjH prog 100000 (.call 202 [.int .u64 1,.int .u64 ((64 * k:Nat):Int)] [])) (.tup [.int .u64 0,.int .u64 ((64 * k:Nat):Int)]))=true:=kr;exact .evalV 100000 (uJ.1 h k (wO.2 om)) (λx hx=>by
  simp only[gM,gL,uA]at hx;rcases hx with rfl|rfl<;>exact .int _ _)
theorem zxt(k:Nat)(hk:k<=64):IntKind.u64.wrap ((64 * k:Nat):Int)=((64 * k:Nat):Int):=by have h:((List.range 65).all λk=>decide (IntKind.u64.wrap ((64 * k:Nat):Int)=((64 * k:Nat):Int)))=true:=kr;grind
theorem zid(n k:Nat)(hn:n=64 * k)(hk:1<=k/\k<=64)(H:za):CallOk prog 141 [.slice [.int .u8 128] 1 true,O J (n:Int)] H (.slice (bs (qA n 128)) n false) H:=by
 have mu:∀ K,CallOk prog 202 [.int .u64 1,.int .u64 (n:Int)] K (.tup [.int .u64 0,.int .u64 (n:Int)]) K:=λK=>by rw[hn];exact zz9 k hk.2 K
 have hz:(qA n [PV.int .u8 0]).flatten=bs (qA n 0):=zbh n;have u1:IntKind.u64.wrap (n:Int)=(n:Int):=by rw[hn];exact zxt k hk.2
 have u2:IntKind.u64.wrap 1=1:=rfl;have hnb:1<=n/\n<=4096:=om;clear hn;refine .go func141 ntmps141 results141 ?_;refine .e (.e ?_);refine .us (.m (nq2 u1 u2) mu ?_);(repeat refine .seq ?_);refine .rgv (P:=prog) [0,6] 26 (.bool false) ?_ ?_ ?_
 .rfl
 .simp(disch:=omega) only[go_sem];(repeat'((refine zg ?_ ?_)<;>intro h<;>(try simp only[nqb]at h)<;>simp(disch:=omega) only[go_sem,h]));all_goals(simp_all[slot,qE])
 refine .us (.e ?_);rw[hz];have mn:min 1 n=1:=om;refine .f (λK k=>by simp(disch:=omega) only[go_sem,zd,uQ,mn];exact k) ?_;refine .l ?_;suffices hloop:∀ k:Nat,1<=k->k<=n->PL prog _ _ [(7,.msl H.length 0 0 n 1 true),(8,O J (k:Int))] (H++[⟨5,0,bs (rpk n k)⟩]) _ by refine .a (hloop 1 om om) rfl ?_;simp_all[zM,rpk,bs,wT]
 intro k hk1 hkn;induction hm:n - k using Nat.strongRecOn generalizing k with
 | _ d ih=>
  have hl:=zoR hkn;refine .round (.e ?_);refine .c (λh=> ?_) (λh=> ?_)
  .have h4:k<n:=by simp_all
   refine .skip (.b ?_);refine .dn λK hK=> ?_;simp(disch:=omega) only[go_sem,zd,hl];refine hK _ _ ?_;clear hK K;have hm1:min (k - 0) (n - k)=min k (n - k):=by rfl
   rw[hm1,dM];have e1:(k:Int)+((min k (n - k):Nat):Int)=((k+min k (n - k):Nat):Int):=om;rw[e1];have e2:qB k (bs (rpk n k))=bs (qA k 128):=by simp_all[zbi,rpk,rM,gH]
   have e3:qB (min k (n - k)) (bs (qA k (128:UInt8)))=bs (qA (min k (n - k)) 128):=by simp_all[zbi,sO]
   have e4:qD (k+(bs (qA (min k (n - k)) (128:UInt8))).length) (bs (rpk n k))=bs (qA (n - (k+min k (n - k))) 0):=by rw[zd,uQ,zbY];congr 1;simp_all[rpk,rL,uQ,uB,vC,rS];omega
   rw[e2,e3,e4];have e5:bs (qA k 128)++(bs (qA (min k (n - k)) 128)++bs (qA (n - (k+min k (n - k))) 0))=bs (rpk n (k+min k (n - k))):=by rw[<-zS,<-zS];unfold rpk;rw[<-gU,sY]
   rw[e5];exact .a (ih (n - (k+min k (n - k))) om (k+min k (n - k)) om om rfl)
  .have h4:k=n:=by grind
   subst h4;refine .exit ?_;rw[zoS];refine .e (.ret ⟨_,rfl,?_⟩);exact .base (Fz.mslC (e:=5) (xs:=bs (qA k 128)) om (hp0 _ _ _) (by simp[zd]) (FzC.refl (zh _ _)))
theorem nAB{A B:Nat}(hA:1<=A/\A<=4)(hB:1<=B/\B<=4):1<=A * B/\A * B<=16:=⟨dS om om,uT hA.2 hB.2⟩
theorem ztK(A B:Nat)(hA:1<=A/\A<=4)(hB:1<=B/\B<=4)(H:za):CallOk prog 80 [O J ((16 * A:Nat):Int),O J ((16 * B:Nat):Int),.int .u8 128,.int .u8 128,.int .u8 128] H (.tup [.agg (fmc (flt A B)),O J 0]) H:=by
 have fz:=λK=>zkO ((16 * A:Nat):Int) ((16 * B:Nat):Int) K;have hfs:fsz ((16 * A:Nat):Int) ((16 * B:Nat):Int)=true:=by simp_all[fsz,gB];omega
 rw[hfs]at fz;have nb:=nAB hA hB;have p1:16 * A * (16 * B)=64 * (4 * (A * B)):=by grind
 have p2:8 * A * (8 * B)=64 * (A * B):=by grind
 have r1:=λK=>zid (16 * A * (16 * B)) _ p1 om K;have r2:=λK=>zid (8 * A * (8 * B)) _ p2 om K;rw[zxg];have b1:16 * A * (16 * B)<=4096:=om;have b2:8 * A * (8 * B)<=4096:=om;have m1:((16 * A:Nat):Int) * ((16 * B:Nat):Int)=((16 * A * (16 * B):Nat):Int):=(wE _ _).symm;have m2:((8 * A:Nat):Int) * ((8 * B:Nat):Int)=((8 * A * (8 * B):Nat):Int):=(wE _ _).symm;have d1:((16 * A:Nat):Int).tdiv 2=((8 * A:Nat):Int):=by grind
 have d2:((16 * B:Nat):Int).tdiv 2=((8 * B:Nat):Int):=by grind
 generalize 16 * A * (16 * B)=n1 at r1 m1 b1 p1 |-;generalize 8 * A * (8 * B)=n2 at r2 m2 b2 p2 |-;generalize qA n1 (128:UInt8)=P at r1 |-;generalize qA n2 (128:UInt8)=Q at r2 |-;refine .go func80 ntmps80 results80 ?_;refine .e (.k fz ?_);refine .us (.g (nq2 d1 (nq2 d2 (nq2 m1 m2))) ?_);refine .f (λK k=>by simp(disch:=omega) only[go_sem];refine VCx.call (r1 _) rfl ?_;simp(disch:=omega) only[go_sem];refine VCx.call (r2 _) rfl ?_;simp(disch:=omega) only[go_sem];refine VCx.call (r2 _) rfl ?_;simp(disch:=omega) only[go_sem];exact k) ?_;refine .v (.tup [.agg [O J ((16 * A:Nat):Int),O J ((16 * B:Nat):Int),.slice (bs P) n1 false,.slice (bs Q) n2 false,.slice (bs Q) n2 false],O J 0]) ?_;exact .base (.id (zC _ _ _ _ _ _ _ _ _ _))
theorem zom(w h:Int)(N1 N2:Nat)(hw:0<=w/\w<=64)(hh:0<=h/\h<=64)(m1:w * h=(N1:Int))(m2:w / 2 * (h / 2)=(N2:Int))(hN:1<=N1/\N1<=4096/\1<=N2/\N2<=4096)(K0:za):CallOk prog 176 [O J w,O J h] (K0++[plc,plc,plc]) (.agg [O J w,O J h,.msl K0.length 1 0 N1 1 true,.msl (K0.length+1) 1 0 N2 1 true,.msl (K0.length+2) 1 0 N2 1 true]) (K0++[zBk N1,zBk N2,zBk N2]):=by
 have d1:w.tdiv 2=w / 2:=zF _ _ om;have d2:h.tdiv 2=h / 2:=zF _ _ om;have z1:(qA N1 [PV.int .u8 0]).flatten=bs (qA N1 0):=zbh N1;have z2:(qA N2 [PV.int .u8 0]).flatten=bs (qA N2 0):=zbh N2;refine .go func176 ntmps176 results176 ?_;refine .g @plc.eq_1 ?_;refine .y [K0.length,K0.length+1,K0.length+2,K0.length+3] [(4,[3]),(10,[0]),(16,[1]),(22,[2])] [(10,0),(16,1),(22,2)] [] λK hK=> ?_;simp(disch:=omega) only[go_sem,zy,plc,d1,d2,m1,m2];refine hK _ _ ?_;rw[z1,z2];refine .v (.agg [O J w,O J h,.msl K0.length 1 0 N1 1 true,.msl (K0.length+1) 1 0 N2 1 true,.msl (K0.length+2) 1 0 N2 1 true]) ?_;refine .cut (A:=K0++[zBk N1,zBk N2,zBk N2]) (gU _ [_,_,_] [_]).symm sp (zqB sp λb hb x hx=> ?_) (.id (zn λx hx=> ?_))
 .simp only[gM,gL,uA]at hb;rcases hb with rfl|rfl|rfl<;>exact zh _ _ x hx
 .simp only[gM,gL,uA]at hx;rcases hx with rfl|rfl|rfl|rfl|rfl
  .exact .int _ _
  .exact .int _ _
  .exact .msl (by simp only[gP,gZ,uS];omega)
  .exact .msl (by simp only[gP,gZ,uS];omega)
  .exact .msl (by simp only[gP,gZ,uS];omega)
theorem zqI(A B:Nat)(hA:1<=A/\A<=4)(hB:1<=B/\B<=4)(H:za):CallOk prog 107 [O J ((16 * A:Nat):Int),O J ((16 * B:Nat):Int),.int .u8 128,.int .u8 128,.int .u8 128] H (.agg (fmc (flt A B))) H:=by
 have nb:=nAB hA hB;have p1:16 * A * (16 * B)=64 * (4 * (A * B)):=by grind
 have p2:8 * A * (8 * B)=64 * (A * B):=by grind
 have b1:1<=16 * A * (16 * B)/\16 * A * (16 * B)<=4096:=om;have b2:1<=8 * A * (8 * B)/\8 * A * (8 * B)<=4096:=om;have m1:((16 * A:Nat):Int) * ((16 * B:Nat):Int)=((16 * A * (16 * B):Nat):Int):=(wE _ _).symm;have d1:((16 * A:Nat):Int) / 2=((8 * A:Nat):Int):=om;have d2:((16 * B:Nat):Int) / 2=((8 * B:Nat):Int):=om;have m2:((16 * A:Nat):Int) / 2 * (((16 * B:Nat):Int) / 2)=((8 * A * (8 * B):Nat):Int):=by grind
 have bl:=zom ((16 * A:Nat):Int) ((16 * B:Nat):Int) _ _ om om m1 m2 om (H++[⟨29,0,[PV.int .i64 0,PV.int .i64 0,PV.slice [] 0 true,PV.slice [] 0 true,PV.slice [] 0 true]⟩]);rw[zxg];generalize 16 * A * (16 * B)=N1 at bl b1 |-;generalize 8 * A * (8 * B)=N2 at bl b2 |-;clear p1 p2 m1 m2 d1 d2;rw[zjV N1 (λ_=>128),zjV N2 (λ_=>128)]at bl;simp only[plc,hl1,gU,uZ,vC,vT,qF]at bl;rw[<-zkR,<-zkR,<-zeU,<-zeU];have fs:=fun(N k:Nat)=>zhw (N:=N) (f:=λ_=>128) (n:=k) (by decide);have fl:=λN k=>zhx N (λ_=>128) k;generalize hw:((16 * A:Nat):Int)=w at bl |-;generalize hh:((16 * B:Nat):Int)=ht at bl |-;refine .body (F0:=[(0,O J w),(1,O J ht),(2,.int .u8 128),(3,.int .u8 128),(4,.int .u8 128)]) func107 rfl ntmps107 results107 rfl kr rfl ?_;refine .e (.view (Vs.place 5) ?_);refine .view (Vs.place 5) ?_;refine .view (Vs.place 5) ?_;refine .f (λK k=>by simp(disch:=omega) only[go_sem];refine VCx.call (bl) rfl ?_;simp(disch:=omega) only[go_sem];exact k) ?_;refine .e (.l ?_);suffices h1:∀ k:Nat,k<=N1->PL prog _ _ [(2,.int .u8 128),(3,.int .u8 128),(4,.int .u8 128),(10,.ptr H.length 0 0),(11,.ptr (H.length+4) 0 0),(12,O J (k:Int))] (H++[⟨29,0,[PV.int .i64 0,PV.int .i64 0,PV.slice [] 0 true,PV.slice [] 0 true,PV.slice [] 0 true]⟩,⟨5,1,bs (flB N1 (λ_=>128) k)⟩,⟨5,1,bs (flB N2 (λ_=>128) 0)⟩,⟨5,1,bs (flB N2 (λ_=>128) 0)⟩,⟨29,0,[O J w,O J ht,.msl (H.length+1) 1 0 N1 1 true,.msl (H.length+2) 1 0 N2 1 true,.msl (H.length+3) 1 0 N2 1 true]⟩]) _ by exact .a (h1 0 om)
 refine cnt N1 (λk hk ih=> ?_) ?_
 .have ct:=zco hk;refine .round (.g ct ?_);refine .t (.skip ?_);refine .b (.f (λK k=>by simp(disch:=omega) only[go_sem,zd,fl,fs];exact k) ?_);refine .e ?_;exact .a ih
 refine .round (.f (λK k=>by simp(disch:=omega) only[go_sem,zcP N1];exact k) ?_);refine .u (.exit ?_);refine .e (.l ?_);suffices h1:∀ k:Nat,k<=N2->PL prog _ _ [(3,.int .u8 128),(4,.int .u8 128),(10,.ptr H.length 0 0),(11,.ptr (H.length+4) 0 0),(13,O J (k:Int))] (H++[⟨29,0,[PV.int .i64 0,PV.int .i64 0,PV.slice [] 0 true,PV.slice [] 0 true,PV.slice [] 0 true]⟩,⟨5,1,bs (flB N1 (λ_=>128) N1)⟩,⟨5,1,bs (flB N2 (λ_=>128) k)⟩,⟨5,1,bs (flB N2 (λ_=>128) k)⟩,⟨29,0,[O J w,O J ht,.msl (H.length+1) 1 0 N1 1 true,.msl (H.length+2) 1 0 N2 1 true,.msl (H.length+3) 1 0 N2 1 true]⟩]) _ by exact .a (h1 0 om)
 refine cnt N2 (λk hk ih=> ?_) ?_
 .have ct:=zco hk;refine .round (.g ct ?_);refine .t (.skip ?_);refine .b (.y [H.length+2,H.length+3] [(37,[0]),(44,[0]),(40,[1]),(45,[1])] [] [] λK hK=> ?_);simp(disch:=omega) only[go_sem,zy,zd,fl,fs];refine hK _ _ ?_;refine .e ?_;exact .a ih
 refine .round (.f (λK k=>by simp(disch:=omega) only[go_sem,zcP N2];exact k) ?_);refine .u (.exit ?_);refine .e (.v (.agg [O J w,O J ht,.msl (H.length+1) 1 0 N1 1 true,.msl (H.length+2) 1 0 N2 1 true,.msl (H.length+3) 1 0 N2 1 true]) ?_);refine .base (Fz.aggC ⟨.id (.int _ _),.id (.int _ _),Fz.mslC (e:=5) (xs:=bs (flB N1 (λ_=>128) N1)) om (apn _ _ 1) (by rw[zd,fl];omega) (FzC.refl (zh _ _)),Fz.mslC (e:=5) (xs:=bs (flB N2 (λ_=>128) N2)) om (apn _ _ 2) (by rw[zd,fl];omega) (FzC.refl (zh _ _)),Fz.mslC (e:=5) (xs:=bs (flB N2 (λ_=>128) N2)) om (apn _ _ 3) (by rw[zd,fl];omega) (FzC.refl (zh _ _)),trivial⟩)
theorem zqi(p:List UInt8)(W R x y vx vy:Int):pxl p W R 0 0 (2 * x+vx) (2 * y+vy)=pxl p W R x y vx vy:=by have e1:(0:Int)+(2 * x+vx) / 2=x+vx / 2:=om;grind[pxl]
theorem zhg(p:List UInt8)(W R:Nat)(x y:Int)(f:Bool)(H:za)(hp:p.length=W * R)(hW:1<=W/\W<=64)(hR:1<=R/\R<=64):
  CallOk prog 288 [.slice (bs p) p.length f,O J (W:Int),O J x,O J y] H (O J (smp p W R x y)) H:=by
 have s1:smp p W R x y=byt p (clm y R * W+clm x W).toNat:=rfl;obtain⟨a,ea,la⟩:=zeZ (i:=x) hW.1;obtain⟨u,eu,lu⟩:=zeZ (i:=y) hR.1;rw[ea,eu]at s1;have bg:W * R<=64 * 64:=uT om om;have k1:=zm0 la lu;have e0:(u:Int) * (W:Int)=((u * W:Nat):Int):=by simp
 have e2:((u * W:Nat):Int)+(a:Int)=((u * W+a:Nat):Int):=om;rw[e0,e2,uV]at s1;rw[s1];have r1:=zR p (u * W+a);have hd:((p.length:Nat):Int).tdiv (W:Int)=(R:Int):=by grind[zF,Int.natCast_mul,Int.mul_ediv_cancel_left]
 have c1:(if(if(R:Int) - 1<y then(R:Int) - 1 else y)>0 then(if(R:Int) - 1<y then(R:Int) - 1 else y)else 0)=(u:Int):=by rw[<-eu];unfold clm;omega
 have c2:(if(if(W:Int) - 1<x then(W:Int) - 1 else x)>0 then(if(W:Int) - 1<x then(W:Int) - 1 else x)else 0)=(a:Int):=by rw[<-ea];unfold clm;omega
 refine .go func288 ntmps288 results288 ?_;refine .e (.g hd ?_);refine .f (λK k=>by simp(disch:=omega) only[go_sem,c1,c2,e0,e2,zak,zd];exact k) ?_;(refine .ret ⟨_,rfl,?_⟩;refine .inl ⟨?_,rfl⟩);rfl
theorem zqC(p:List UInt8)(W R:Nat)(a b:Int)(f:Bool)(H:za)(hp:p.length=W * R)(hW:1<=W/\W<=64)(hR:1<=R/\R<=64)(ha: -200<=a/\a<=400/\-200<=b/\b<=400):
  CallOk prog 285 [.slice (bs p) p.length f,O J (W:Int),O J a,O J b] H (.int .u8 (pxl p W R 0 0 a b)) H:=by
 have a1:=zhp a om;have a2:=zhp b om;have s1:=λL=>zhg p W R (a / 2) (b / 2) f L hp hW hR;have s2:=λL=>zhg p W R (a / 2+a%2) (b / 2) f L hp hW hR;have s3:=λL=>zhg p W R (a / 2) (b / 2+b%2) f L hp hW hR;have s4:=λL=>zhg p W R (a / 2+a%2) (b / 2+b%2) f L hp hW hR;have r1:=zd9 p W R (a / 2) (b / 2);have r2:=zd9 p W R (a / 2+a%2) (b / 2);have r3:=zd9 p W R (a / 2) (b / 2+b%2);have r4:=zd9 p W R (a / 2+a%2) (b / 2+b%2);have hx:a%2=0->smp p W R (a / 2+a%2) (b / 2)=smp p W R (a / 2) (b / 2)/\smp p W R (a / 2+a%2) (b / 2+b%2)=smp p W R (a / 2) (b / 2+b%2):=λh=>by simp_all
 have hy:b%2=0->smp p W R (a / 2) (b / 2+b%2)=smp p W R (a / 2) (b / 2)/\smp p W R (a / 2+a%2) (b / 2+b%2)=smp p W R (a / 2+a%2) (b / 2):=λh=>by simp_all
 have hpx:pxl p W R 0 0 a b=(smp p W R (a / 2) (b / 2)+smp p W R (a / 2+a%2) (b / 2)+smp p W R (a / 2) (b / 2+b%2)+smp p W R (a / 2+a%2) (b / 2+b%2)+2) / 4:=by unfold pxl;simp only[Int.zero_add]
 rw[hpx];generalize smp p W R (a / 2) (b / 2)=S1 at *;generalize smp p W R (a / 2+a%2) (b / 2)=S2 at *;generalize smp p W R (a / 2) (b / 2+b%2)=S3 at *;generalize smp p W R (a / 2+a%2) (b / 2+b%2)=S4 at *;refine .go func285 ntmps285 results285 ?_;refine .e (.g @zeL ?_);refine .g (nq2 a1 a2) ?_;refine .f (λK k=>by simp(disch:=omega) only[go_sem];refine VCx.call (s1 _) rfl ?_;simp(disch:=omega) only[go_sem];refine VCx.call (s2 _) rfl ?_;simp(disch:=omega) only[go_sem];refine VCx.call (s3 _) rfl ?_;simp(disch:=omega) only[go_sem];refine VCx.call (s4 _) rfl ?_;simp(disch:=omega) only[go_sem];exact k) ?_;(repeat refine .seq ?_);refine .rgv (P:=prog) [13] 58 (.bool (decide (a%2=1)&&decide (b%2=1))) ?_ ?_ ?_
 .rfl
 .simp(disch:=omega) only[go_sem];(repeat'((refine zg ?_ ?_)<;>intro h<;>(try simp only[nqb]at h)<;>simp(disch:=omega) only[go_sem,h]));all_goals(clear s1 s2 s3 s4 hx hy hpx a1 a2;(simp_all[slot,qE]<;>rfl))
 refine .c (λh=> ?_) (λh=> ?_)
 .refine .g @zoY ?_;(refine .ret ⟨_,rfl,?_⟩;refine .inl ⟨?_,rfl⟩);rfl
 .have hd:a%2=0\/b%2=0:=by grind
  have td:(S1+S2+S3+S4).tdiv 2=(S1+S2+S3+S4) / 2:=zF _ _ om;have ev:((S1+S2+S3+S4) / 2+1) / 2=(S1+S2+S3+S4+2) / 4:=by omega
  refine .skip (.g (nq2 td (nq2 @zeL ev)) ?_);(refine .ret ⟨_,rfl,?_⟩;refine .inl ⟨?_,rfl⟩);rfl
theorem ziV(p:List UInt8)(W R w hg:Nat)(x y vx vy:Int)(f:Bool)(H:za)(hp:p.length=W * R)(hW:1<=W/\W<=64)(hR:1<=R/\R<=64)(hw:1<=w/\w<=16)(hgb:hg<=16)(hx:0<=x/\x<=64/\0<=y/\y<=64)(hv: -63<=vx/\vx<=63/\-63<=vy/\vy<=63):
  CallOk prog 275 [.slice (bs p) p.length f,O J (W:Int),O J x,O J y,O J (w:Int),O J (hg:Int),O J vx,O J vy] H (.slice (bs (prd p W R x y w hg vx vy)) (w * hg) false) H:=by
 have hbig:hg * w<=16 * 16:=uT hgb hw.2;refine .go func275 ntmps275 results275 ?_;refine .e (.e ?_);refine .e ?_;(repeat refine .seq ?_);refine .view (Vs.ghost 17 5 1 rfl) ?_;refine .l ?_;suffices h1:∀ j:Nat,j<=hg->PL prog _ _ [(0,.slice (bs p) p.length f),(1,O J (W:Int)),(2,O J x),(3,O J y),(4,O J (w:Int)),(5,O J (hg:Int)),(6,O J vx),(7,O J vy),(17,.msl H.length (j * w) 0 (j * w) 1 true),(18,O J (j:Int))] (H++[⟨5,j * w,bs (prk p W R x y w vx vy (j * w))⟩]) _ by exact .a (h1 0 om) (by rw[vV];rfl) (by rw[vV];rfl)
 refine cnt hg (λj hj ih=> ?_) ?_
 .have ct:=zco hj;refine .round (.g ct ?_);refine .t (.skip ?_);refine .b (.e ?_);refine .l ?_;suffices h2:∀ i:Nat,i<=w->PL prog _ _ [(0,.slice (bs p) p.length f),(1,O J (W:Int)),(2,O J x),(3,O J y),(4,O J (w:Int)),(5,O J (hg:Int)),(6,O J vx),(7,O J vy),(17,.msl H.length (j * w+i) 0 (j * w+i) 1 true),(18,O J (j:Int)),(19,O J (i:Int))] (H++[⟨5,j * w+i,bs (prk p W R x y w vx vy (j * w+i))⟩]) _ by exact .a (h2 0 om)
  refine cnt w (λi hi ih2=> ?_) ?_
  .have ct:=zco hi;refine .round (.g ct ?_);refine .t ?_;have b2:(j+1) * w<=hg * w:=gT _ om;rw[vE,wK]at b2;have pl:=zho p W R x y w vx vy (j * w+i);have hf:=λL=>zqC p W R (2 * (x+(i:Int))+vx) (2 * (y+(j:Int))+vy) f L hp hW hR om;rw[zqi]at hf;rw[zl5 _ _ _ _ _ _ _ _ _ _ hi]at ih2;have lp:(bs (prk p W R x y w vx vy (j * w+i))++[PV.int .u8 (pxl p W R (x+(i:Int)) (y+(j:Int)) vx vy)]).length=j * w+(i+1):=by simp[zd,pl];omega
   refine .skip (.b ?_);refine .f (λK k=>by simp(disch:=omega) only[go_sem,zd,pl];refine VCx.call (hf _) rfl ?_;simp(disch:=omega) only[go_sem,zd,pl];exact k) ?_;refine .e ?_;exact .a ih2 (by rw[lp];rfl) (by rw[lp])
  .refine .round (.f (λK k=>by simp(disch:=omega) only[go_sem,zcP w];exact k) ?_);refine .u (.exit ?_);refine .e ?_;exact .a ih (by rw[vE,wK];rfl) (by rw[vE,wK])
 refine .round (.f (λK k=>by simp(disch:=omega) only[go_sem,zcP hg];exact k) ?_);refine .u (.exit ?_);have pl:=zho p W R x y w vx vy (hg * w);refine .e ?_;rw[<-zoZ,dC w hg];refine .ret ⟨_,rfl,?_⟩;exact .base (Fz.mslC (e:=5) (xs:=bs (prk p W R x y w vx vy (hg * w))) om (hp0 _ _ _) (by rw[zd,pl];omega) (FzC.refl (zh _ _)))
theorem ziy(a b:List UInt8)(f g:Bool)(H:za)(hl:a.length=b.length)(ha:a.length<=8192):CallOk prog 243 [.slice (bs a) a.length f,.slice (bs b) b.length g] H (.slice (bs (mnb a b)) a.length false) H:=by
 have ee:mnb a b=rgB a.length (λi=>(byt a i+byt b i+1) / 2):=rfl;have sn:∀ k,bs (rgB (k+1) (λi=>(byt a i+byt b i+1) / 2))=bs (rgB k (λi=>(byt a i+byt b i+1) / 2))++[.int .u8 ((byt a k+byt b k+1) / 2)]:=λk=>by have r1:=zR a k;have r2:=zR b k;grind[zl0,zS,zul,zd5]
 have ln:∀ k,(rgB k (λi=>(byt a i+byt b i+1) / 2)).length=k:=λk=>zcT _ _;rw[ee];refine .go func243 ntmps243 results243 ?_;refine .e (.e ?_);refine .e ?_;(repeat refine .seq ?_);refine .view (Vs.ghost 5 5 1 rfl) ?_;refine .l ?_;suffices h1:∀ k:Nat,k<=a.length->PL prog _ _ [(0,.slice (bs a) a.length f),(1,.slice (bs b) b.length g),(5,.msl H.length k 0 k 1 true),(6,O J (k:Int))] (H++[⟨5,k,bs (rgB k (λi=>(byt a i+byt b i+1) / 2))⟩]) _ by exact .a (h1 0 om)
 refine cnt a.length (λk hk ih=> ?_) ?_
 .have ct:=zco hk;have r1:=zR a k;have r2:=zR b k;rw[sn]at ih;have lk:=ln k;have lp:(bs (rgB k (λi=>(byt a i+byt b i+1) / 2))++[PV.int .u8 ((byt a k+byt b k+1) / 2)]).length=k+1:=by simp[zd,lk]
  generalize bs (rgB k (λi=>(byt a i+byt b i+1) / 2))=Q at *;have lQ:Q.length=k:=by simp_all
  refine .round (.g ct ?_);refine .t (.skip ?_);refine .b (.y [H.length] [(5,[0]),(13,[0]),(29,[0])] [] [] λK hK=> ?_);simp(disch:=omega) only[go_sem,zy,zak,zd,zeL,lQ];refine hK _ _ ?_;refine .e ?_;exact .a ih (by rw[lp];rfl) (by rw[lp])
 refine .round (.f (λK k=>by simp(disch:=omega) only[go_sem,zcP a.length];exact k) ?_);refine .u (.exit ?_);refine .e (.ret ⟨_,rfl,?_⟩);exact .base (Fz.mslC (e:=5) (xs:=bs (rgB a.length (λi=>(byt a i+byt b i+1) / 2))) om (hp0 _ _ _) (by rw[zd,ln];omega) (FzC.refl (zh _ _)))
theorem zmZ(a b:Fm)(ha:F16 a)(hb:F16 b)(H:za):CallOk prog 183 [.agg (fmc a),.agg (fmc b)] H (.tup [.agg (fmc (mnF a b)),O J 0]) H:=by
 have fa:=λK=>zaU a K;have fb:=λK=>zaU b K;have va:=ha.fvd;have vb:=hb.fvd;unfold fvd at va vb;rw[gB]at va vb;rw[va.1]at fa;rw[vb.1]at fb;rw[zw2 ha];obtain⟨w,ht,y,u,v⟩:=a;obtain⟨w',ht',y',u',v'⟩:=b;obtain⟨hw,hh,l1,l2,l3⟩:=ha;obtain⟨hw',hh',l1',l2',l3'⟩:=hb;simp only at hw hh l1 l2 l3 hw' hh' l1' l2' l3';subst hw hh hw' hh';have m1:=λK=>ziy y y' false false K om om;have m2:=λK=>ziy u u' false false K om om;have m3:=λK=>ziy v v' false false K om om;simp only[fmc,l1,l2,l3,l1',l2',l3']at fa fb m1 m2 m3 |-;refine .body (F0:=[(0,.agg [O J 16,O J 16,.slice (bs y) 256 false,.slice (bs u) 64 false,.slice (bs v) 64 false]),(1,.agg [O J 16,O J 16,.slice (bs y') 256 false,.slice (bs u') 64 false,.slice (bs v') 64 false])]) func183 rfl ntmps183 results183 rfl kr rfl ?_;refine .e ?_;(repeat refine .seq ?_);refine .rgv (P:=prog) [2,3,4] 27 (.bool false) ?_ ?_ ?_
 .rfl
 .simp(disch:=omega) only[go_sem];(repeat'(((first|refine VCx.call (fa _) rfl ?_|refine VCx.call (fb _) rfl ?_);simp(disch:=omega) only[go_sem])));all_goals(simp_all[slot,qE])
 refine .us (.dn λK hK=> ?_);simp(disch:=omega) only[go_sem];(repeat'(((first|refine VCy.call (m1 _) rfl ?_|refine VCy.call (m2 _) rfl ?_|refine VCy.call (m3 _) rfl ?_);simp(disch:=omega) only[go_sem])));refine hK _ _ ?_;clear hK K;refine .v (.tup [.agg [O J 16,O J 16,.slice (bs (mnb y y')) 256 false,.slice (bs (mnb u u')) 64 false,.slice (bs (mnb v v')) 64 false],O J 0]) ?_;exact .base (.id (zC _ _ _ _ _ _ _ _ _ _))
theorem zge(a b:List UInt8)(w m:Nat)(f g:Bool)(H:za)(ha:a.length=m * w)(hb:b.length=m * w)(hw:1<=w/\w<=64)(hm:m<=64):CallOk prog 114 [.slice (bs a) a.length f,.slice (bs b) b.length g,O J (w:Int)] H (.slice (bs (wov a b w m)) (m * (2 * w)) false) H:=by
 have hbig:m * w<=64 * 64:=uT hm hw.2;refine .go func114 ntmps114 results114 ?_;refine .e (.e ?_);refine .e ?_;(repeat refine .seq ?_);refine .view (Vs.ghost 7 5 1 rfl) ?_;refine .l ?_;suffices h1:∀ k:Nat,k<=m->PL prog _ _ [(0,.slice (bs a) a.length f),(1,.slice (bs b) b.length g),(2,O J (w:Int)),(7,.msl H.length (k * (2 * w)) 0 (k * (2 * w)) 1 true),(8,O J ((k * w:Nat):Int))] (H++[⟨5,k * (2 * w),bs (wov a b w k)⟩]) _ by exact .a (h1 0 om) (by rw[vV,vV];rfl) (by rw[vV];rfl)
 refine cnt m (λk hk ih=> ?_) ?_
 .have b1:(k+1) * w<=m * w:=gT _ om;have b2:(k+1) * w=k * w+w:=by grind
  have ct:decide (((k * w:Nat):Int)<((a.length:Nat):Int))=true:=gX om;have e1:((k * w:Nat):Int)+(w:Int)=((k * w+w:Nat):Int):=om;have e3:k * w+w - k * w=w:=om;have ra:=zaZ ha hk;have rb:=zaZ hb hk;have wl:=zaN ha hb k om;have wb:k * (2 * w)<=8192:=by grind
  rw[zhI,zS,zS]at ih;have l1:(bs (wov a b w k)).length=k * (2 * w):=by rw[zd,wl]
  have l2:(bs ((a.drop (k * w)).take w)).length=w:=by rw[zd,ra]
  have l3:(bs ((b.drop (k * w)).take w)).length=w:=by rw[zd,rb]
  have lp:(k+1) * (2 * w)=k * (2 * w)+w+w:=by grind
  have l4:(bs (wov a b w k)++bs ((a.drop (k * w)).take w)).length=k * (2 * w)+w:=by simp_all
  have l5:(bs (wov a b w k)++(bs ((a.drop (k * w)).take w)++bs ((b.drop (k * w)).take w))).length=k * (2 * w)+w+w:=by grind
  refine .round (.g ct ?_);refine .t (.skip ?_);refine .b ?_;rw[lp,b2]at ih;refine .y [H.length] [(7,[0]),(16,[0]),(23,[0]),(30,[0])] [] [] λK hK=> ?_;simp(disch:=omega) only[go_sem,zy,e1,e3,zd,zbY,zbi,l1,l2,l3,ra,rb,wl,l4,l5,Option.toArray_some,Option.toArray_none];refine hK _ _ ?_;refine .g e1 ?_;exact .a ih
 have cf:decide (((m * w:Nat):Int)<((a.length:Nat):Int))=false:=gW om;refine .round (.g cf ?_);refine .u (.exit ?_);refine .e (.ret ⟨_,rfl,?_⟩);exact .base (Fz.mslC (e:=5) (xs:=bs (wov a b w m)) om (hp0 _ _ _) (by rw[zd,zaN ha hb m (gV _)];omega) (FzC.refl (zh _ _)))
theorem ziA(x y:Int)(H:za):CallOk prog 274 [.agg [O J x,O J y]] H (.bool (vrg x y)) H:=by refine .go func274 ntmps274 results274 ?_;(repeat'(first|refine .seq ?_|((refine .rg rfl λK hK=> ?_);simp(disch:=omega) only[go_sem])|((refine zg ?_ ?_)<;>intro h<;>(try simp only[nqb]at h)<;>simp(disch:=omega) only[go_sem,h])|(refine hK _ _ ?_)));all_goals((refine .ret ⟨_,rfl,?_⟩;refine .base (.id' ?_ (.bool _)));(simp_all[vrg,win,slot,qE]<;>omega))
theorem zoB(x:Int):(x.tmod 2 !=0)= !decide (x%2=0):=by grind
theorem zdD(f:Fm)(x y vx vy:Int)(hg:Nat)(hgb:hg=8\/hg=16)(hb: -100000<=x/\x<=100000/\-100000<=y/\y<=100000)(H:za):
  CallOk prog 241 [.agg (fmc f),O J x,O J y,O J 16,O J (hg:Int),.agg [O J vx,O J vy]] H (.tup [.agg (fmc (zeh f x y hg vx vy).1),O J (zeh f x y hg vx vy).2]) H:=by
 have fo:=λK=>zaU f K;have vo:=λK=>ziA vx vy K;generalize hr:zeh f x y hg vx vy=r;obtain⟨w,ht,Y,U,V⟩:=f;by_cases hf:fmd ⟨w,ht,Y,U,V⟩=true;case neg=>
  have hf:fmd ⟨w,ht,Y,U,V⟩=false:=by simp_all
  rw[hf]at fo;rw[zeh,hf,vB,gC sp]at hr;simp only[fmc]at fo |-;refine .body (F0:=[(0,.agg [O J w,O J ht,.slice (bs Y) Y.length false,.slice (bs U) U.length false,.slice (bs V) V.length false]),(1,O J x),(2,O J y),(3,O J 16),(4,O J (hg:Int)),(5,.agg [O J vx,O J vy])]) func241 rfl ntmps241 results241 rfl kr rfl ?_;refine .e ?_;(repeat refine .seq ?_);refine .rgv (P:=prog) [12,13] 62 (.bool true) ?_ ?_ ?_
  .rfl
  .simp(disch:=omega) only[go_sem];(repeat'(((refine VCx.call (fo _) rfl ?_);simp(disch:=omega) only[go_sem])));all_goals(simp_all[slot,qE]<;>(rw[gJ];simp;done))
  refine .t (.e ?_);refine .v (.tup [.agg [O J 0,O J 0,.slice [] 0 true,.slice [] 0 true,.slice [] 0 true],O J 1]) ?_;rw[<-hr];exact .base (fz0 _ _ _)
 rw[hf]at fo;rw[zeh,hf,uP]at hr;obtain⟨A,B,a1,a2,b1,b2,ew,eh,ly,lu,lv⟩:=zpq hf;simp only at ew eh ly lu lv;subst ew eh;simp only[fmc]at fo |-;refine .body (F0:=[(0,.agg [O J ((2 * A:Nat):Int),O J ((2 * B:Nat):Int),.slice (bs Y) Y.length false,.slice (bs U) U.length false,.slice (bs V) V.length false]),(1,O J x),(2,O J y),(3,O J 16),(4,O J (hg:Int)),(5,.agg [O J vx,O J vy])]) func241 rfl ntmps241 results241 rfl kr rfl ?_;refine .e ?_;(repeat refine .seq ?_);refine .rgv (P:=prog) [1,2,3,4,6,11,12,13] 62 (.bool (!(zc5 ⟨((2 * A:Nat):Int),((2 * B:Nat):Int),Y,U,V⟩ x y hg))) ?_ ?_ ?_
 .rfl
 .clear hr vo;rcases hgb with rfl|rfl;all_goals(simp(disch:=omega) only[go_sem];(repeat'(first|((refine zg ?_ ?_)<;>intro h<;>(try simp only[nqb]at h)<;>simp(disch:=omega) only[go_sem,zoB,h])|((refine VCx.call (fo _) rfl ?_);simp(disch:=omega) only[go_sem,zoB]))))
  all_goals(clear fo;(simp_all[zc5,slot,qE]<;>(rw[gJ];simp;done)))
 refine .c (λh=> ?_) (λh=> ?_)
 .have hp:zc5 ⟨((2 * A:Nat):Int),((2 * B:Nat):Int),Y,U,V⟩ x y hg=false:=by simpa using h
  rw[hp,gC sp]at hr;refine .e (.v (.tup [.agg [O J 0,O J 0,.slice [] 0 true,.slice [] 0 true,.slice [] 0 true],O J 1]) ?_);rw[<-hr];exact .base (fz0 _ _ _)
 have hp:zc5 ⟨((2 * A:Nat):Int),((2 * B:Nat):Int),Y,U,V⟩ x y hg=true:=by simpa using h
 rw[hp,gD rfl]at hr;refine .skip (.k vo ?_);refine .c (λh=> ?_) (λh=> ?_)
 .have hv:vrg vx vy=false:=by simpa using h
  rw[hv,gC sp]at hr;refine .e (.v (.tup [.agg [O J 0,O J 0,.slice [] 0 true,.slice [] 0 true,.slice [] 0 true],O J 2]) ?_);rw[<-hr];exact .base (fz0 _ _ _)
 have hv:vrg vx vy=true:=by simpa using h
 rw[hv,gD rfl]at hr;refine .skip ?_;have hvb: -63<=vx/\vx<=63/\-63<=vy/\vy<=63:=by simp[vrg,win]at hv;omega
 simp only[zc5,gB,gY]at hp;obtain⟨p1,p2,p3,p4,p5,p6⟩:=hp;have d1:((2 * A:Nat):Int).tdiv 2=(A:Int):=by simp_all
 have d2:((2 * B:Nat):Int).tdiv 2=(B:Int):=by simp_all
 have d3:x.tdiv 2=x / 2:=zF _ _ om;have d4:y.tdiv 2=y / 2:=zF _ _ om;have d5:(hg:Int).tdiv 2=((hg / 2:Nat):Int):=by rfl
 have d6:(16:Int).tdiv 2=8:=rfl;have t1: -63<=vx.tdiv 2/\vx.tdiv 2<=63:=by grind
 have t2: -63<=vy.tdiv 2/\vy.tdiv 2<=63:=by grind
 have c1:=λK=>ziV Y (2 * A) (2 * B) 16 hg x y vx vy false K ly om om om om om hvb;have c2:=λK=>ziV U A B 8 (hg / 2) (x / 2) (y / 2) (vx.tdiv 2) (vy.tdiv 2) false K lu om om om om om om;have c3:=λK=>ziV V A B 8 (hg / 2) (x / 2) (y / 2) (vx.tdiv 2) (vy.tdiv 2) false K lv om om om om om om;have q1:(zaR ⟨((2 * A:Nat):Int),((2 * B:Nat):Int),Y,U,V⟩ x y hg vx vy).y=prd Y ((2 * A:Nat):Int) ((2 * B:Nat):Int) x y 16 hg vx vy:=rfl;have dA:((2 * A:Nat):Int) / 2=(A:Int):=om;have dB:((2 * B:Nat):Int) / 2=(B:Int):=om;have q2:(zaR ⟨((2 * A:Nat):Int),((2 * B:Nat):Int),Y,U,V⟩ x y hg vx vy).u=prd U (A:Int) (B:Int) (x / 2) (y / 2) 8 (hg / 2) (vx.tdiv 2) (vy.tdiv 2):=by show prd U (((2 * A:Nat):Int) / 2) (((2 * B:Nat):Int) / 2) _ _ _ _ _ _=_;rw[dA,dB]
 have q3:(zaR ⟨((2 * A:Nat):Int),((2 * B:Nat):Int),Y,U,V⟩ x y hg vx vy).v=prd V (A:Int) (B:Int) (x / 2) (y / 2) 8 (hg / 2) (vx.tdiv 2) (vy.tdiv 2):=by show prd V (((2 * A:Nat):Int) / 2) (((2 * B:Nat):Int) / 2) _ _ _ _ _ _=_;rw[dA,dB]
 have hc:=znx ⟨((2 * A:Nat):Int),((2 * B:Nat):Int),Y,U,V⟩ x y hg vx vy;rw[q1,q2,q3]at hc;generalize prd Y ((2 * A:Nat):Int) ((2 * B:Nat):Int) x y 16 hg vx vy=PY at c1 hc;generalize prd U (A:Int) (B:Int) (x / 2) (y / 2) 8 (hg / 2) (vx.tdiv 2) (vy.tdiv 2)=PU at c2 hc;generalize prd V (A:Int) (B:Int) (x / 2) (y / 2) 8 (hg / 2) (vx.tdiv 2) (vy.tdiv 2)=PV1 at c3 hc;have hcr:fmc r.1=[O J 16,O J (hg:Int),.slice (bs PY) (16 * hg) false,.slice (bs PU) (8 * (hg / 2)) false,.slice (bs PV1) (8 * (hg / 2)) false]:=by grind
 have hcr2:r.2=0:=by rw[<-hr]
 simp only[fmc]at hcr;rw[hcr,hcr2];clear hr q1 q2 q3 hc hcr;refine .dn λK hK=> ?_;simp(disch:=omega) only[go_sem,d1,d2,d3,d4,d5,d6];(repeat'(((first|refine VCy.call (c1 _) rfl ?_|refine VCy.call (c2 _) rfl ?_|refine VCy.call (c3 _) rfl ?_);simp(disch:=omega) only[go_sem,d1,d2,d3,d4,d5,d6])));refine hK _ _ ?_;clear hK K;refine .v (.tup [.agg [O J 16,O J (hg:Int),.slice (bs PY) (16 * hg) false,.slice (bs PU) (8 * (hg / 2)) false,.slice (bs PV1) (8 * (hg / 2)) false],O J 0]) ?_;exact .base (.id (zC _ _ _ _ _ _ _ _ _ _))
theorem zn9(f:Fm)(s:Int)(hf:fvd f=true)(h32:f.h%32=0)(hs:s=0\/s=1)(L:za):CallOk prog 104 [.agg (fmc f),O J s] L (.tup [.agg (fmc (zo f s)),O J 0]) L:=by
 obtain⟨w,ht,y,u,v⟩:=f;obtain⟨V,K,rfl,rfl,hok⟩:=zdM hf h32;obtain⟨P,hP,rfl⟩:∃ P:Nat,P<=1/\s=(P:Int):=by
  rcases hs with e|e
  .exact⟨0,om,om⟩
  .exact⟨1,om,om⟩
 have e1:=zaW V K P y u v;grind[zjF,fr4]
theorem zgh(V K:Nat)(a b:Fm)(ha:Hok V K a)(hb:Hok V K b)(H:za):CallOk prog 59 [.agg (fmc a),.agg (fmc b)] H (.tup [.agg (fmc (zjY V K a b)),O J 0]) H:=by
 have fa:=λL=>zaU a L;have fb:=λL=>zaU b L;rw[ha.fmd]at fa;rw[hb.fmd]at fb;obtain⟨w,ht,y,u,v⟩:=a;obtain⟨w',ht',y',u',v'⟩:=b;obtain⟨hw,hh,⟨v1,v2⟩,⟨k1,k2⟩,ly,lu,lv⟩:=ha;obtain⟨hw',hh',_,_,ly',lu',lv'⟩:=hb;simp only at hw hh ly lu lv hw' hh' ly' lu' lv';subst hw hh hw' hh';have w1:=λL=>zge y y' (2 * V) (2 * K) false false L ly ly' om om;have w2:=λL=>zge u u' V K false false L lu lu' om om;have w3:=λL=>zge v v' V K false false L lv lv' om om;have n1:=zaN ly ly' (2 * K) (gV _);have n2:=zaN lu lu' K (gV _);have n3:=zaN lv lv' K (gV _);have d1:((2 * V:Nat):Int).tdiv 2=(V:Int):=by simp_all
 have d2:(2:Int) * ((2 * K:Nat):Int)=((4 * K:Nat):Int):=om;have hr:fmc (zjY V K ⟨((2 * V:Nat):Int),((2 * K:Nat):Int),y,u,v⟩ ⟨((2 * V:Nat):Int),((2 * K:Nat):Int),y',u',v'⟩)=[O J ((2 * V:Nat):Int),O J ((4 * K:Nat):Int),.slice (bs (wov y y' (2 * V) (2 * K))) (2 * K * (2 * (2 * V))) false,.slice (bs (wov u u' V K)) (K * (2 * V)) false,.slice (bs (wov v v' V K)) (K * (2 * V)) false]:=by simp_all[zjY,fmc]
 rw[hr];simp only[fmc]at fa fb |-;refine .body (F0:=[(0,.agg [O J ((2 * V:Nat):Int),O J ((2 * K:Nat):Int),.slice (bs y) y.length false,.slice (bs u) u.length false,.slice (bs v) v.length false]),(1,.agg [O J ((2 * V:Nat):Int),O J ((2 * K:Nat):Int),.slice (bs y') y'.length false,.slice (bs u') u'.length false,.slice (bs v') v'.length false])]) func59 rfl ntmps59 results59 rfl kr rfl ?_;refine .e ?_;(repeat refine .seq ?_);refine .rgv (P:=prog) [2,3,4] 33 (.bool false) ?_ ?_ ?_
 .rfl
 .clear w1 w2 w3;simp(disch:=omega) only[go_sem];(repeat'(((first|refine VCx.call (fa _) rfl ?_|refine VCx.call (fb _) rfl ?_);simp(disch:=omega) only[go_sem,d2])));all_goals(clear fa fb;(simp_all[slot,qE]))
 refine .us (.dn λK hK=> ?_);simp(disch:=omega) only[go_sem,d1,d2];(repeat'(((first|refine VCy.call (w1 _) rfl ?_|refine VCy.call (w2 _) rfl ?_|refine VCy.call (w3 _) rfl ?_);simp(disch:=omega) only[go_sem,d1,d2])));refine hK _ _ ?_;clear hK K;refine .v (.tup [.agg [O J ((2 * V:Nat):Int),O J ((4 * K:Nat):Int),.slice (bs (wov y y' (2 * V) (2 * K))) (2 * K * (2 * (2 * V))) false,.slice (bs (wov u u' V K)) (K * (2 * V)) false,.slice (bs (wov v v' V K)) (K * (2 * V)) false],O J 0]) ?_;exact .base (.id (zC _ _ _ _ _ _ _ _ _ _))
theorem zn8(f:Fm)(mx my va vb vc vd sa sb:Int)(hsa:sa=0\/sa=1)(hsb:sb=0\/sb=1)(hv1:vrg va vb=true)(hv2:vrg vc vd=true)(H:za):
  CallOk prog 240 [.agg (fmc f),O J mx,O J my,.agg [O J va,O J vb,O J vc,O J vd],.agg [O J sa,O J sb]] H (.tup [.agg (fmc (ze4 f mx my va vb vc vd sa sb).1),O J (ze4 f mx my va vb vc vd sa sb).2]) H:=by
 have ho:=λL=>zfX f mx my L;generalize hr:ze4 f mx my va vb vc vd sa sb=r;by_cases hc:(zcD f mx my&&decide (f.h%32=0))=true;case neg=>
  have hc':(zcD f mx my&&decide (f.h%32=0))=false:=by simp_all
  rw[ze4,gC hc]at hr;have hp:zcD f mx my=true->0<=f.h:=λhm=>by simp_all[zcD,gB,zfZ];omega
  generalize zcD f mx my=bh at ho hc' hp;clear hc;obtain⟨w,ht,y,u,v⟩:=f;simp only[fmc]at ho hc' hp |-;refine .body (F0:=[(0,.agg [O J w,O J ht,.slice (bs y) y.length false,.slice (bs u) u.length false,.slice (bs v) v.length false]),(1,O J mx),(2,O J my),(3,.agg [O J va,O J vb,O J vc,O J vd]),(4,.agg [O J sa,O J sb])]) func240 rfl ntmps240 results240 rfl kr rfl ?_;refine .e ?_;(repeat refine .seq ?_);refine .rgv (P:=prog) [10,11] 46 (.bool true) ?_ ?_ ?_
  .rfl
  .clear hr hv1 hv2;cases bh
   .simp(disch:=omega) only[go_sem];(repeat'(((refine VCx.call (ho _) rfl ?_);simp(disch:=omega) only[go_sem])));all_goals(simp_all[slot,qE])
   .have h0:=hp rfl;have hm:(ht.tmod 32 !=0)=true:=by grind
    simp(disch:=omega) only[go_sem];(repeat'(((refine VCx.call (ho _) rfl ?_);simp(disch:=omega) only[go_sem,hm])));all_goals(simp_all[slot,qE])
  refine .t (.e ?_);refine .v (.tup [.agg [O J 0,O J 0,.slice [] 0 true,.slice [] 0 true,.slice [] 0 true],O J 1]) ?_;rw[<-hr];exact .base (fz0 _ _ _)
 rw[ze4,gD hc]at hr;have hc2:=hc;rw[gB,gY]at hc2;obtain⟨hm,h32⟩:=hc2;have ga:=zfC hm h32 hsa hv1;have gb:=zfC hm h32 hsb hv2;rw[hm]at ho;simp only[zcD,gB,gY]at hm;obtain⟨hf,m1,m2,m3,m4⟩:=hm;have hb:=zfZ hf;obtain⟨A0,B0,a1,a2,b1,b2,ew,eh,_⟩:=hb;have hmb:mx<=3/\my<=3:=om;have hm0:(f.h.tmod 32 !=0)=false:=by grind
 have pa:=λL=>zdD (zo f sa) (16 * mx) (8 * my) va vb 8 (.inl rfl) om L;have pb:=λL=>zdD (zo f sb) (16 * mx) (8 * my) vc vd 8 (.inl rfl) om L;rw[ga]at pa;rw[gb]at pb;have w1:=λL=>zgh 8 4 _ _ (zfD (zo f sa) (16 * mx) (8 * my) va vb) (zfD (zo f sb) (16 * mx) (8 * my) vc vd) L;have wc:=(zjZ (zo f sa) (zo f sb) (16 * mx) (8 * my) (16 * mx) (8 * my) va vb vc vd).c;simp only[zq5]at w1;have fa:=λL=>zn9 f sa hf h32 hsa L;have fb:=λL=>zn9 f sb hf h32 hsb L;have ma:=λL=>ziA va vb L;have mb:=λL=>ziA vc vd L;rw[hv1]at ma;rw[hv2]at mb;have hr1:fmc r.1=fmc (zm9 (zaR (zo f sa) (16 * mx) (8 * my) 8 va vb) (zaR (zo f sb) (16 * mx) (8 * my) 8 vc vd)):=by rw[<-hr]
 have hr2:r.2=0:=by rw[<-hr]
 rw[hr1,hr2,wc];rw[wc]at w1;simp only[zsn]at pa pb w1;generalize zm9 (zaR (zo f sa) (16 * mx) (8 * my) 8 va vb) (zaR (zo f sb) (16 * mx) (8 * my) 8 vc vd)=W at w1 |-;generalize zaR (zo f sa) (16 * mx) (8 * my) 8 va vb=PA at pa w1;generalize zaR (zo f sb) (16 * mx) (8 * my) 8 vc vd=PB at pb w1;generalize zo f sa=FA at fa pa;generalize zo f sb=FB at fb pb;clear hr hr1 hr2 wc ga gb hc hf ew eh;obtain⟨w,ht,y,u,v⟩:=f;obtain⟨aw,ah,ay,au,av⟩:=FA;obtain⟨bw,bh,by',bu,bv⟩:=FB;simp only[fmc]at ho fa fb pa pb h32 m2 m4 hm0 |-;have n1:decide (sa=0)=false->sa=1:=λh=>by simp_all
 have n2:decide (sb=0)=false->sb=1:=λh=>by simp_all
 refine .body (F0:=[(0,.agg [O J w,O J ht,.slice (bs y) y.length false,.slice (bs u) u.length false,.slice (bs v) v.length false]),(1,O J mx),(2,O J my),(3,.agg [O J va,O J vb,O J vc,O J vd]),(4,.agg [O J sa,O J sb])]) func240 rfl ntmps240 results240 rfl kr rfl ?_;refine .e ?_;(repeat refine .seq ?_);refine .rgv (P:=prog) [1,2,5,8,9,10,11] 46 (.bool false) ?_ ?_ ?_
 .rfl
 .clear fa fb pa pb w1 ma mb;simp(disch:=omega) only[go_sem];(repeat'(first|((refine zg ?_ ?_)<;>intro h<;>(try simp only[nqb]at h)<;>simp(disch:=omega) only[go_sem,hm0,h])|((refine VCx.call (ho _) rfl ?_);simp(disch:=omega) only[go_sem,hm0])));all_goals(clear ho;rcases hsa with rfl|rfl<;>rcases hsb with rfl|rfl<;>simp_all[slot,qE])
 refine .us ?_;(repeat refine .seq ?_);refine .rgv (P:=prog) [1,2,5,8,9,10,11] 57 (.bool false) ?_ ?_ ?_
 .rfl
 .clear fa fb pa pb w1 ho;simp(disch:=omega) only[go_sem];(repeat'(((first|refine VCx.call (ma _) rfl ?_|refine VCx.call (mb _) rfl ?_);simp(disch:=omega) only[go_sem])));all_goals(simp_all[slot,qE])
 refine .us (.k fa ?_);refine .k fb ?_;refine .k pa ?_;refine .k pb ?_;refine .k w1 ?_;refine .v (.tup [.agg [O J 16,O J 16,.slice (bs W.y) 256 false,.slice (bs W.u) 64 false,.slice (bs W.v) 64 false],O J 0]) ?_;exact .base (.id (zC _ _ _ _ _ _ _ _ _ _))
section
variable {c:Cx} {s:Sq} {al:Bool} {q:Int} {m:Mb} {pa fu fi:Fm} {X Y:Int}
end
end Go.Proofs.YtleejngibkbjnaaGreatDoor.Sc
