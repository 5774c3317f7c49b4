/-
  Parts of the proof. No condition.
-/
import Derived.Test.YtleejngibkbjnaaGreatDoorW14
open Go.Proofs.YtleejngibkbjnaaGreatDoor.Pm.PV renaming int → O
open Go.IntKind renaming i64 → J
open List renaming take → qA, drop → qB
open Go.Proofs.Tryz
set_option linter.all false
set_option maxRecDepth 100000
set_option maxHeartbeats 32000000
namespace Go.Proofs.YtleejngibkbjnaaGreatDoor.Sc
open Pm Ty Go.RowKit
def t16(n:Int):Int:=if n<0\/n>1000 then -1 else 16 * n
theorem zoI(n:Int)(H:za):CallOk prog 242 [O J n] H (O J (t16 n)) H:=by unfold t16;refine .go func242 ntmps242 results242 ?_;(repeat'(first|refine .seq ?_|refine .skip ?_|((refine .rg rfl λK hK=> ?_);simp(disch:=omega) only[go_sem])|((refine zg ?_ ?_)<;>intro h<;>(try simp only[nqb]at h)<;>simp(disch:=omega) only[go_sem,h])|(refine hK _ _ ?_)|(refine .cond (t:=_) rfl (λh=> ?_) (λh=> ?_)<;>(try(cases h;done))<;>(try simp only[nqb]at h))));all_goals((refine .ret ⟨_,rfl,?_⟩;refine .inl ⟨?_,rfl⟩);(simp_all[slot,Nat.beq]<;>omega))
theorem zyg(f:Fm)(mx my vx vy:Int):zeh f (t16 mx) (t16 my) 16 vx vy=zja f mx my vx vy:=by
 unfold zeh zja;by_cases hf:fmd f=true
 .have hb:f.w<=64/\f.h<=64:=by unfold fmd at hf;rw[gB]at hf;have:=za8 hf.1;omega
  by_cases hc:0<=mx/\16 * mx+16<=f.w/\0<=my/\16 * my+16<=f.h
  .have e1:t16 mx=16 * mx:=gC om;have e2:t16 my=16 * my:=gC om;have h1:zc5 f (16 * mx) (16 * my) ((16:Nat):Int)=true:=by simp only[zc5,gB,gY];omega
   have h2:(fmd f&&(decide (0<=mx)&&(decide (16 * mx+16<=f.w)&&(decide (0<=my)&&decide (16 * my+16<=f.h)))))=true:=by simp only[hf,uP,gB,gY];exact hc
   rw[e1,e2,gD h2,hf,h1,gD (by rfl)]
  .have h1:zc5 f (t16 mx) (t16 my) ((16:Nat):Int)=false:=by
    rw[sX];intro h;simp only[zc5,gB,gY]at h;obtain⟨q1,q2,q3,q4,q5,q6⟩:=h;have hx:t16 mx=16 * mx\/t16 mx= -1:=by unfold t16;split<;>simp
    have hy:t16 my=16 * my\/t16 my= -1:=by unfold t16;split<;>simp
    apply hc;rcases hx with e|e<;>rcases hy with e'|e'<;>omega
   have h2:¬(fmd f&&(decide (0<=mx)&&(decide (16 * mx+16<=f.w)&&(decide (0<=my)&&decide (16 * my+16<=f.h)))))=true:=by simp only[gB,gY];omega
   rw[h1,mN,gC sp,gC h2]
 .have hf':fmd f=false:=by simpa using hf
  rw[hf',vB,vB];rfl
theorem zrC(n:Int): -1<=t16 n/\t16 n<=16000:=by unfold t16;split<;>omega
def mbP(c:Cx)(m:Mb):Mb:=if m.k=0 then stl c else m
theorem zwz{m:Mb}(h:zmb m=true)(c:Cx)(d:Nat):m.fp=(stl c).fp/\v1 m d=v1 (stl c) d/\v2 m d=v2 (stl c) d/\m.fp=false:=by unfold zmb zA at h;obtain⟨k,ua,ub,fp,fd,va,vb,vc,vd,ve,vf,vg,vh,sa,sb,sc,sd,dl,ca,cb,cc,cd,ce,cf,lv⟩:=m;simp only[gB,wH]at h;unfold v1 v2 stl;dsimp only;simp_all
theorem zi9(c:Cx)(m:Mb)(pa fu fi:Fm)(d:Nat)(hd:d<2)(mx my:Int)(hml:m.lv.length=384)(hf:fmS c m=true)(hu:us (mbP c m) d=true)(hk1:m.k≠1)(H:za):
  CallOk prog 182 [.agg (cxc c),.agg (fmc pa++(fmc fu++fmc fi)),.agg (mbc m),O J (d:Int),O J mx,O J my] H (.tup [.agg (fmc (zcQ c (mbP c m) pa fu fi d mx my).1),O J (zcQ c (mbP c m) pa fu fi d mx my).2]) H:=by
 have e4:=zbz m hml;have m2:=zbS m;have m3:(mbc m)[0]? =some (O J m.k):=rfl;have efp:(mbc m)[3]? =some (.bool m.fp):=rfl;have es:(mbc m)[13+d * 2]? =some (O J (s1 m d)):=by have:d=0\/d=1:=om;rcases this with rfl|rfl<;>rfl
 have ess:qA 2 (qB (13+d * 2) (mbc m))=[O J (s1 m d),O J (s2 m d)]:=by have:d=0\/d=1:=om;rcases this with rfl|rfl<;>rfl
 have ev4:qA 4 (qB (5+d * 4) (mbc m))=[O J (v1 m d),O J (v2 m d),O J (v3 m d),O J (v4 m d)]:=by have:d=0\/d=1:=om;rcases this with rfl|rfl<;>rfl
 have ev2:qA 2 (qB (5+d * 4) (mbc m))=[O J (v1 m d),O J (v2 m d)]:=by have:d=0\/d=1:=om;rcases this with rfl|rfl<;>rfl
 have cl:(cxc c).length=4:=rfl;have cc:(cxc c).all PV.cell=true:=rfl;have ct4:qA 4 (cxc c)=cxc c:=rfl;have rl:(fmc pa++(fmc fu++fmc fi)).length=15:=rfl;have rc:(fmc pa++(fmc fu++fmc fi)).all PV.cell=true:=rfl;have rt:qA 15 (fmc pa++(fmc fu++fmc fi))=fmc pa++(fmc fu++fmc fi):=rfl;have hkk:m.k=0\/m.k=2:=by rcases zqH hf with h|h|h<;>omega
 have hD:zcQ c (mbP c m) pa fu fi d mx my=zfm c (mbP c m).fp (v1 (mbP c m) d) (v2 (mbP c m) d) (v3 (mbP c m) d) (v4 (mbP c m) d) (s1 (mbP c m) d) (s2 (mbP c m) d) pa fu fi (d:Int) mx my:=rfl;obtain⟨S,hS,hS2⟩:∃ S:Int,s1 (mbP c m) d=S/\(if m.k=0 then pcx c else s1 m d)=S:=by
  refine⟨_,rfl,?_⟩;unfold mbP at hu |-;rcases hkk with h|h
  .rw[gD h]at hu |-;rw[gD h];unfold us stl at hu;unfold s1 stl;dsimp only at hu |-;by_cases h0:d=0
   .rw[gD h0]
   .rw[gC h0]at hu;rw[gC h0,gD (by simpa using hu)]
  .rw[gC om,gC om]
 obtain⟨hfp,hv1,hv2⟩:(mbP c m).fp=m.fp/\v1 (mbP c m) d=v1 m d/\v2 (mbP c m) d=v2 m d:=by
  unfold mbP;rcases hkk with h|h
  .rw[gD h];have hz:zmb m=true:=by unfold fmS at hf;rw[gB,gD h,gB]at hf;exact hf.2.2
   obtain⟨q1,q2,q3,_⟩:=zwz hz c d;exact⟨q1.symm,q2.symm,q3.symm⟩
  .rw[gC om];exact⟨rfl,rfl,rfl⟩
 have hrest:m.fp=true->mbP c m=m/\s1 m d=S/\(s1 m d=0\/s1 m d=1)/\(s2 m d=0\/s2 m d=1)/\vrg (v1 m d) (v2 m d)=true/\vrg (v3 m d) (v4 m d)=true:=λhp=>by
  have h2:m.k=2:=by
   rcases hkk with h|h
   .have hz:zmb m=true:=by unfold fmS at hf;rw[gB,gD h,gB]at hf;exact hf.2.2
    obtain⟨_,_,_,q4⟩:=zwz hz c d;rw[hp]at q4;cases q4
   .exact h
  have hm:mbP c m=m:=gC om;rw[hm]at hu hS;exact⟨hm,hS,(ziG hf h2).1.f d hu hp⟩
 rw[hfp,hv1,hv2,hS]at hD;have rf:=λL=>zjf c pa fu fi (d:Int) S L;have pc:=λL=>zfK c L;unfold zfm at hD;generalize zcQ c (mbP c m) pa fu fi d mx my=R at hD |-;generalize zcM c pa fu fi (d:Int) S=T at rf hD;obtain⟨g,e⟩:=T;simp only at rf hD;have g5:(fmc g).all PV.cell=true:=rfl;have g7:(fmc g).length=5:=rfl;have g8:qA 5 (fmc g)=fmc g:=rfl;have z9:qB 5 [PV.int .i64 0,PV.int .i64 0,PV.slice [] 0 true,PV.slice [] 0 true,PV.slice [] 0 true]=[]:=rfl;have r5:(fmc R.1).all PV.cell=true:=rfl;have r7:(fmc R.1).length=5:=rfl;have r8:qA 5 (fmc R.1)=fmc R.1:=rfl;refine .go func182 ntmps182 results182 ?_;refine .g (nq2 cc (nq2 rc m2)) ?_;refine .g (nq2 e4 es) ?_;refine .g (nq2 e4 m3) ?_;suffices hrst:PW prog _ _ [(3,O J (d:Int)),(4,O J mx),(5,O J my),(6,.ptr H.length 0 0),(7,.ptr (H.length+1) 0 0),(8,.ptr (H.length+2) 0 0),(12,.ptr (H.length+3) 0 0),(14,O J S)] (H++[⟨205,0,cxc c⟩,⟨85,0,fmc pa++(fmc fu++fmc fi)⟩,⟨142,0,mbc m⟩,⟨29,0,[O J 0,O J 0,.slice [] 0 true,.slice [] 0 true,.slice [] 0 true]⟩]) _ by
  refine .c (λh=> ?_) (λh=> ?_)
  .have hz:m.k=0:=by simpa using h
   rw[gD hz]at hS2;refine .m (nq2 cl ct4) pc ?_;exact .a hrst (by rw[<-hS2];rfl) rfl
  .have hz:m.k≠0:=by simpa using h
   rw[gC hz]at hS2;refine .skip ?_;exact .a hrst (by rw[<-hS2];rfl) rfl
 refine .m (nq2 cl (nq2 ct4 (nq2 rl (nq2 rt (nq2 g5 g7))))) rf ?_;refine .e ?_;refine .c (λh=> ?_) (λh=> ?_)
 .have he:e≠0:=by simpa using h
  rw[gD he]at hD;refine .e (.v (.tup [.agg [O J 0,O J 0,.slice [] 0 true,.slice [] 0 true,.slice [] 0 true],O J e]) ?_);rw[hD];exact .base (fz0 _ _ _)
 have he:e=0:=by simpa using h
 rw[gC (by simp[he])]at hD;refine .skip (.g (nq2 e4 efp) ?_);refine .c (λh=> ?_) (λh=> ?_)
 .have hp:m.fp=true:=h;obtain⟨hm,q1,q2,q3,q4,q5⟩:=hrest hp;rw[hp,gD rfl,hm,<-q1]at hD;have fl:=λL=>zn8 g mx my (v1 m d) (v2 m d) (v3 m d) (v4 m d) (s1 m d) (s2 m d) q2 q3 q4 q5 L;rw[<-hD]at fl;refine .y [H.length+3] [(12,[0])] [] [52] λK hK=> ?_;simp(disch:=omega) only[go_sem,zy,e4,ev4,ess,g7,g8];refine VCj.read (λ_ _=>fl _) rfl ?_;refine sqx (nq2 r5 (nq2 r7 z9)) ?_;refine hK _ _ ?_;refine .w (.tup [.agg (fmc R.1),O J R.2]) (nq2 r7 r8) ?_;exact .base (.id (zC _ _ _ _ _ _ _ _ _ _))
 have hp:m.fp=false:=h;rw[hp,gC sp,<-zyg]at hD;have sx:=λL=>zoI mx L;have sy:=λL=>zoI my L;have tx:=zrC mx;have ty:=zrC my;have pr:=λL=>zdD g (t16 mx) (t16 my) (v1 m d) (v2 m d) 16 (.inr rfl) om L;rw[<-hD]at pr;refine .skip (.y [H.length+3] [(12,[0])] [] [57,59,65] λK hK=> ?_);simp(disch:=omega) only[go_sem,zy,e4,ev2,g7,g8];refine VCj.read (λ_ _=>sx _) rfl ?_;refine sqz ?_;refine VCj.read (λ_ _=>sy _) rfl ?_;simp(disch:=omega) only[go_sem,zy,e4,ev2,g7,g8];refine VCj.read (λ_ _=>pr _) rfl ?_;refine sqx (nq2 r5 (nq2 r7 z9)) ?_;refine hK _ _ ?_;refine .w (.tup [.agg (fmc R.1),O J R.2]) (nq2 r7 r8) ?_;exact .base (.id (zC _ _ _ _ _ _ _ _ _ _))
def goR(c:Cx)(M:Mb)(pa fu fi:Fm)(mx my:Int):Nat->Fm->Fm×Int
 | 0,out=>(out,0)
 | n+1,out=>if us M (1 - n)=true then(if(zcQ c M pa fu fi (1 - n) mx my).2≠0 then(f0,(zcQ c M pa fu fi (1 - n) mx my).2)else goR c M pa fu fi mx my n (if 1 - n=1/\us M 0=true then mnF out (zcQ c M pa fu fi (1 - n) mx my).1 else(zcQ c M pa fu fi (1 - n) mx my).1))else goR c M pa fu fi mx my n out
theorem ztz(c:Cx)(M:Mb)(pa fu fi:Fm)(mx my:Int)(h0:M.ua=false)(h1:M.ub=false)(out:Fm):goR c M pa fu fi mx my 2 out=(out,0):=by simp_all[us,goR]
theorem zvR(c:Cx)(m:Mb)(pa fu fi:Fm)(mx my:Int)(h:m.ua=true\/m.ub=true)(out:Fm):goR c m pa fu fi mx my 2 out=prS c m pa fu fi mx my:=by
 have d0:zcQ c m pa fu fi 0 mx my=ziP c m pa fu fi mx my:=rfl;have d1:zcQ c m pa fu fi 1 mx my=zf3 c m pa fu fi mx my:=rfl;have u0:us m 0=m.ua:=rfl;have u1:us m 1=m.ub:=rfl;have e0:1 - 1=0:=rfl;have e1:1 - 0=1:=rfl;unfold prS;rw[goR,e0,u0,d0,gC (show ¬(0=1/\m.ua=true) by simp)];generalize ziP c m pa fu fi mx my=r0;cases ha:m.ua
 .rw[gC sp,gC sp,goR,e1,u1,u0,d1];grind[zf3,f0,zmQ,goR,Prod.ext]
 .rw[gD rfl,gD rfl];by_cases he:r0.2=0
  .rw[gC (by simp[he]),gC (by simp[he]),goR,e1,u1,u0,d1];grind[zf3,goR]
  simp_all
theorem zmM{c:Cx}{m:Mb}(h:fmS c m=true)(hk:m.k=1):m.ua=false/\m.ub=false:=by simp_all[fmS,gB,zI]
theorem zpT{m:Mb}(h:zmb m=true):∀ n,zN (cdl m) n=false:=λn=>by unfold zmb zA at h;obtain⟨k,ua,ub,fp,fd,va,vb,vc,vd,ve,vf,vg,vh,sa,sb,sc,sd,dl,ca,cb,cc,cd,ce,cf,lv⟩:=m;simp only[gB,wH]at h;grind[zN,cdl,List.getElem?_eq_none]
def zqh(m:Mb)(al:Bool)(mat:List UInt8)(q:Int)(x:Fm×Int):Fm×Int:=if x.2≠0 then(f0,x.2)else(addN m al mat q x.1 6,0)
theorem zvk(m:Mb)(al:Bool)(mat:List UInt8)(q:Int)(f:Fm):zqh m al mat q (f,0)=(addN m al mat q f 6,0):=gC sp
theorem zvl(m:Mb)(al:Bool)(mat:List UInt8)(q:Int)(f:Fm){e:Int}(h:e≠0):zqh m al mat q (f,e)=(f0,e):=gD h
theorem zvj(c:Cx)(si sq:List UInt8)(al:Bool)(q:Int)(m:Mb)(pa fu fi:Fm)(mx my:Int)(h:(fmS c m&&(zaM si&&(zaM sq&&qnB q)))=true):
  zdC c si sq al q m pa fu fi mx my=zqh m al (if m.k=1 then si else sq) q (goR c (mbP c m) pa fu fi mx my 2 gry):=by
 unfold zdC zqh;rw[gD h];have hf:fmS c m=true:=by simp_all
 by_cases hk:m.k=1
 .have hm:mbP c m=m:=gC om;obtain⟨a1,a2⟩:=zmM hf hk;rw[gD hk,gD hk,hm,ztz _ _ _ _ _ _ _ a1 a2,gC sp]
 .rw[gC hk,gC hk];have hu:(mbP c m).ua=true\/(mbP c m).ub=true:=by
   unfold mbP;split
   .exact .inl rfl
   .exact(ziG hf (by rcases zqH hf with h|h|h<;>omega)).1.u
  rw[zvR _ _ _ _ _ _ _ hu];change (if(prS c (mbP c m) pa fu fi mx my).2≠0 then(f0,(prS c (mbP c m) pa fu fi mx my).2)else(addN (mbP c m) al sq q (prS c (mbP c m) pa fu fi mx my).1 6,0))=_;by_cases h0:m.k=0
  .have hz:zmb m=true:=by simp_all[fmS,gB]
   rw[zgP (zpT hz)];have hm:mbP c m=stl c:=gD h0;rw[hm,zgP (zp2 c)]
  .have hm:mbP c m=m:=gC h0;rw[hm]
theorem zxn{lv:List Int}(hl:lv.length=384)(h:zlv lv=true):lrm lv:=λi=>by
 unfold zlv at h;simp only[gB,rY]at h;obtain⟨h0,h1,h2,h3,h4,h5⟩:=h;have key:∀ n j:Nat,j<64->zbk lv n=true->ze lv (n * 64+j)=0:=λn j hj hz=>by unfold zbk at hz;have e:=wH.1 hz;have:=congrArg (λl=>l[j]?) e;grind[ze]
 by_cases hi:i<384
 .have e:i=i / 64 * 64+i%64:=om;have z:ze lv i=0:=by rw[e];have:i / 64=0\/i / 64=1\/i / 64=2\/i / 64=3\/i / 64=4\/i / 64=5:=om;grind
  omega
 simp_all[ze,uH,vP]
theorem zyz{c:Cx}{m:Mb}(hml:m.lv.length=384)(h:fmS c m=true):lrm m.lv:=by
 rcases zqH h with h0|h1|h2
 .simp_all[zmb,fmS,gB,zxn]
 .exact zkJ hml (ztH h h1)
 .exact zkJ hml (ziG h h2).2.2
def rxH(H:za)(c:Cx)(s:Sq)(m:Mb)(pa fu fi:Fm)(a b:Bool)(mat:List UInt8)(out:Fm):za:=H++[⟨205,0,cxc c⟩,⟨37,0,sqc s⟩,⟨142,0,mbc m⟩,⟨85,0,fmc pa++(fmc fu++fmc fi)⟩,⟨29,0,[O J 0,O J 0,.slice [] 0 true,.slice [] 0 true,.slice [] 0 true]⟩,⟨131,1,[.bool a,.bool b]⟩,⟨35,1,bs mat⟩,⟨29,0,fmc out⟩]
theorem zeu(f:Fm)(n:Nat):∀ x∈fmc f,Scoped n x:=zan _ _ _ _ _ _ _ _ _ _ _ _
theorem zpk(H:za)(c:Cx)(s:Sq)(m:Mb)(pa fu fi:Fm)(a b:Bool)(mat:List UInt8)(out:Fm)(h:HSc H):HSc (rxH H c s m pa fu fi a b mat out):=zfi (λk hb x hx=>by
 simp only[gM,gL,uA]at hb;rcases hb with rfl|rfl|rfl|rfl|rfl|rfl|rfl|rfl
 .unfold cxc at hx;simp only[gM,gL,uA]at hx;rcases hx with rfl|rfl|rfl|rfl<;>first|exact .int _ _|exact .bool _
 .exact zaf _ _ x hx
 .exact zhr _ _ x hx
 .rcases uF.1 hx with hx|hx
  .exact zeu _ _ x hx
  .rcases uF.1 hx with hx|hx
   .exact zeu _ _ x hx
   .exact zeu _ _ x hx
 .exact zan _ 0 0 [] [] [] _ _ _ _ _ _ x hx
 .simp only[gM,gL,uA]at hx;rcases hx with rfl|rfl<;>exact .bool _
 .exact zh _ _ x hx
 .exact zeu _ _ x hx) h
theorem zqg(c:Cx)(s:Sq)(al:Bool)(q:Int)(m:Mb)(pa fu fi:Fm)(mx my:Int)(H:za)(hml:m.lv.length=384)(hia:s.ia.length=64)(hie:s.ie.length=64):
  CallOk prog 111 [.agg (cxc c),.agg (sqc s),.bool al,O J q,.agg (mbc m),.agg (fmc pa++(fmc fu++fmc fi)),O J mx,O J my] H (.tup [.agg (fmc (zdC c s.ia s.ie al q m pa fu fi mx my).1),O J (zdC c s.ia s.ie al q m pa fu fi mx my).2]) H:=by
 have fo:=λL=>zyN c m L hml;have q1:=λL=>ziv s.ia L hia;have q2:=λL=>ziv s.ie L hie;have c1:=zrK s hia;have c2:=zrJ s hia hie;have c3:=zoL s hia hie;have c4:=zlQ s;have m1:=zbz m hml;have m2:=zbS m;have m3:(mbc m)[0]? =some (O J m.k):=rfl;have m4:qA 408 (mbc m)=mbc m:=gH om;have m6:qA 2 (qB 1 (mbc m))=[.bool m.ua,.bool m.ub]:=rfl;have m7:=zpd m;have m8:=λn=>zpc m n;have m9:∀ n,n<6->(mbc m)[18+n]? =some (.bool (zN (cdl m) n)):=λn hn=>by have:n=0\/n=1\/n=2\/n=3\/n=4\/n=5:=om;rcases this with rfl|rfl|rfl|rfl|rfl|rfl<;>rfl
 have cl:(cxc c).length=4:=rfl;have cc:(cxc c).all PV.cell=true:=rfl;have ct4:qA 4 (cxc c)=cxc c:=rfl;have cx0:(cxc c)[0]? =some (O J c.t):=rfl;have rl:(fmc pa++(fmc fu++fmc fi)).length=15:=rfl;have rc:(fmc pa++(fmc fu++fmc fi)).all PV.cell=true:=rfl;have rt:qA 15 (fmc pa++(fmc fu++fmc fi))=fmc pa++(fmc fu++fmc fi):=rfl;have z9:qB 5 [PV.int .i64 0,PV.int .i64 0,PV.slice [] 0 true,PV.slice [] 0 true,PV.slice [] 0 true]=[]:=rfl;have F5:∀ g:Fm,(fmc g).all PV.cell=true:=λ_=>rfl;have F7:∀ g:Fm,(fmc g).length=5:=λ_=>rfl;have F8:∀ g:Fm,qA 5 (fmc g)=fmc g:=λ_=>rfl;have F9:∀ g:Fm,qB 5 (fmc g)=[]:=λ_=>rfl;have la:(bs s.ia).length=64:=by grind
 have le:(bs s.ie).length=64:=by grind
 have lca:(bs s.ia).all PV.cell=true:=by grind
 have lce:(bs s.ie).all PV.cell=true:=by grind
 have dle:qB 64 (bs s.ie)=[]:=uB om;generalize hr:zdC c s.ia s.ie al q m pa fu fi mx my=r;refine .go func111 ntmps111 results111 ?_;refine .g (nq2 cc (nq2 rc (nq2 c4 m2))) ?_;(repeat refine .seq ?_);refine .rgv (P:=prog) [2,3,6,7,8,9,12,13,16,17] 54 (.bool (!(fmS c m&&(zaM s.ia&&(zaM s.ie&&qnB q))))) ?_ ?_ ?_
 .rfl
 .clear hr;generalize fmS c m=b1 at fo |-;generalize zaM s.ia=b2 at q1 |-;generalize zaM s.ie=b3 at q2 |-;unfold qnB;simp(disch:=omega) only[go_sem,cl,ct4,m1,m4,c1,c2,c3];(repeat'(first|((refine zg ?_ ?_)<;>intro h<;>(try simp only[nqb]at h)<;>simp(disch:=omega) only[go_sem,cl,ct4,m1,m4,c1,c2,c3,h])|((first|refine VCx.call (fo _) rfl ?_|refine VCx.call (q1 _) rfl ?_|refine VCx.call (q2 _) rfl ?_);simp(disch:=omega) only[go_sem,cl,ct4,m1,m4,c1,c2,c3])));all_goals(clear fo q1 q2;(simp_all[slot,Nat.beq]<;>(rw[gJ];simp;done)))
 refine .c (λh=> ?_) (λh=> ?_)
 .have hb:(fmS c m&&(zaM s.ia&&(zaM s.ie&&qnB q)))=false:=by grind
  unfold zdC at hr;rw[hb,gC sp]at hr;refine .e (.v (.tup [.agg [O J 0,O J 0,.slice [] 0 true,.slice [] 0 true,.slice [] 0 true],O J 1]) ?_);rw[<-hr];exact .base (fz0 _ _ _)
 have hb:(fmS c m&&(zaM s.ia&&(zaM s.ie&&qnB q)))=true:=by simpa using h
 rw[zvj _ _ _ _ _ _ _ _ _ _ _ hb]at hr;simp only[gB]at hb;obtain⟨hf,hb1,hb2,hb3⟩:=hb;have hlr:=zyz hml hf;have hub:us (mbP c m) 0=(if m.k=0 then true else m.ua)/\us (mbP c m) 1=(if m.k=0 then decide (c.t=3)else m.ub):=by unfold mbP;split<;>exact⟨rfl,rfl⟩
 have hpd:=fun(d:Nat) (hd:d<2) (hu:us (mbP c m) d=true) (hk1:m.k≠1) L=>zi9 c m pa fu fi d hd mx my hml hf hu hk1 L;have hk1:m.k=1->us (mbP c m) 0=false/\us (mbP c m) 1=false:=λhk=>by obtain⟨a1,a2⟩:=zmM hf hk;simp_all
 have h16:∀ d,(zcQ c (mbP c m) pa fu fi d mx my).2=0->F16 (zcQ c (mbP c m) pa fu fi d mx my).1:=λd h=>zhA h;obtain⟨M,hM⟩:∃ M,mbP c m=M:=⟨_,rfl⟩;rw[hM]at hr hub hpd hk1 h16;obtain⟨mat,hmat⟩:∃ mat,(if m.k=1 then s.ia else s.ie)=mat:=⟨_,rfl⟩;have hml2:mat.length=64:=by grind
 have hmx:zaM mat=true:=by grind
 rw[hmat]at hr;have lm:(bs mat).length=64:=by grind
 have tkm:qA 64 (bs mat)=bs mat:=gH om;refine .skip (.view (Vs.place 131) ?_);refine .view (Vs.place 35) ?_;refine .y [H.length+5,H.length+6] [(18,[0]),(19,[1])] [(18,0),(19,1)] [] λK hK=> ?_;simp(disch:=omega) only[go_sem,zy,m1,m6,c2,c3,le,lce];refine hK _ _ ?_;clear hK K;suffices hA:PW prog _ _ [(2,.bool al),(3,O J q),(6,O J mx),(7,O J my),(8,.ptr H.length 0 0),(9,.ptr (H.length+1) 0 0),(12,.ptr (H.length+2) 0 0),(13,.ptr (H.length+3) 0 0),(16,.ptr (H.length+4) 0 0),(18,.ptr (H.length+5) 1 0),(19,.ptr (H.length+6) 1 0)] (H++[⟨205,0,cxc c⟩,⟨37,0,sqc s⟩,⟨142,0,mbc m⟩,⟨85,0,fmc pa++(fmc fu++fmc fi)⟩,⟨29,0,[O J 0,O J 0,.slice [] 0 true,.slice [] 0 true,.slice [] 0 true]⟩,⟨131,1,[.bool (us M 0),.bool (us M 1)]⟩,⟨35,1,bs s.ie⟩]) _ by
  refine .g (nq2 m1 m3) ?_;refine .c (λh=> ?_) (λh=> ?_)
  .have hz:m.k=0:=by simpa using h
   rw[gD hz,gD hz]at hub;rw[hub.1,hub.2]at hA;refine .g (nq2 cl cx0) ?_;exact .a hA
  .have hz:m.k≠0:=by simpa using h
   rw[gC hz,gC hz]at hub;rw[hub.1,hub.2]at hA;refine .skip ?_;exact .a hA
 have fl:=λL=>ztJ L;have g16:F16 gry:=F16.gry;generalize gry=g0 at fl hr g16;refine .m (nq2 F5 F7) fl ?_;suffices hB:PW prog _ _ [(2,.bool al),(3,O J q),(6,O J mx),(7,O J my),(8,.ptr H.length 0 0),(12,.ptr (H.length+2) 0 0),(13,.ptr (H.length+3) 0 0),(16,.ptr (H.length+4) 0 0),(18,.ptr (H.length+5) 1 0),(19,.ptr (H.length+6) 1 0),(20,.ptr (H.length+7) 0 0)] (rxH H c s m pa fu fi (us M 0) (us M 1) mat g0) _ by
  refine .g (nq2 m1 m3) ?_;refine .c (λh=> ?_) (λh=> ?_)
  .have hz:m.k=1:=by simpa using h
   rw[gD hz]at hmat;subst hmat;refine .g (nq2 c1 (nq2 c3 (nq2 lca (nq2 la (nq2 le dle))))) ?_;exact .a hB rfl (by unfold rxH;simp)
  .have hz:m.k≠1:=by simpa using h
   rw[gC hz]at hmat;subst hmat;refine .skip ?_;exact .a hB
 clear fo q1 q2;refine .e (.l ?_);suffices hloop:∀(n d:Nat) (out:Fm),d+n=2->F16 out->(d=1->us M 0=false\/F16 out)->zqh m al mat q (goR c M pa fu fi mx my n out)=r->PL prog _ _ [(2,.bool al),(3,O J q),(6,O J mx),(7,O J my),(8,.ptr H.length 0 0),(12,.ptr (H.length+2) 0 0),(13,.ptr (H.length+3) 0 0),(16,.ptr (H.length+4) 0 0),(18,.ptr (H.length+5) 1 0),(19,.ptr (H.length+6) 1 0),(20,.ptr (H.length+7) 0 0),(21,O J (d:Int))] (rxH H c s m pa fu fi (us M 0) (us M 1) mat out) _ by exact .a (hloop 2 0 g0 rfl g16 (λh=>by cases h) hr)
 clear hr;intro n;induction n with
 | zero=>
  intro d out hd ho _ hr;have hd2:d=2:=om;subst hd2;rw[goR,zvk]at hr;refine .round (.e ?_);refine .u (.exit ?_);refine .e (.l ?_);suffices h1:∀ n:Nat,n<=6->PL prog _ _ [(2,.bool al),(3,O J q),(12,.ptr (H.length+2) 0 0),(16,.ptr (H.length+4) 0 0),(19,.ptr (H.length+6) 1 0),(20,.ptr (H.length+7) 0 0),(24,O J (n:Int))] (rxH H c s m pa fu fi (us M 0) (us M 1) mat (addN m al mat q out n)) _ by exact .a (h1 0 om)
  refine cnt 6 (λn hn ih=> ?_) ?_
  .have ct:=zco hn;have m9n:=m9 n hn;refine .round (.e ?_);refine .t (.skip ?_);refine .b (.g (nq2 @rxH.eq_1 (nq2 m1 m9n)) ?_);refine .c (λh=> ?_) (λh=> ?_)
   .have hc:zN (cdl m) n=false:=by simpa using h
    rw[addN,hc,gC sp]at ih;refine .exit (.e ?_);exact .a ih
   have hc:zN (cdl m) n=true:=by simpa using h
   rw[addN,hc,gD rfl]at ih;have g16:=ho.addN m al mat q n om;obtain⟨g,hgg⟩:∃ g,addN m al mat q out n=g:=⟨_,rfl⟩;rw[hgg]at g16 ih |-;have ll:=zpf m.lv n hml hn;have lr:=ztb hlr n;have c1:=λK=>zkQ (lvl m.lv n) al ll K;have c2:=λK=>zmR (frs (lvl m.lv n) al) mat q (zpn _ _) (ztE lr al) hml2 hmx hb3 K;have hrs:rsd m.lv al mat q n=inv (dqz (frs (lvl m.lv n) al) mat q):=rfl;have c3:=λK=>zmE (dqz (frs (lvl m.lv n) al) mat q) (zhz _ _ _) K;rw[<-hrs]at c3;have il:(rsd m.lv al mat q n).length=64:=zpj _;have ib:=λk=>ztt (dqz (frs (lvl m.lv n) al) mat q) k;rw[<-hrs]at ib;have dl:=zhz (frs (lvl m.lv n) al) mat q;have dcel:=zq (dqz (frs (lvl m.lv n) al) mat q);generalize dqz (frs (lvl m.lv n) al) mat q=D at c2 c3 dl dcel;have tkD:qA 64 (is D)=is D:=gH (by rw[zj];omega);generalize frs (lvl m.lv n) al=S at c1 c2;generalize rsd m.lv al mat q n=I at c3 il ib ih;clear hrs;have icel:=zq I;have c4:=λK=>zqO g g16 n hn m.fd K;have bb:=λk=>zup (cmp g n) n m.fd k;have bl:(blk (cmp g n) n m.fd).length=64:=zaP _ _;have bcel:=zq (blk (cmp g n) n m.fd);refine .skip (.view (Vs.place 139) ?_);refine .y [H.length+8] [(25,[0])] [(25,0)] [123,126] λK hK=> ?_;simp(disch:=omega) only[go_sem,zy,m8,m1];refine VCj.read (λ_ _=>c1 _) rfl ?_;simp(disch:=omega) only[go_sem,zy,m8,m1,lm,tkm];refine VCj.read (λ_ _=>c2 _) rfl ?_;simp(disch:=omega) only[go_sem,zj,dl,dcel];refine hK _ _ ?_;clear hK K;refine .f (λK k=>by simp(disch:=omega) only[go_sem,zj,dl,tkD,il,icel];refine VCx.call (c3 _) rfl ?_;simp(disch:=omega) only[go_sem,zj,dl,tkD,il,icel];exact k) ?_;refine .f (λK k=>by simp(disch:=omega) only[go_sem,m7,m1,F7,F8,zj,bl,bcel];refine VCx.call (c4 _) rfl ?_;simp(disch:=omega) only[go_sem,m7,m1,F7,F8,zj,bl,bcel];exact k) ?_;refine .e (.l ?_);suffices h2:∀ k:Nat,k<=64->PL prog _ _ [(2,.bool al),(3,O J q),(12,.ptr (H.length+2) 0 0),(16,.ptr (H.length+4) 0 0),(19,.ptr (H.length+6) 1 0),(20,.ptr (H.length+7) 0 0),(24,O J (n:Int)),(27,.ptr (H.length+9) 0 0),(28,.ptr (H.length+10) 0 0),(30,O J (k:Int))] (rxH H c s m pa fu fi (us M 0) (us M 1) mat g++[⟨139,1,is D⟩,⟨139,0,is (adk (blk (cmp g n) n m.fd) I k)⟩,⟨139,0,is (blk (cmp g n) n m.fd)⟩]) _ by exact .a (h2 0 om) rfl (by rw[zxl il];unfold rxH;simp)
   refine cnt 64 (λk hk ih2=> ?_) ?_
   .refine .round (.e ?_);refine .t ?_;have b1:=bb k;have b2:=ib k;have a1:=zuE (blk (cmp g n) n m.fd) I hk;have a2:=zpN (blk (cmp g n) n m.fd) I k;have a3:=zpO (blk (cmp g n) n m.fd) I k;have a4:∀ v,((is (adk (blk (cmp g n) n m.fd) I k)).set k v).length=64:=λv=>by simp[zj,a3]
    refine .skip (.b ?_);refine .y [H.length+9] [(27,[0]),(145,[0]),(151,[0])] [] [] λK hK=> ?_;simp(disch:=omega) only[go_sem,zy,rxH,zQ,zj,bl,a3,a1,zaB,a2,a4];refine hK _ _ ?_;clear hK K;refine .e ?_;exact .a ih2 rfl (by unfold rxH;simp)
   refine .round (.e ?_);refine .u (.exit ?_);rw[zpP];have xe:(rgI 64 λk=>ze (blk (cmp g n) n m.fd) k+ze I k)=rgI 64 λk=>ze I k+ze (blk (cmp g n) n m.fd) k:=zbU λk _=>Int.add_comm _ _;rw[xe];have xl:(rgI 64 λk=>ze I k+ze (blk (cmp g n) n m.fd) k).length=64:=zaP _ _;have c5:=λK=>zki g g16 n hn m.fd (rgI 64 λk=>ze I k+ze (blk (cmp g n) n m.fd) k) xl K;have e5:zh2 g n (zdw (cmp g n) n m.fd (rgI 64 λk=>ze I k+ze (blk (cmp g n) n m.fd) k))=addB g n m.fd I:=rfl;rw[e5]at c5;generalize (rgI 64 λk=>ze I k+ze (blk (cmp g n) n m.fd) k)=X at xl c5;have xt:qA 64 (is X)=is X:=gH (by rw[zj];omega);generalize addB g n m.fd I=g' at c5 ih;refine .f (λK k=>by simp(disch:=omega) only[go_sem,rxH,m7,m1,F5,F7,F8,F9,zj,xl,xt];refine VCx.call (c5 _) rfl ?_;simp(disch:=omega) only[go_sem,rxH,m7,m1,F5,F7,F8,F9,zj,xl,xt];exact k) ?_;refine .e (.view (Vs.trim (F1:=[(2,.bool al),(3,O J q),(12,.ptr (H.length+2) 0 0),(16,.ptr (H.length+4) 0 0),(19,.ptr (H.length+6) 1 0),(20,.ptr (H.length+7) 0 0),(24,O J ((n+1:Nat):Int))]) (H1:=rxH H c s m pa fu fi (us M 0) (us M 1) mat g') (zpk H c s m pa fu fi _ _ mat g') (by simp[rxH]) (gU _ [_,_,_,_,_,_,_,_] [_,_,_]).symm ?_) ih);have hl:(rxH H c s m pa fu fi (us M 0) (us M 1) mat g').length=H.length+8:=by simp[rxH]
   rw[hl];exact⟨.id (.bool _),.id (.int _ _),.id (.ptr om),.id (.ptr om),.id (.ptr om),.id (.ptr om),.id (.int _ _),trivial⟩
  refine .round (.e ?_);refine .u (.exit ?_);obtain⟨g,hgg⟩:∃ g,addN m al mat q out 6=g:=⟨_,rfl⟩;rw[hgg]at hr |-;refine .g (nq2 @rxH.eq_1 (nq2 F5 (nq2 F7 (nq2 F8 z9)))) ?_;refine .w (.tup [.agg (fmc g),O J 0]) (nq2 F7 F8) ?_;rw[<-hr];exact .base (.id (zC _ _ _ _ _ _ _ _ _ _))
 | succ n ih=>
  intro d out hd ho hu0 hr;have hd2:d<2:=om;have hdn:1 - n=d:=om;rw[goR,hdn]at hr;have ct:decide ((d:Int)<2)=true:=gX om;have eus:[PV.bool (us M 0),PV.bool (us M 1)][d]? =some (.bool (us M d)):=by have:d=0\/d=1:=om;rcases this with rfl|rfl<;>rfl
  refine .round (.g ct ?_);refine .t (.skip ?_);refine .b (.g (nq2 @rxH.eq_1 eus) ?_);refine .c (λh=> ?_) (λh=> ?_)
  .have hu:us M d=false:=by simpa using h
   rw[hu,gC sp]at hr;refine .exit (.e ?_);exact .a (ih (d+1) out om ho (λ_=>.inr ho) hr)
  have hu:us M d=true:=by simpa using h
  rw[hu,gD rfl]at hr;have hk:m.k≠1:=λhk=>by obtain⟨a,b⟩:=hk1 hk;have:d=0\/d=1:=om;rcases this with rfl|rfl;all_goals simp_all
  have pr:=λL=>hpd d hd2 hu hk L;have h16d:=h16 d;generalize zcQ c M pa fu fi d mx my=T at pr hr h16d;obtain⟨g,e⟩:=T;simp only at pr hr h16d;refine .skip (.m (nq2 cl (nq2 ct4 (nq2 rl (nq2 rt (nq2 m1 (nq2 m4 (nq2 F5 F7))))))) pr ?_);refine .e ?_;refine .c (λh=> ?_) (λh=> ?_)
  .have he:e≠0:=by simpa using h
   rw[gD (by exact he),zvl _ _ _ _ _ he]at hr;refine .e (.v (.tup [.agg [O J 0,O J 0,.slice [] 0 true,.slice [] 0 true,.slice [] 0 true],O J e]) ?_);rw[<-hr];exact .base (fz0 _ _ _)
  have he:e=0:=by simpa using h
  rw[gC (by simp[he])]at hr;have hg:=h16d he;refine .skip ?_;have fin:∀(g':Fm) (K:za),F16 g'->zqh m al mat q (goR c M pa fu fi mx my n g')=r->PL prog _ _ [(2,.bool al),(3,O J q),(6,O J mx),(7,O J my),(8,.ptr H.length 0 0),(12,.ptr (H.length+2) 0 0),(13,.ptr (H.length+3) 0 0),(16,.ptr (H.length+4) 0 0),(18,.ptr (H.length+5) 1 0),(19,.ptr (H.length+6) 1 0),(20,.ptr (H.length+7) 0 0),(21,O J ((d+1:Nat):Int))] (rxH H c s m pa fu fi (us M 0) (us M 1) mat g'++K) _:=λg' K hg' hr'=>by
   refine .view (Vs.trim (F1:=[(2,.bool al),(3,O J q),(6,O J mx),(7,O J my),(8,.ptr H.length 0 0),(12,.ptr (H.length+2) 0 0),(13,.ptr (H.length+3) 0 0),(16,.ptr (H.length+4) 0 0),(18,.ptr (H.length+5) 1 0),(19,.ptr (H.length+6) 1 0),(20,.ptr (H.length+7) 0 0),(21,O J ((d+1:Nat):Int))]) (H1:=rxH H c s m pa fu fi (us M 0) (us M 1) mat g') (zpk H c s m pa fu fi _ _ mat g') (by simp[rxH]) rfl ?_) (ih (d+1) g' om hg' (λ_=>.inr hg') hr');have hl:(rxH H c s m pa fu fi (us M 0) (us M 1) mat g').length=H.length+8:=by simp[rxH]
   rw[hl];exact⟨.id (.bool _),.id (.int _ _),.id (.int _ _),.id (.int _ _),.id (.ptr om),.id (.ptr om),.id (.ptr om),.id (.ptr om),.id (.ptr om),.id (.ptr om),.id (.ptr om),.id (.int _ _),trivial⟩
  have dd:d=0\/d=1:=om;rcases dd with rfl|rfl
  .rw[gC sp]at hr;refine .e (.us ?_);refine .g (nq2 F5 (nq2 F7 (nq2 F8 F9))) ?_;refine .e ?_;exact .a (fin g [⟨29,0,fmc g⟩] hg hr) rfl (by unfold rxH;simp)
  .cases hu1:us M 0 with
   | false=>
    rw[hu1,gC sp]at hr;rw[hu1]at fin;refine .g hu1 ?_;refine .us (.g (nq2 F5 (nq2 F7 (nq2 F8 F9))) ?_);refine .e ?_;exact .a (fin g [⟨29,0,fmc g⟩] hg hr) rfl (by unfold rxH;simp)
   | true=>rw[hu1,gD ⟨rfl,rfl⟩]at hr;rw[hu1]at fin;have av:=λL=>zmZ out g ho hg L;have hmn:F16 (mnF out g):=znS ho g;generalize mnF out g=g' at av hr hmn;refine .g hu1 ?_;refine .t (.m (nq2 F5 (nq2 F7 (nq2 F8 F9))) av ?_);refine .g (nq2 F5 (nq2 F7 (nq2 F8 F9))) ?_;refine .e ?_;exact .a (fin g' [⟨29,0,fmc g'⟩] hmn hr) rfl (by unfold rxH;simp)
end Go.Proofs.YtleejngibkbjnaaGreatDoor.Sc
