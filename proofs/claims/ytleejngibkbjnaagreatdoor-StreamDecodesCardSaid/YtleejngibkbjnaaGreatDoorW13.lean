/-
  Parts of the proof. No condition.
-/
import Derived.Test.YtleejngibkbjnaaGreatDoorW10
import Derived.Test.YtleejngibkbjnaaGreatDoorW11
import Derived.Test.YtleejngibkbjnaaGreatDoorW12
open Go.Proofs.YtleejngibkbjnaaGreatDoor.Pm.PV renaming int → O
open Go.IntKind renaming i64 → J
open List renaming take → qA, replicate → qB, drop → qD
open Nat renaming beq → qE, reduceAdd → qF
open Go.Proofs.Tryz
set_option linter.all false
set_option maxRecDepth 100000
set_option maxHeartbeats 32000000
namespace Go.Proofs.YtleejngibkbjnaaGreatDoor.Sc
open Pm Ty Go.RowKit
structure F16(f:Fm):Prop where
 w:f.w=16
 h:f.h=16
 ly:f.y.length=256
 lu:f.u.length=64
 lv:f.v.length=64
def gry:Fm:=⟨16,16,qB 256 128,qB 64 128,qB 64 128⟩
theorem F16.gry:F16 gry:=⟨rfl,rfl,uQ,uQ,uQ⟩
theorem F16.fvd{f:Fm}(h:F16 f):fvd f=true:=by obtain⟨w,h,y,u,v⟩:=f;obtain⟨rfl,rfl,ly,lu,lv⟩:=h;simp only at ly lu lv;simp[Sc.fvd,fmd,fsz,ly,lu,lv]
def cmp(f:Fm)(n:Nat):List UInt8:=if n=4 then f.u else if n=5 then f.v else f.y
def zh2(f:Fm)(n:Nat)(p:List UInt8):Fm:=if n=4 then⟨f.w,f.h,f.y,p,f.v⟩else if n=5 then⟨f.w,f.h,f.y,f.u,p⟩else⟨f.w,f.h,p,f.u,f.v⟩
theorem F16.cmp{f:Fm}(h:F16 f){n:Nat}(hn:n<6):(cmp f n).length=bln n:=by
 unfold Sc.cmp bln;split
 .rw[gD om];exact h.lu
 .split
  .rw[gD om];exact h.lv
  .rw[gC om];exact h.ly
theorem F16.stc{f:Fm}(h:F16 f){n:Nat}(hn:n<6){p:List UInt8}(hp:p.length=bln n):F16 (zh2 f n p):=by
 unfold zh2;split
 .exact⟨h.w,h.h,h.ly,by rw[hp];subst n;rfl,h.lv⟩
 .split
  .exact⟨h.w,h.h,h.ly,h.lu,by rw[hp];subst n;rfl⟩
  .exact⟨h.w,h.h,by rw[hp,bln,gC om],h.lu,h.lv⟩
def addB(f:Fm)(n:Nat)(fd:Bool)(x:List Int):Fm:=zh2 f n (cad (cmp f n) n fd x)
theorem zwj{p:List UInt8}{n:Nat}{fd:Bool}{x:List Int}(hn:n<6)(hp:p.length=bln n):(cad p n fd x).length=bln n:=by rw[cad,zcw hn hp,hp]
theorem F16.addB{f:Fm}(h:F16 f){n:Nat}(hn:n<6)(fd:Bool)(x:List Int):F16 (addB f n fd x):=h.stc hn (zwj hn (h.cmp hn))
def lvl(lv:List Int)(n:Nat):List Int:=(lv.drop (n * 64)).take 64
def rsd(lv:List Int)(al:Bool)(mat:List UInt8)(q:Int)(n:Nat):List Int:=inv (dqz (frs (lvl lv n) al) mat q)
def addN(m:Mb)(al:Bool)(mat:List UInt8)(q:Int)(f:Fm):Nat->Fm
 | 0=>f
 | n+1=>if zN (cdl m) n then addB (addN m al mat q f n) n m.fd (rsd m.lv al mat q n)else addN m al mat q f n
theorem F16.addN{f:Fm}(h:F16 f)(m:Mb)(al:Bool)(mat:List UInt8)(q:Int):∀ n,n<=6->F16 (addN m al mat q f n)
 | 0,_=>h
 | n+1,hn=>by
  have ih:=h.addN m al mat q n om;rw[Sc.addN];split
  .exact ih.addB om _ _
  .exact ih
def zaR(f:Fm)(x y:Int)(h:Nat)(vx vy:Int):Fm:=⟨16,h,prd f.y f.w f.h x y 16 h vx vy,prd f.u (f.w / 2) (f.h / 2) (x / 2) (y / 2) 8 (h / 2) (vx.tdiv 2) (vy.tdiv 2),prd f.v (f.w / 2) (f.h / 2) (x / 2) (y / 2) 8 (h / 2) (vx.tdiv 2) (vy.tdiv 2)⟩
theorem zvt(f:Fm)(x y vx vy:Int):F16 (zaR f x y 16 vx vy):=⟨rfl,rfl,zck _ _ _ _ _ _ _ _ _,zck _ _ _ _ _ _ _ _ _,zck _ _ _ _ _ _ _ _ _⟩
def zja(f:Fm)(mx my vx vy:Int):Fm×Int:=if(fmd f&&(decide (0<=mx)&&(decide (16 * mx+16<=f.w)&&(decide (0<=my)&&decide (16 * my+16<=f.h)))))=true then(if vrg vx vy=true then(zaR f (16 * mx) (16 * my) 16 vx vy,0)else(f0,2))else(f0,1)
def zcD(f:Fm)(mx my:Int):Bool:=fvd f&&(decide (0<=mx)&&(decide (mx<f.w / 16)&&(decide (0<=my)&&decide (my<f.h / 16))))
def zm9(a b:Fm):Fm:=⟨16,16,wov a.y b.y 16 8,wov a.u b.u 8 4,wov a.v b.v 8 4⟩
def ze4(f:Fm)(mx my va vb vc vd sa sb:Int):Fm×Int:=if(zcD f mx my&&decide (f.h%32=0))=true then(zm9 (zaR (zo f sa) (16 * mx) (8 * my) 8 va vb) (zaR (zo f sb) (16 * mx) (8 * my) 8 vc vd),0)else(f0,1)
theorem zjZ(f g:Fm)(x y x' y' a b c d:Int):F16 (zm9 (zaR f x y 8 a b) (zaR g x' y' 8 c d)):=by have l1:∀ p W R x y vx vy,(prd p W R x y 16 8 vx vy).length=8 * 16:=λ_ _ _ _ _ _ _=>zck _ _ _ _ _ _ _ _ _;have l2:∀ p W R x y vx vy,(prd p W R x y 8 (8 / 2) vx vy).length=4 * 8:=λ_ _ _ _ _ _ _=>zck _ _ _ _ _ _ _ _ _;exact⟨rfl,rfl,zaN (l1 ..) (l1 ..) 8 (gV _),zaN (l2 ..) (l2 ..) 4 (gV _),zaN (l2 ..) (l2 ..) 4 (gV _)⟩
def mnF(a b:Fm):Fm:=⟨a.w,a.h,mnb a.y b.y,mnb a.u b.u,mnb a.v b.v⟩
theorem znS{a:Fm}(h:F16 a)(b:Fm):F16 (mnF a b):=⟨h.w,h.h,(zhq _ _).trans h.ly,(zhq _ _).trans h.lu,(zhq _ _).trans h.lv⟩
def zfm(c:Cx)(fp:Bool)(va vb vc vd sa sb:Int)(pa fu fi:Fm)(d mx my:Int):Fm×Int:=if(zcM c pa fu fi d sa).2≠0 then(f0,(zcM c pa fu fi d sa).2)else if fp=true then ze4 (zcM c pa fu fi d sa).1 mx my va vb vc vd sa sb else zja (zcM c pa fu fi d sa).1 mx my va vb
def ziP(c:Cx)(m:Mb)(pa fu fi:Fm)(mx my:Int):Fm×Int:=zfm c m.fp m.va m.vb m.vc m.vd m.sa m.sb pa fu fi 0 mx my
def zf3(c:Cx)(m:Mb)(pa fu fi:Fm)(mx my:Int):Fm×Int:=zfm c m.fp m.ve m.vf m.vg m.vh m.sc m.sd pa fu fi 1 mx my
def prS(c:Cx)(m:Mb)(pa fu fi:Fm)(mx my:Int):Fm×Int:=
 if m.ua=true then
  if(ziP c m pa fu fi mx my).2≠0 then(f0,(ziP c m pa fu fi mx my).2)
  else if m.ub=true then
   if(zf3 c m pa fu fi mx my).2≠0 then(f0,(zf3 c m pa fu fi mx my).2)
   else(mnF (ziP c m pa fu fi mx my).1 (zf3 c m pa fu fi mx my).1,0)
  else ziP c m pa fu fi mx my
 else zf3 c m pa fu fi mx my
theorem zvs{f:Fm}{mx my vx vy:Int}(h:(zja f mx my vx vy).2=0):F16 (zja f mx my vx vy).1:=by grind[zja,zvt]
theorem zv0{f:Fm}{mx my va vb vc vd sa sb:Int}(h:(ze4 f mx my va vb vc vd sa sb).2=0):F16 (ze4 f mx my va vb vc vd sa sb).1:=by grind[ze4,zjZ]
theorem zhA{c:Cx}{fp:Bool}{va vb vc vd sa sb:Int}{pa fu fi:Fm}{d mx my:Int}(h:(zfm c fp va vb vc vd sa sb pa fu fi d mx my).2=0):F16 (zfm c fp va vb vc vd sa sb pa fu fi d mx my).1:=by grind[zfm,zv0,zvs]
theorem zso{c:Cx}{m:Mb}{pa fu fi:Fm}{mx my:Int}(h:(prS c m pa fu fi mx my).2=0):F16 (prS c m pa fu fi mx my).1:=by
 unfold prS at h |-;split at h
 .grind[ziP,zhA,znS]
 .rename_i h1;rw[gC h1];exact zhA h
def stl(c:Cx):Mb:=⟨2,true,decide (c.t=3),false,false,0,0,0,0,0,0,0,0,pcx c,0,if c.t=3 then pcx c else 0,0,0,false,false,false,false,false,false,zl384⟩
def zdC(c:Cx)(si sq:List UInt8)(al:Bool)(q:Int)(m:Mb)(pa fu fi:Fm)(mx my:Int):Fm×Int:=
 if(fmS c m&&(zaM si&&(zaM sq&&qnB q)))=true then
  if m.k=1 then(addN m al si q gry 6,0)
  else if(prS c (if m.k=0 then stl c else m) pa fu fi mx my).2≠0 then(f0,(prS c (if m.k=0 then stl c else m) pa fu fi mx my).2)
  else(addN (if m.k=0 then stl c else m) al sq q (prS c (if m.k=0 then stl c else m) pa fu fi mx my).1 6,0)
 else(f0,1)
structure selB(m:Mb):Prop where
 a:m.sa=0\/m.sa=1
 b:m.sb=0\/m.sb=1
 c:m.sc=0\/m.sc=1
 d:m.sd=0\/m.sd=1
theorem zn3(f:Fm)(mx my:Int)(H:za):CallOk prog 95 [.agg (fmc f),O J mx,O J my] H (.bool (zcD f mx my)) H:=by
 have va:=λK=>zhO f K;have hr:zcD f mx my=(fvd f&&(decide (0<=mx)&&(decide (mx<f.w / 16)&&(decide (0<=my)&&decide (my<f.h / 16))))):=rfl;generalize zcD f mx my=r at hr |-;cases hv:fvd f
 .rw[hv]at va hr;obtain⟨w,ht,y,u,v⟩:=f;simp only[fmc]at va |-;refine .body (F0:=[(0,.agg [O J w,O J ht,.slice (bs y) y.length false,.slice (bs u) u.length false,.slice (bs v) v.length false]),(1,O J mx),(2,O J my)]) func95 rfl ntmps95 results95 rfl kr rfl ?_;refine .e (.x λK hK=> ?_);simp(disch:=omega) only[go_sem];(repeat'(((refine VCx.call (va _) rfl ?_);simp(disch:=omega) only[go_sem])));all_goals(refine hK _ _ ?_;clear hK;(refine .ret ⟨_,rfl,?_⟩;refine .base (.id' ?_ (.bool _)));(simp_all[slot,qE]))
 .rw[hv]at va hr;have hp:(0<=f.w/\f.w<=64)/\0<=f.h/\f.h<=64:=by unfold fvd fmd at hv;simp only[gB]at hv;have:=za8 hv.1.1;omega
  obtain⟨w,ht,y,u,v⟩:=f;simp only[fmc]at va hp hr |-;clear hv;refine .body (F0:=[(0,.agg [O J w,O J ht,.slice (bs y) y.length false,.slice (bs u) u.length false,.slice (bs v) v.length false]),(1,O J mx),(2,O J my)]) func95 rfl ntmps95 results95 rfl kr rfl ?_;refine .e (.x λK hK=> ?_);simp(disch:=omega) only[go_sem];(repeat'(first|((refine zg ?_ ?_)<;>intro h<;>(try simp only[nqb]at h)<;>simp(disch:=omega) only[go_sem,zF,h])|((refine VCx.call (va _) rfl ?_);simp(disch:=omega) only[go_sem,zF])));all_goals(refine hK _ _ ?_;clear hK va;(refine .ret ⟨_,rfl,?_⟩;refine .base (.id' ?_ (.bool _)));rw[hr];simp_all[slot,qE]<;>grind)
theorem F16.has{f:Fm}(h:F16 f):zcD f 0 0=true:=by unfold zcD;rw[h.fvd,h.w,h.h];rfl
theorem or6{i:Nat}(h:i<6):i=0\/i=1\/i=2\/i=3\/i=4\/i=5:=om
def zf8(n:Nat)(fd:Bool):List PV:=[O J (bfr n fd:Int),O J (bst n fd:Int),O J 8,O J 8]
theorem zb7(n:Nat)(a b c d:Int):∀ x∈[PV.int .i64 a,PV.int .i64 b,PV.int .i64 c,PV.int .i64 d],Scoped n x:=λx hx=>by simp only[gM,gL,uA]at hx;rcases hx with rfl|rfl|rfl|rfl<;>exact .int _ _
theorem zs9(H:za):CallOk prog 97 [O J 16,O J 0,O J 0] H (.tup [.agg [O J 0,O J 16,O J 16,O J 16],.agg [O J 0,O J 8,O J 8,O J 8]]) H:=by have d1:(16:Int).tdiv 2=8:=rfl;refine .go func97 ntmps97 results97 ?_;refine .e (.e ?_);refine .g d1 ?_;refine .y [H.length,H.length+1] [(6,[0]),(7,[1])] [] [] λK hK=> ?_;refine sqz ?_;refine hK _ _ ?_;refine .ret ⟨.tup [.agg [O J 0,O J 16,O J 16,O J 16],.agg [O J 0,O J 8,O J 8,O J 8]],by simp(disch:=omega) only[go_sem,zw,zJ,uR,vA,uN,uD,uO,Array.toList,Int.reduceMul,Int.reduceAdd],?_⟩;refine .base (.id (.tup (asc λx hx=> ?_)));grind[zn,zb7]
theorem zmg(n:Nat)(fd:Bool)(hn:n<6)(H:za):CallOk prog 220 [O J 16,O J 0,O J 0,O J (n:Int),.bool fd] H (.agg (zf8 n fd)) H:=by
 have mo:=λK=>zs9 K;have m1:(n:Int).tmod 2=((n%2:Nat):Int):=by rfl
 have m2:(n:Int).tdiv 2=((n / 2:Nat):Int):=by rfl
 refine .go func220 ntmps220 results220 ?_;refine .e (.k mo ?_);refine .e ?_;refine .c (λh=> ?_) (λh=> ?_)
 .have h4:4<=n:=by grind
  refine .e (.v (.agg [O J 0,O J 8,O J 8,O J 8]) ?_);have e:zf8 n fd=[O J 0,O J 8,O J 8,O J 8]:=by simp_all[zf8,bfr,bst]
  rw[e];exact .base (.id (zn (zb7 _ _ _ _ _)))
 have h4:¬ 4<=n:=by grind
 refine .skip (.g (nq2 m1 m2) ?_);cases fd
 .have e:zf8 n false=[O J (0+((n%2:Nat):Int) * 8+((n / 2:Nat):Int) * 8 * 16),O J 16,O J 8,O J 8]:=by grind[zf8,bfr,bst,Bool.false_eq_true,List.cons.injEq]
  refine .e (.us ?_);refine .e (.v (.agg [O J (0+((n%2:Nat):Int) * 8+((n / 2:Nat):Int) * 8 * 16),O J 16,O J 8,O J 8]) ?_);rw[e];exact .base (.id (zn (zb7 _ _ _ _ _)))
 .have e:zf8 n true=[O J (0+((n%2:Nat):Int) * 8+((n / 2:Nat):Int) * 16),O J 32,O J 8,O J 8]:=by unfold zf8 bfr bst;rw[gC h4,gC h4];simp_all
  refine .e (.t ?_);refine .e (.ret ⟨.agg [O J (0+((n%2:Nat):Int) * 8+((n / 2:Nat):Int) * 16),O J 32,O J 8,O J 8],by simp(disch:=omega) only[go_sem,zw,zJ,uR,vA,uN,uD,uO,Array.toList,Int.reduceMul],?_⟩);rw[e];exact .base (.id (zn (zb7 _ _ _ _ _)))
theorem zk8(w ht:Int)(y u v:List UInt8)(n:Nat)(H:za)(hn:n<6):CallOk prog 219 [.agg (fmc ⟨w,ht,y,u,v⟩),O J (n:Int)] H (.slice (bs (cmp ⟨w,ht,y,u,v⟩ n)) (cmp ⟨w,ht,y,u,v⟩ n).length false) H:=by
 refine .body (F0:=[(0,.agg [O J w,O J ht,.slice (bs y) y.length false,.slice (bs u) u.length false,.slice (bs v) v.length false]),(1,O J (n:Int))]) func219 rfl ntmps219 results219 rfl kr rfl ?_;refine .e (.e ?_);refine .b (.e ?_);refine .c (λh=> ?_) (λh=> ?_)
 .have e:n=4:=by grind
  subst e;refine .e ?_;exact .ret ⟨_,rfl,Fin.base (.id (zk (zh _ _)))⟩
 have e4:n≠4:=by grind
 refine .e ?_;refine .c (λh=> ?_) (λh=> ?_)
 .have e:n=5:=by grind
  subst e;refine .e ?_;exact .ret ⟨_,rfl,Fin.base (.id (zk (zh _ _)))⟩
 have e5:n≠5:=by grind
 have ec:cmp ⟨w,ht,y,u,v⟩ n=y:=by unfold cmp;rw[gC e4,gC e5]
 rw[ec];refine .skip (.e ?_);exact .ret ⟨_,rfl,Fin.base (.id (zk (zh _ _)))⟩
theorem zpL(p:List UInt8)(n:Nat)(fd:Bool):fil (λk=>byt p (bps n fd k)) 64=blk p n fd:=zkU _
theorem zjJ(n:Nat)(l:List Int)(e:Int):Scoped n (.tup [.agg (is l),O J e]):=.tup (asc λx hx=>by
 simp only[gM,gL,uA]at hx;rcases hx with rfl|rfl
 .exact zn (zae _ _)
 .exact .int _ _)
theorem zun(f:Fm)(hf:F16 f)(n:Nat)(hn:n<6)(fd:Bool)(H:za):
  CallOk prog 159 [.agg (fmc f),O J 0,O J 0,O J (n:Int),.bool fd] H (.tup [.agg (is (blk (cmp f n) n fd)),O J 0]) H:=by
 have hm:=λK=>zn3 f 0 0 K;rw[hf.has]at hm;have co:=λK=>zk8 f.w f.h f.y f.u f.v n K hn;have po:=λK=>zmg n fd hn K;have cl:=hf.cmp hn;have bb:bln n<=256:=by unfold bln;split<;>omega
 have bfb:bfr n fd<=150/\bst n fd<=150:=by rcases or6 hn with rfl|rfl|rfl|rfl|rfl|rfl<;>cases fd<;>decide
 have hfit:∀ k,k<8->bfr n fd+k * bst n fd+8<=(cmp f n).length:=λk hk=>by rw[cl];exact zqR hn k hk
 have cu:=λK=>zk4 (cmp f n) (bfr n fd) (bst n fd) 8 8 false K om om om hfit om;have ll:=zau (cmp f n) (bfr n fd) (bst n fd) 8 8 hfit;have lb:=λk hk=>zwd (p:=cmp f n) (fd:=fd) hn cl (k:=k) hk;have hz:=zg1 (λk=>byt (cmp f n) (bps n fd k));obtain⟨w,ht,y,u,v⟩:=f;have hw:w=16:=hf.w;have hh:ht=16:=hf.h;subst hw hh;simp only at co;obtain⟨P,hP⟩:∃ P,cmp ⟨16,16,y,u,v⟩ n=P:=⟨_,rfl⟩;rw[hP]at co cl hfit cu ll lb hz |-;obtain⟨Z,hZ⟩:∃ Z,ctl P (bfr n fd) (bst n fd) 8 8=Z:=⟨_,rfl⟩;rw[hZ]at cu ll lb;simp only[fmc]at hm co |-;unfold zf8 at po;refine .body (F0:=[(0,.agg [O J 16,O J 16,.slice (bs y) y.length false,.slice (bs u) u.length false,.slice (bs v) v.length false]),(1,O J 0),(2,O J 0),(3,O J (n:Int)),(4,.bool fd)]) func159 rfl ntmps159 results159 rfl kr rfl ?_;refine .e ?_;(repeat refine .seq ?_);refine .rgv (P:=prog) [1,2,3,4,5,10,11] 27 (.bool false) ?_ ?_ ?_
 .rfl
 .simp(disch:=omega) only[go_sem];(repeat'(((refine VCx.call (hm _) rfl ?_);simp(disch:=omega) only[go_sem])));all_goals(simp_all[slot,qE])
 refine .us (.e ?_);refine .dn λK hK=> ?_;simp(disch:=omega) only[go_sem];(repeat'(((first|refine VCy.call (co _) rfl ?_|refine VCy.call (po _) rfl ?_|refine VCy.call (cu _) rfl ?_);simp(disch:=omega) only[go_sem])));refine hK _ _ ?_;clear hK K;refine .l ?_;suffices h1:∀ k:Nat,k<=64->PL prog _ _ [(10,.ptr (H.length+1) 0 0),(12,.ptr (H.length+2) 0 0),(39,.slice (bs Z) 64 false),(40,O J 64),(41,O J (k:Int))] (H++[⟨29,0,[O J 16,O J 16,.slice (bs y) y.length false,.slice (bs u) u.length false,.slice (bs v) v.length false]⟩,⟨139,0,is zi⟩,⟨139,0,is (fil (λk=>byt P (bps n fd k)) k)⟩]) _ by exact .a (h1 0 om) rfl (by rw[hz];rfl)
 refine cnt 64 (λk hk ih=> ?_) ?_
 .refine .round (.e ?_);refine .t ?_;have g1:=lb k hk;rw[blk,zdA _ hk]at g1;have f1:=zeV (λk=>byt P (bps n fd k)) k;have f2:=za2 (λk=>byt P (bps n fd k)) k;have br:=zR P (bps n fd k);refine .skip (.b ?_);refine .f (λK k=>by simp(disch:=omega) only[go_sem,zak,zd,ll,g1];exact k) ?_;refine .f (λK k=>by simp(disch:=omega) only[go_sem,zj,f2,zaB,f1];exact k) ?_;refine .e ?_;exact .a ih
 refine .round (.e ?_);refine .u (.exit ?_);rw[zpL];have c3:(blk P n fd).length=64:=zaP _ _;have c4:(is (blk P n fd)).length=64:=by rfl
 have c5:=zq (blk P n fd);have c6:qA 64 (is (blk P n fd))=is (blk P n fd):=gH om;have z3:(is zi).length=64:=by rfl
 have z4:qD 64 (is zi)=[]:=uB om;refine .g (nq2 c4 (nq2 c5 (nq2 c6 (nq2 z3 z4)))) ?_;refine .w (.tup [.agg (is (blk P n fd)),O J 0]) (nq2 c4 c6) ?_;exact .base (.id (zjJ _ _ _))
def one(H:za)(r:Nat)(B:Blk):za:=H.set r B
theorem zcV(H:za)(r:Nat)(B:Blk):(one H r B).length=H.length:=by unfold one;simp
theorem zfN{H:za}{r:Nat}{B:Blk}(h:H[r]? =some B):one H r B=H:=by
 have hl:=(gA.1 h);unfold one;apply dG;intro i;rw[vG];split
 .rename_i e;subst e;rw[gD hl.1,h]
 .rfl
theorem zsR{H:za}{r:Nat}(hr:r<H.length)(B:Blk):(one H r B)[r]? =some B:=by unfold one;rw[vG];simp[hr]
theorem zsQ{H:za}{r:Nat}(hr:r<H.length)(B:Blk)(K:za):(one H r B++K)[r]? =some B:=by rw[gK (by rw[zcV];exact hr),zsR hr]
theorem zsN(H:za)(r:Nat)(B X:Blk)(K:za):(one H r B++X::K)[H.length]? =some X:=by rw[gN (by rw[zcV];omega),zcV];simp
theorem zsP{H:za}{r:Nat}(B C:Blk):(one H r B).set r C=one H r C:=by unfold one;rw[vL]
theorem zsO{H:za}{r:Nat}(hr:r<H.length)(B C:Blk)(K:za):(one H r B++K).set r C=one H r C++K:=by rw[uL _ _ (by rw[zcV];exact hr),zsP]
theorem zh4(P z:List UInt8)(a:Nat):zM (bs P) a (bs z)=bs (spl P a z):=by unfold zM spl;rw[zbi,zbY,zd,<-zS,<-zS,gU]
theorem zcB(p z:List UInt8)(r v a s w n:Nat)(g f:Bool)(H:za)(hr:H[r]? =some ⟨5,v,bs p⟩)(hw:w<=64)(hn:n<=64)(hp:p.length<=8192)(hz:z.length=n * w)(hfit:∀ k,k<n->a+k * s+w<=p.length)(hs:s<=200/\a<=200):
  CallOk prog 51 [.msl r v 0 p.length 1 g,.agg [O J (a:Int),O J (s:Int),O J (w:Int),O J (n:Int)],.slice (bs z) z.length f] H (.tup []) (H.set r ⟨5,v,bs (pst p a s w z n)⟩):=by
 have hrl:=(gA.1 hr).1;have hne:H.length≠r:=om;have hne':r≠H.length:=om;have o1:=λB K=>zsQ hrl B K;have o2:=λB X K=>zsN H r B X K;have o3:=λB C K=>zsO hrl B C K;have o4:=λB=>zcV H r B;have hbig:n * w<=4096:=uT hn hw;refine .go func51 ntmps51 results51 ?_;refine .eq rfl (zfN hr).symm ?_;refine .g o4 ?_;refine .g (nq2 o1 (nq2 o2 o3)) ?_;refine .l ?_;suffices hloop:∀ k:Nat,k<=n->PL prog _ _ [(0,.msl r v 0 p.length 1 g),(2,.slice (bs z) z.length f),(4,.ptr H.length 0 0),(8,O J (n:Int)),(9,O J (k:Int))] (one H r ⟨5,v,bs (pst p a s w z k)⟩++[⟨152,0,[O J (a:Int),O J (s:Int),O J (w:Int),O J (n:Int)]⟩]) _ by exact .a (hloop 0 (vU _))
 refine cnt n (λk hk ih=> ?_) ?_
 .have hpl:=zad (p:=p) (a:=a) (s:=s) hz k om λj hj=>hfit j om;have h6:=hfit k hk;have ct:=zco hk;have eR:(k:Int) * (w:Int)=((k * w:Nat):Int):=by simp
  have b1:(k+1) * w=k * w+w:=by rw[vE];omega
  have eR1:((k:Int)+1) * (w:Int)=((k * w+w:Nat):Int):=by rw[<-b1];simp
  have eS:(k:Int) * (s:Int)=((k * s:Nat):Int):=by simp
  have eA:(a:Int)+((k * s:Nat):Int)=((a+k * s:Nat):Int):=by simp
  have b2:(k+1) * w<=n * w:=gT _ om;have e3:k * w+w - k * w=w:=om;have rl:=zaZ hz hk;have hmin:min (p.length - (a+k * s)) w=w:=om;have htk:qA w (qA w (qD (k * w) z))=qA w (qD (k * w) z):=gH om;rw[pst]at ih;refine .round (.g ct ?_);refine .t (.skip ?_);refine .b (.e ?_);rw[b1]at b2;(repeat refine .seq ?_);refine .drawt [] [] mix kr λK hK=> ?_;simp(disch:=omega) only[go_sem,zy,o1,o2,o3,eR,eR1,eS,eA,e3,zd,hpl,zbY,zbi,hmin,rl,htk];refine hK _ _ ?_;clear hK K;refine .e (.a ih rfl ?_);rw[<-zh4,show min w (p.length - (a+k * s))=w from om,htk];simp[zM,zbi,zbY,zS,zd,rl]
 refine .round (.f (λK k=>by simp(disch:=omega) only[go_sem,zcP n];exact k) ?_);refine .u (.exit ?_);refine sI _ (uI rfl ?_);exact .cut (A:=one H r ⟨5,v,bs (pst p a s w z n)⟩) rfl (zcV _ _ _).symm (λhh=>HSc.set hh λx hx=>zh _ _ x hx) (.id (.tup (asc λx hx=>by cases hx)))
theorem zgK(p:List UInt8)(f:Bool)(r:Nat)(H:za)(hr:H[r]? =some ⟨5,0,[]⟩)(hp:1<=p.length/\p.length<=100000):
  CallOk prog 170 [.slice (bs p) p.length f] H (.msl r 1 0 p.length 1 true) (H.set r ⟨5,1,bs p⟩):=by
 have hrl:=(gA.1 hr).1;have o1:=λB=>zsR hrl B;have o3:=λB C=>zsP (H:=H) (r:=r) B C;have rz:(qB p.length [PV.int .u8 0]).flatten=bs (qB p.length 0):=zbh _;have htk:qA p.length (bs p)=bs p:=gH (by rw[zd];omega);refine .go func170 ntmps170 results170 ?_;refine .e (.eq rfl (zfN hr).symm ?_);(repeat refine .seq ?_);refine .seqi [r] [(6,0)] rfl λK hK=> ?_;simp(disch:=omega) only[go_sem,o1,o3];refine hK _ _ ?_;rw[rz];refine .f (λK k=>by simp(disch:=omega) only[go_sem,o1,o3,zd,htk,uQ];exact k) ?_;refine .e (.ret ⟨_,rfl,.inl ⟨rfl,?_⟩⟩);unfold one;rw[Nat.min_self,htk,uB (by simp[zd]),gQ]
theorem zqB{K0 L L':za}(hl:L'.length=L.length)(hL:∀ b∈L',∀ x∈b.cells,Scoped (K0.length+L.length) x)(h:HSc (K0++L)):HSc (K0++L'):=λid k hk x hx=>by
 rw[gP,hl];rw[nA]at hk;split at hk
 .rename_i hlt;have:=h id k (by rw[gK hlt];exact hk) x hx;rwa[gP]at this
 .exact hL k (uE hk) x hx
def plc:Blk:=⟨5,0,[]⟩
def cpB(p:List UInt8):Blk:=⟨5,1,bs p⟩
theorem zjG(w ht:Int)(y u v:List UInt8)(K0:za)(hy:1<=y.length/\y.length<=100000)(hu:1<=u.length/\u.length<=100000)(hv:1<=v.length/\v.length<=100000):
  CallOk prog 96 [.agg (fmc ⟨w,ht,y,u,v⟩)] (K0++[plc,plc,plc]) (.agg [O J w,O J ht,.msl K0.length 1 0 y.length 1 true,.msl (K0.length+1) 1 0 u.length 1 true,.msl (K0.length+2) 1 0 v.length 1 true]) (K0++[cpB y,cpB u,cpB v]):=by
 have g1:K0.length≠K0.length+1:=om;refine .body (F0:=[(0,.agg [O J w,O J ht,.slice (bs y) y.length false,.slice (bs u) u.length false,.slice (bs v) v.length false])]) func96 rfl ntmps96 results96 rfl kr rfl ?_;refine .e (.y [K0.length,K0.length+1,K0.length+2,K0.length+4] [(2,[3]),(8,[0]),(11,[1]),(14,[2])] [] [] λK hK=> ?_);simp(disch:=omega) only[go_sem];refine VCj.wr1 (id:=K0.length) (k:=plc) (b:=cpB y) (hp0 _ _ _) (λL hL _=>zgK y false _ L hL hy) (by simp(disch:=omega) only[go_sem]) (.inr (by simp(disch:=omega) only[go_sem])) rfl ?_;simp(disch:=omega) only[go_sem];refine VCj.wr1 (id:=K0.length+1) (k:=plc) (b:=cpB u) (hp1 _ _ _ _) (λL hL _=>zgK u false _ L hL hu) (by simp(disch:=omega) only[go_sem]) (.inr (by simp(disch:=omega) only[go_sem])) rfl ?_;simp(disch:=omega) only[go_sem];refine VCj.wr1 (id:=K0.length+2) (k:=plc) (b:=cpB v) (hp2 _ _ _ _ _) (λL hL _=>zgK v false _ L hL hv) (by simp(disch:=omega) only[go_sem]) (.inr (by simp(disch:=omega) only[go_sem])) rfl ?_;simp(disch:=omega) only[go_sem];refine hK _ _ ?_;refine .v (.agg [O J w,O J ht,.msl K0.length 1 0 y.length 1 true,.msl (K0.length+1) 1 0 u.length 1 true,.msl (K0.length+2) 1 0 v.length 1 true]) ?_;refine .cut (A:=K0++[cpB y,cpB u,cpB v]) (gU _ [_,_,_] [_,_]).symm sp (zqB sp λb hb x hx=> ?_) (.id (zn λx hx=> ?_))
 .simp only[gM,gL,uA]at hb;rcases hb with rfl|rfl|rfl<;>exact zh _ _ x hx
 .simp only[gM,gL,uA]at hx;rcases hx with rfl|rfl|rfl|rfl|rfl
  .exact .int _ _
  .exact .int _ _
  .exact .msl (by simp only[gP,gZ,uS];omega)
  .exact .msl (by simp only[gP,gZ,uS];omega)
  .exact .msl (by simp only[gP,gZ,uS];omega)
theorem zhp(v:Int)(h: -200<=v/\v<=400):za7 .and .i64 v .i64 1=some (O J (v%2)):=by
 have key:∀ n:Nat,n<601->IntKind.i64.wrap (((BitVec.ofInt 64 ((n:Int) - 200)&&& BitVec.ofInt 64 1).toNat:Nat):Int)=((n:Int) - 200)%2:=by decide+kernel
 have:=key (v+200).toNat om;rw[show(((v+200).toNat:Nat):Int) - 200=v from om]at this;show some (PV.int .i64 (IntKind.i64.wrap (((BitVec.ofInt 64 v&&& BitVec.ofInt 64 1).toNat:Nat):Int)))=_;rw[this]
theorem zeL(k':IntKind)(v:Int):za7 .shr .i64 v k' 1=some (O J (v / 2)):=by simp only[za7];rw[gC om,show min (1:Int).toNat IntKind.i64.bits=1 by decide,mL _ (by decide)];rfl
theorem zoY(k':IntKind)(v:Int):za7 .shr .i64 v k' 2=some (O J (v / 4)):=by simp only[za7];rw[gC om,show min (2:Int).toNat IntKind.i64.bits=2 by decide,mL _ (by decide)];rfl
theorem zeS(i n:Int)(hn:1<=n/\n<=10000)(H:za):CallOk prog 264 [O J i,O J n] H (O J (clm i n)) H:=by refine .go func264 ntmps264 results264 ?_;refine .e (.e ?_);(refine .ret ⟨_,rfl,?_⟩;refine .inl ⟨?_,rfl⟩);grind[slot,qE,clm]
theorem zeZ{i:Int}{n:Nat}(hn:1<=n):∃ a:Nat,clm i n=(a:Int)/\a<n:=by have:=zy0 (i:=i) (n:=(n:Int)) om;exact⟨(clm i n).toNat,om,om⟩
theorem zm0{a b W R:Nat}(ha:a<W)(hb:b<R):b * W+a<W * R/\b * W<=W * R:=by have h1:(b+1) * W<=R * W:=gT _ om;grind
structure Itp(i2 i3 i4 i5 i6:Nat)(p:List UInt8)(W R:Nat)(dx dy:Int)(H:za):Prop where
 a:H[i2]? =some ⟨3,0,[O J (W:Int)]⟩
 b:H[i3]? =some ⟨3,1,[O J dx]⟩
 c:H[i4]? =some ⟨3,0,[O J (R:Int)]⟩
 d:H[i5]? =some ⟨3,1,[O J dy]⟩
 e:H[i6]? =some ⟨27,0,[.slice (bs p) p.length false]⟩
theorem zyA(i2 i3 i4 i5 i6:Nat)(p:List UInt8)(W R:Nat)(dx dy c r:Int)(H:za)(hI:Itp i2 i3 i4 i5 i6 p W R dx dy H)(hp:p.length=W * R)(hW:1<=W/\W<=64)(hR:1<=R/\R<=64)(hd:0<=dx/\dx<=1/\0<=dy/\dy<=1)(hc: -1000<=c/\c<=1000/\-1000<=r/\r<=1000):
  CallOk prog 263 [O J c,O J r,.ptr i2 0 0,.ptr i3 1 0,.ptr i4 0 0,.ptr i5 1 0,.ptr i6 0 0] H (.int .u8 ((smp p W R c r+smp p W R (c+dx) r+smp p W R c (r+dy)+smp p W R (c+dx) (r+dy)+2) / 4)) H:=by
 obtain⟨h2,h3,h4,h5,h6⟩:=hI;have n1:=λK=>zeS c W om K;have n2:=λK=>zeS (c+dx) W om K;have n3:=λK=>zeS r R om K;have n4:=λK=>zeS (r+dy) R om K;have s1:smp p W R c r=byt p (clm r R * W+clm c W).toNat:=rfl;have s2:smp p W R (c+dx) r=byt p (clm r R * W+clm (c+dx) W).toNat:=rfl;have s3:smp p W R c (r+dy)=byt p (clm (r+dy) R * W+clm c W).toNat:=rfl;have s4:smp p W R (c+dx) (r+dy)=byt p (clm (r+dy) R * W+clm (c+dx) W).toNat:=rfl;obtain⟨a,ea,la⟩:=zeZ (i:=c) hW.1;obtain⟨b,eb,lb⟩:=zeZ (i:=c+dx) hW.1;obtain⟨u,eu,lu⟩:=zeZ (i:=r) hR.1;obtain⟨l,el,ll⟩:=zeZ (i:=r+dy) hR.1;rw[ea]at n1;rw[eb]at n2;rw[eu]at n3;rw[el]at n4;rw[ea,eu]at s1;rw[eb,eu]at s2;rw[ea,el]at s3;rw[eb,el]at s4;have bg:W * R<=64 * 64:=uT om om;have k1:=zm0 la lu;have k2:=zm0 lb lu;have k3:=zm0 la ll;have k4:=zm0 lb ll;have e0:(u:Int) * (W:Int)=((u * W:Nat):Int):=by simp
 have e1:(l:Int) * (W:Int)=((l * W:Nat):Int):=by simp
 have e2:((u * W:Nat):Int)+(a:Int)=((u * W+a:Nat):Int):=om;have e3:((u * W:Nat):Int)+(b:Int)=((u * W+b:Nat):Int):=om;have e4:((l * W:Nat):Int)+(a:Int)=((l * W+a:Nat):Int):=om;have e5:((l * W:Nat):Int)+(b:Int)=((l * W+b:Nat):Int):=om;rw[e0,e2,uV]at s1;rw[e0,e3,uV]at s2;rw[e1,e4,uV]at s3;rw[e1,e5,uV]at s4;rw[s1,s2,s3,s4];have r1:=zR p (u * W+a);have r2:=zR p (u * W+b);have r3:=zR p (l * W+a);have r4:=zR p (l * W+b);refine .go func263 ntmps263 results263 ?_;refine .e (.dn λK hK=> ?_);simp(disch:=omega) only[go_sem,h2,h3];(repeat'(((first|refine VCy.call (n1 _) rfl ?_|refine VCy.call (n2 _) rfl ?_);simp(disch:=omega) only[go_sem,h2,h3])));refine hK _ _ ?_;clear hK K;refine .dn λK hK=> ?_;simp(disch:=omega) only[go_sem,h2,h4,h5,e0,e1];(repeat'(((first|refine VCy.call (n3 _) rfl ?_|refine VCy.call (n4 _) rfl ?_);simp(disch:=omega) only[go_sem,h2,h4,h5,e0,e1])));refine hK _ _ ?_;clear hK K;refine .dn λK hK=> ?_;simp(disch:=omega) only[go_sem,h6,e2,e3,e4,e5,zak,zd];refine hK _ _ ?_;clear hK K;refine .g @zoY ?_;(refine .ret ⟨_,rfl,?_⟩;refine .inl ⟨?_,rfl⟩);rfl
def prk(p:List UInt8)(W R x y:Int)(w:Nat)(vx vy:Int)(k:Nat):List UInt8:=rgB k λk=>pxl p W R (x+((k%w:Nat):Int)) (y+((k / w:Nat):Int)) vx vy
theorem zho(p:List UInt8)(W R x y:Int)(w:Nat)(vx vy:Int)(k:Nat):(prk p W R x y w vx vy k).length=k:=zcT _ _
theorem zl5(p:List UInt8)(W R x y:Int)(w:Nat)(vx vy:Int)(j i:Nat)(hi:i<w):bs (prk p W R x y w vx vy (j * w+(i+1)))=bs (prk p W R x y w vx vy (j * w+i))++[.int .u8 (pxl p W R (x+(i:Int)) (y+(j:Int)) vx vy)]:=by
 have e1:(j * w+i)%w=i:=by rw[sG,Nat.add_mul_mod_self_right];exact sZ hi
 have e2:(j * w+i) / w=j:=by rw[sG,Nat.add_mul_div_right _ _ om,Nat.div_eq_of_lt hi,wF]
 grind[prk,Nat.add_assoc,zl0,zS,zul,zd5,zyf]
theorem zoZ(p:List UInt8)(W R x y:Int)(w h:Nat)(vx vy:Int):prk p W R x y w vx vy (h * w)=prd p W R x y w h vx vy:=by rw[prk,prd,dC]
theorem zff(p:List UInt8)(W R w hg:Nat)(x y vx vy:Int)(H:za)(hp:p.length=W * R)(hW:1<=W/\W<=64)(hR:1<=R/\R<=64)(hw:1<=w/\w<=16)(hgb:hg<=16)(hx:0<=x/\x<=64/\0<=y/\y<=64)(hv: -63<=vx/\vx<=63/\-63<=vy/\vy<=63):
  CallOk prog 225 [.slice (bs p) p.length false,O J (W:Int),O J (R:Int),.agg [O J x,O J y,O J (w:Int),O J (hg:Int)],.agg [O J vx,O J vy]] H (.slice (bs (prd p W R x y w hg vx vy)) (w * hg) false) H:=by
 have e0:(w:Int) * (hg:Int)=((hg * w:Nat):Int):=by grind
 have hbig:hg * w<=16 * 16:=uT hgb hw.2;have a1:=zhp vx om;have a2:=zhp vy om;refine .go func225 ntmps225 results225 ?_;refine .e (.view (Vs.place 3) ?_);refine .view (Vs.place 3) ?_;refine .y [H.length+5,H.length+6] [(11,[0]),(12,[1])] [(11,0),(12,1)] [] λK hK=> ?_;simp(disch:=omega) only[go_sem,zy,a1,a2];refine hK _ _ ?_;refine .e (.g e0 ?_);refine .e (.l ?_);suffices h1:∀ j:Nat,j<=hg->PL prog _ _ [(8,.ptr (H.length+3) 0 0),(9,.ptr (H.length+4) 0 0),(13,.func 263 [] [.ptr (H.length+1) 0 0,.ptr (H.length+5) 1 0,.ptr (H.length+2) 0 0,.ptr (H.length+6) 1 0,.ptr H.length 0 0]),(14,.msl (H.length+7) (j * w) 0 (j * w) 1 true),(31,O J (hg:Int)),(32,O J (j:Int))] (H++[⟨27,0,[.slice (bs p) p.length false]⟩,⟨3,0,[O J (W:Int)]⟩,⟨3,0,[O J (R:Int)]⟩,⟨313,0,[O J x,O J y,O J (w:Int),O J (hg:Int)]⟩,⟨133,0,[O J vx,O J vy]⟩,⟨3,1,[O J (vx%2)]⟩,⟨3,1,[O J (vy%2)]⟩,⟨5,j * w,bs (prk p W R x y w vx vy (j * w))⟩]) _ by exact .a (h1 0 om) (by rw[vV];rfl) (by rw[vV];rfl)
 refine cnt hg (λj hj ih=> ?_) ?_
 .have ct:=zco hj;refine .round (.g ct ?_);refine .t (.skip ?_);refine .b (.e ?_);refine .e (.l ?_);suffices h2:∀ i:Nat,i<=w->PL prog _ _ [(8,.ptr (H.length+3) 0 0),(9,.ptr (H.length+4) 0 0),(13,.func 263 [] [.ptr (H.length+1) 0 0,.ptr (H.length+5) 1 0,.ptr (H.length+2) 0 0,.ptr (H.length+6) 1 0,.ptr H.length 0 0]),(14,.msl (H.length+7) (j * w+i) 0 (j * w+i) 1 true),(15,O J (j:Int)),(31,O J (hg:Int)),(32,O J (j:Int)),(36,O J (w:Int)),(37,O J (i:Int))] (H++[⟨27,0,[.slice (bs p) p.length false]⟩,⟨3,0,[O J (W:Int)]⟩,⟨3,0,[O J (R:Int)]⟩,⟨313,0,[O J x,O J y,O J (w:Int),O J (hg:Int)]⟩,⟨133,0,[O J vx,O J vy]⟩,⟨3,1,[O J (vx%2)]⟩,⟨3,1,[O J (vy%2)]⟩,⟨5,j * w+i,bs (prk p W R x y w vx vy (j * w+i))⟩]) _ by exact .a (h2 0 om)
  refine cnt w (λi hi ih2=> ?_) ?_
  .have ct:=zco hi;refine .round (.g ct ?_);refine .t ?_;have b2:(j+1) * w<=hg * w:=gT _ om;rw[vE,wK]at b2;have pl:=zho p W R x y w vx vy (j * w+i);have it:=zyA (H.length+1) (H.length+5) (H.length+2) (H.length+6) H.length p W R (vx%2) (vy%2) (x+(i:Int)+vx / 2) (y+(j:Int)+vy / 2) (H++[⟨27,0,[.slice (bs p) p.length false]⟩,⟨3,0,[O J (W:Int)]⟩,⟨3,0,[O J (R:Int)]⟩,⟨313,0,[O J x,O J y,O J (w:Int),O J (hg:Int)]⟩,⟨133,0,[O J vx,O J vy]⟩,⟨3,1,[O J (vx%2)]⟩,⟨3,1,[O J (vy%2)]⟩,⟨5,j * w+i,bs (prk p W R x y w vx vy (j * w+i))⟩]) ⟨apn _ _ 1,apn _ _ 5,apn _ _ 2,apn _ _ 6,hp0 _ _ _⟩ hp hW hR om om;rw[<-pxl]at it;rw[zl5 _ _ _ _ _ _ _ _ _ _ hi]at ih2;refine .skip (.b ?_);refine .e (.f (λK k=>by simp(disch:=omega) only[go_sem,zeL,zd,pl];refine VCx.call (it) rfl ?_;simp(disch:=omega) only[go_sem,zeL,zd,pl];exact k) ?_);refine .e ?_;have lp:(bs (prk p W R x y w vx vy (j * w+i))++[PV.int .u8 (pxl p W R (x+(i:Int)) (y+(j:Int)) vx vy)]).length=j * w+(i+1):=by simp[zd,pl];omega
   exact .a ih2 (by rw[lp];rfl) (by rw[lp])
  .refine .round (.f (λK k=>by simp(disch:=omega) only[go_sem,zcP w];exact k) ?_);refine .u (.exit ?_);refine .e ?_;exact .a ih (by rw[vE,wK];rfl) (by rw[vE,wK])
 refine .round (.f (λK k=>by simp(disch:=omega) only[go_sem,zcP hg];exact k) ?_);refine .u (.exit ?_);have pl:=zho p W R x y w vx vy (hg * w);refine .e ?_;rw[<-zoZ,dC w hg];refine .ret ⟨_,rfl,?_⟩;exact .base (Fz.mslC (e:=5) (xs:=bs (prk p W R x y w vx vy (hg * w))) om (apn _ _ 7) (by rw[zd,pl];omega) (FzC.refl (zh _ _)))
def flB(N:Nat)(f:Nat->Int)(n:Nat):List UInt8:=rgB N λj=>if j<n then f j else 0
theorem zhx(N:Nat)(f:Nat->Int)(n:Nat):(flB N f n).length=N:=zcT _ _
theorem ztM(N:Nat)(f:Nat->Int):bs (flB N f 0)=zcc N [PV.int .u8 0]:=by rw[zbh];congr 1;apply dD;all_goals simp_all[flB,rgB,u8]
theorem zhw{N:Nat}{f:Nat->Int}{n:Nat}(hf:0<=f n/\f n<=255):(bs (flB N f n)).set n (.int .u8 (f n))=bs (flB N f (n+1)):=by
 conv=>lhs;rw[<-zd5 hf]
 rw[ziZ];congr 1;apply dD;all_goals grind[flB,rgB]
theorem zeU(N:Nat)(f:Nat->Int):flB N f N=rgB N f:=zvf λi hi=>gD hi
theorem zkE(a b:List UInt8)(f g:Bool)(H:za)(hl:a.length=b.length)(ha:a.length<=8192):CallOk prog 226 [.slice (bs a) a.length f,.slice (bs b) b.length g] H (.slice (bs (mnb a b)) a.length false) H:=by
 have hz:=ztM a.length (λi=>(byt a i+byt b i+1) / 2);have he:=zeU a.length (λi=>(byt a i+byt b i+1) / 2);rw[<-mnb]at he;refine .go func226 ntmps226 results226 ?_;refine .e (.e ?_);refine .e (.l ?_);suffices h1:∀ k:Nat,k<=a.length->PL prog _ _ [(1,.slice (bs b) b.length g),(5,.msl H.length 0 0 a.length 1 true),(11,.slice (bs a) a.length f),(12,O J (a.length:Int)),(13,O J (k:Int))] (H++[⟨5,0,bs (flB a.length (λi=>(byt a i+byt b i+1) / 2) k)⟩]) _ by exact .a (h1 0 om) rfl (by rw[hz];rfl)
 refine cnt a.length (λk hk ih=> ?_) ?_
 .have ct:=zco hk;have r1:=zR a k;have r2:=zR b k;have fl:=zhx a.length (λi=>(byt a i+byt b i+1) / 2) k;have fs:=zhw (N:=a.length) (f:=λi=>(byt a i+byt b i+1) / 2) (n:=k) (by show 0<=(byt a k+byt b k+1) / 2/\(byt a k+byt b k+1) / 2<=255;omega);refine .round (.g ct ?_);refine .t (.skip ?_);refine .b (.f (λK k=>by simp(disch:=omega) only[go_sem,zak,zd];exact k) ?_);refine .f (λK k=>by simp(disch:=omega) only[go_sem,zak,zd,fl,zeL,fs];exact k) ?_;refine .e ?_;exact .a ih
 refine .round (.f (λK k=>by simp(disch:=omega) only[go_sem,zcP a.length];exact k) ?_);refine .u (.exit ?_);rw[he];refine .e (.ret ⟨_,rfl,?_⟩);exact .base (Fz.mslC (e:=5) (xs:=bs (mnb a b)) om (hp0 _ _ _) (by rw[zd,zhq];omega) (FzC.refl (zh _ _)))
theorem zwP(y u v p:List UInt8)(w h:Int):zh2 ⟨w,h,y,u,v⟩ 4 p=⟨w,h,y,p,v⟩:=rfl
theorem zwO(y u v p:List UInt8)(w h:Int):zh2 ⟨w,h,y,u,v⟩ 5 p=⟨w,h,y,u,p⟩:=rfl
theorem zwN(y u v p:List UInt8)(w h:Int){n:Nat}(h4:n≠4)(h5:n≠5):zh2 ⟨w,h,y,u,v⟩ n p=⟨w,h,p,u,v⟩:=by unfold zh2;rw[gC h4,gC h5]
theorem zxk(y u v:List UInt8)(w h:Int){n:Nat}(h4:n≠4)(h5:n≠5):cmp ⟨w,h,y,u,v⟩ n=y:=by unfold cmp;rw[gC h4,gC h5]
theorem zuc(w ht:Int)(r a b c:Nat)(n:Nat)(H:za)(hr:r+2<H.length)(hn:n<6):CallOk prog 219 [.agg [O J w,O J ht,.msl r 1 0 a 1 true,.msl (r+1) 1 0 b 1 true,.msl (r+2) 1 0 c 1 true],O J (n:Int)] H (if n=4 then .msl (r+1) 1 0 b 1 true else if n=5 then .msl (r+2) 1 0 c 1 true else .msl r 1 0 a 1 true) H:=by
 refine .go func219 ntmps219 results219 ?_;refine .e (.e ?_);refine .b (.e ?_);refine .c (λh=> ?_) (λh=> ?_)
 .have e:n=4:=by grind
  subst e;refine .e ?_;exact .ret ⟨_,rfl,Fin.base (.id (.msl om))⟩
 have e4:n≠4:=by grind
 rw[gC e4];refine .e ?_;refine .c (λh=> ?_) (λh=> ?_)
 .have e:n=5:=by grind
  subst e;refine .e ?_;exact .ret ⟨_,rfl,Fin.base (.id (.msl om))⟩
 have e5:n≠5:=by grind
 rw[gC e5];refine .skip (.e ?_);exact .ret ⟨_,rfl,Fin.base (.id (.msl om))⟩
theorem zan(n:Nat)(a b:Int)(p q r:List UInt8)(i j k:Nat)(e f g:Bool):∀ x∈[PV.int .i64 a,PV.int .i64 b,PV.slice (bs p) i e,PV.slice (bs q) j f,PV.slice (bs r) k g],Scoped n x:=λx hx=>by
 simp only[gM,gL,uA]at hx;rcases hx with rfl|rfl|rfl|rfl|rfl
 .exact .int _ _
 .exact .int _ _
 all_goals grind[zk,zh]
theorem zzS(x:List Int):flB 64 (λk=>clp (ze x k)) 64=rgB 64 λk=>clp (ze x k):=zeU _ _
theorem zlU(f:Fm)(hf:F16 f)(n:Nat)(hn:n<6)(fd:Bool)(x:List Int)(hx:x.length=64)(H:za):
  CallOk prog 161 [.agg (fmc f),O J 0,O J 0,O J (n:Int),.bool fd,.agg (is x)] H (.tup [.agg (fmc (zh2 f n (zdw (cmp f n) n fd x))),O J 0]) H:=by
 have hm:=λK=>zn3 f 0 0 K;rw[hf.has]at hm;have po:=λK=>zmg n fd hn K;have cl:=hf.cmp hn;have bfb:bfr n fd<=150/\bst n fd<=150:=by rcases or6 hn with rfl|rfl|rfl|rfl|rfl|rfl<;>cases fd<;>decide
 have bb:bln n<=256:=by unfold bln;split<;>omega
 have hfit:∀ k,k<8->bfr n fd+k * bst n fd+8<=(cmp f n).length:=λk hk=>by rw[cl];exact zqR hn k hk
 have zl:(rgB 64 λk=>clp (ze x k)).length=64:=zcT _ _;have pa:=λr K hr=>zcB (cmp f n) (rgB 64 λk=>clp (ze x k)) r 1 (bfr n fd) (bst n fd) 8 8 true false K hr om om om zl hfit om;have hsl:=zcw (fd:=fd) (x:=x) hn cl;have hset:pst (cmp f n) (bfr n fd) (bst n fd) 8 (rgB 64 λk=>clp (ze x k)) 8=zdw (cmp f n) n fd x:=rfl;have hz:=ztM 64 (λk=>clp (ze x k));obtain⟨w,ht,y,u,v⟩:=f;obtain⟨hw,hh,l1,l2,l3⟩:=hf;simp only at hw hh l1 l2 l3;subst hw hh;rw[hset]at pa;have hall:=zq x;have tkx:qA 64 (is x)=is x:=gH (by rw[zj];omega);have fc:=zjG 16 16 y u v (H++[⟨29,0,fmc ⟨16,16,y,u,v⟩⟩,⟨139,0,is x⟩,⟨29,0,[O J 0,O J 0,.slice [] 0 true,.slice [] 0 true,.slice [] 0 true]⟩]) om om om;simp only[fmc,plc,l1,l2,l3,zl,hl3,gU,uZ,vC,vT,qF]at hm fc pa |-;unfold zf8 at po;obtain⟨Z,hZ⟩:∃ Z,rgB 64 (λk=>clp (ze x k))=Z:=⟨_,rfl⟩;rw[hZ]at pa zl;have hZ2:flB 64 (λk=>clp (ze x k)) 64=Z:=(zzS x).trans hZ;refine .body (F0:=[(0,.agg [O J 16,O J 16,.slice (bs y) 256 false,.slice (bs u) 64 false,.slice (bs v) 64 false]),(1,O J 0),(2,O J 0),(3,O J (n:Int)),(4,.bool fd),(5,.agg (is x))]) func161 rfl ntmps161 results161 rfl kr rfl ?_;refine .g hall ?_;(repeat refine .seq ?_);refine .rgv (P:=prog) [1,2,3,4,6,11,12,13] 30 (.bool false) ?_ ?_ ?_
 .rfl
 .simp(disch:=omega) only[go_sem];(repeat'(((refine VCx.call (hm _) rfl ?_);simp(disch:=omega) only[go_sem])));all_goals(simp_all[slot,qE])
 refine .us (.e ?_);refine .f (λK k=>by simp(disch:=omega) only[go_sem,zj,tkx];exact k) ?_;refine .l ?_;suffices h1:∀ k:Nat,k<=64->PL prog _ _ [(1,O J 0),(2,O J 0),(3,O J (n:Int)),(4,.bool fd),(6,.ptr H.length 0 0),(12,.ptr (H.length+2) 0 0),(14,.msl (H.length+3) 0 0 64 1 true),(33,.agg (is x)),(34,O J (k:Int))] (H++[⟨29,0,[O J 16,O J 16,.slice (bs y) 256 false,.slice (bs u) 64 false,.slice (bs v) 64 false]⟩,⟨139,0,is x⟩,⟨29,0,[O J 0,O J 0,.slice [] 0 true,.slice [] 0 true,.slice [] 0 true]⟩,⟨5,0,bs (flB 64 (λk=>clp (ze x k)) k)⟩]) _ by exact .a (h1 0 om) rfl (by rw[hz];rfl)
 refine cnt 64 (λk hk ih=> ?_) ?_
 .refine .round (.e ?_);refine .t ?_;have b1:=zfo (ze x k);have cp:(if 255<(if ze x k<0 then 0 else ze x k)then 255 else(if ze x k<0 then 0 else ze x k))=clp (ze x k):=by unfold clp;omega
  have f1:=zhw (N:=64) (f:=λk=>clp (ze x k)) (n:=k) b1;have f2:=zhx 64 (λk=>clp (ze x k)) k;refine .skip (.b ?_);refine .f (λK k=>by simp(disch:=omega) only[go_sem,zQ,zj,hx];exact k) ?_;refine .f (λK k=>by simp(disch:=omega) only[go_sem,zd,f2,cp,f1];exact k) ?_;refine .e ?_;exact .a ih
 refine .round (.e ?_);refine .u (.exit ?_);rw[hZ2];refine .view (Vs.trim (F1:=[(1,O J 0),(2,O J 0),(3,O J (n:Int)),(4,.bool fd),(6,.ptr H.length 0 0),(12,.ptr (H.length+2) 0 0),(14,.slice (bs Z) 64 false)]) (H1:=H++[⟨29,0,[O J 16,O J 16,.slice (bs y) 256 false,.slice (bs u) 64 false,.slice (bs v) 64 false]⟩,⟨139,0,is x⟩,⟨29,0,[O J 0,O J 0,.slice [] 0 true,.slice [] 0 true,.slice [] 0 true]⟩]) (zfi ?_) sp (gU _ [_,_,_] [_]).symm ?_) ?_
 .intro b hb z hz;simp only[gM,gL,uA]at hb;rcases hb with rfl|rfl|rfl
  .exact zan _ 16 16 y u v _ _ _ _ _ _ z hz
  .exact zae _ _ z hz
  .exact zan _ 0 0 [] [] [] _ _ _ _ _ _ z hz
 .rw[hl3];exact⟨.id (.int _ _),.id (.int _ _),.id (.int _ _),.id (.bool _),.id (.ptr om),.id (.ptr om),Fz.mslC (e:=5) (xs:=bs Z) om (apn _ _ 3) (by rw[zd,zl]) (FzC.refl (zh _ _)),trivial⟩
 refine .view (Vs.place 5) ?_;refine .view (Vs.place 5) ?_;refine .view (Vs.place 5) ?_;refine .f (λK k=>by simp(disch:=omega) only[go_sem];refine VCx.call (fc) rfl ?_;simp(disch:=omega) only[go_sem];exact k) ?_;have co:=λL hL=>zuc 16 16 (H.length+3) 256 64 64 n L hL hn;simp only[vT,qF]at co;by_cases h4:n=4
 .subst h4;have cu:cmp ⟨16,16,y,u,v⟩ 4=u:=rfl;rw[cu]at hsl pa cl;rw[cu,zwP];simp only[gD,hsl,l1,l2,l3]at co pa |-;refine .y [H.length+4] [(50,[0])] [] [50,57] λK hK=> ?_;refine sqz ?_;refine VCj.read (λL hL=>co L (by have:=hL.len;simp at this;omega)) rfl ?_;refine sqz ?_;refine VCj.read (λ_ _=>po _) rfl ?_;refine sqz ?_;refine VCj.wr1 (id:=H.length+4) (k:=cpB u) (b:=cpB (zdw u 4 fd x)) (apn _ _ 4) (λL hL _=>pa _ L hL) (by simp(disch:=omega) only[go_sem]) (.inl rfl) rfl ?_;refine sqz ?_;refine hK _ _ ?_;clear hK K;refine .e (.v (.tup [.agg [O J 16,O J 16,.msl (H.length+3) 1 0 256 1 true,.msl (H.length+4) 1 0 64 1 true,.msl (H.length+5) 1 0 64 1 true],O J 0]) ?_);refine .base (Fz.tupC ⟨Fz.aggC ⟨.id (.int _ _),.id (.int _ _),Fz.mslC (e:=5) (xs:=bs y) om (apn _ _ 3) (by rw[zd];omega) (FzC.refl (zh _ _)),Fz.mslC (e:=5) (xs:=bs (zdw u 4 fd x)) om (apn _ _ 4) (by rw[zd];omega) (FzC.refl (zh _ _)),Fz.mslC (e:=5) (xs:=bs v) om (apn _ _ 5) (by rw[zd];omega) (FzC.refl (zh _ _)),trivial⟩,.id (.int _ _),trivial⟩)
 by_cases h5:n=5
 .subst h5;have cu:cmp ⟨16,16,y,u,v⟩ 5=v:=rfl;rw[cu]at hsl pa cl;rw[cu,zwO];simp only[gC h4,gD,hsl,l1,l2,l3]at co pa |-;refine .y [H.length+5] [(50,[0])] [] [50,57] λK hK=> ?_;refine sqz ?_;refine VCj.read (λL hL=>co L (by have:=hL.len;simp at this;omega)) rfl ?_;refine sqz ?_;refine VCj.read (λ_ _=>po _) rfl ?_;refine sqz ?_;refine VCj.wr1 (id:=H.length+5) (k:=cpB v) (b:=cpB (zdw v 5 fd x)) (apn _ _ 5) (λL hL _=>pa _ L hL) (by simp(disch:=omega) only[go_sem]) (.inl rfl) rfl ?_;refine sqz ?_;refine hK _ _ ?_;clear hK K;refine .e (.v (.tup [.agg [O J 16,O J 16,.msl (H.length+3) 1 0 256 1 true,.msl (H.length+4) 1 0 64 1 true,.msl (H.length+5) 1 0 64 1 true],O J 0]) ?_);refine .base (Fz.tupC ⟨Fz.aggC ⟨.id (.int _ _),.id (.int _ _),Fz.mslC (e:=5) (xs:=bs y) om (apn _ _ 3) (by rw[zd];omega) (FzC.refl (zh _ _)),Fz.mslC (e:=5) (xs:=bs u) om (apn _ _ 4) (by rw[zd];omega) (FzC.refl (zh _ _)),Fz.mslC (e:=5) (xs:=bs (zdw v 5 fd x)) om (apn _ _ 5) (by rw[zd];omega) (FzC.refl (zh _ _)),trivial⟩,.id (.int _ _),trivial⟩)
 have cu:cmp ⟨16,16,y,u,v⟩ n=y:=zxk _ _ _ _ _ h4 h5;rw[cu]at hsl pa cl;rw[cu,zwN _ _ _ _ _ _ h4 h5];simp only[gC h4,gC h5,hsl,l1,l2,l3]at co pa |-;refine .y [H.length+3] [(50,[0])] [] [50,57] λK hK=> ?_;refine sqz ?_;refine VCj.read (λL hL=>co L (by have:=hL.len;simp at this;omega)) rfl ?_;refine sqz ?_;refine VCj.read (λ_ _=>po _) rfl ?_;refine sqz ?_;refine VCj.wr1 (id:=H.length+3) (k:=cpB y) (b:=cpB (zdw y n fd x)) (apn _ _ 3) (λL hL _=>pa _ L hL) (by simp(disch:=omega) only[go_sem]) (.inl rfl) rfl ?_;refine sqz ?_;refine hK _ _ ?_;clear hK K;refine .e (.v (.tup [.agg [O J 16,O J 16,.msl (H.length+3) 1 0 256 1 true,.msl (H.length+4) 1 0 64 1 true,.msl (H.length+5) 1 0 64 1 true],O J 0]) ?_);refine .base (Fz.tupC ⟨Fz.aggC ⟨.id (.int _ _),.id (.int _ _),Fz.mslC (e:=5) (xs:=bs (zdw y n fd x)) om (apn _ _ 3) (by rw[zd];omega) (FzC.refl (zh _ _)),Fz.mslC (e:=5) (xs:=bs u) om (apn _ _ 4) (by rw[zd];omega) (FzC.refl (zh _ _)),Fz.mslC (e:=5) (xs:=bs v) om (apn _ _ 5) (by rw[zd];omega) (FzC.refl (zh _ _)),trivial⟩,.id (.int _ _),trivial⟩)
structure Hok(V K:Nat)(f:Fm):Prop where
 w:f.w=((2 * V:Nat):Int)
 h:f.h=((2 * K:Nat):Int)
 rv:1<=V/\V<=32
 rk:1<=K/\K<=16
 ly:f.y.length=2 * K * (2 * V)
 lu:f.u.length=K * V
 lv:f.v.length=K * V
def zjY(V K:Nat)(a b:Fm):Fm:=⟨((2 * V:Nat):Int),((4 * K:Nat):Int),wov a.y b.y (2 * V) (2 * K),wov a.u b.u V K,wov a.v b.v V K⟩
theorem zq5(a b:Fm):zjY 8 4 a b=zm9 a b:=rfl
theorem Hok.fmd{V K:Nat}{f:Fm}(h:Hok V K f):fmd f=true:=by
 obtain⟨w,ht,y,u,v⟩:=f;obtain⟨hw,hh,⟨v1,v2⟩,⟨k1,k2⟩,ly,lu,lv⟩:=h;simp only at hw hh ly lu lv;subst hw hh;have e1:((2 * V:Nat):Int) / 2=(V:Int):=om;have e2:((2 * K:Nat):Int) / 2=(K:Int):=om;have a1:fsz ((2 * V:Nat):Int) ((2 * K:Nat):Int)=true:=by simp_all[fsz,gB];omega
 have a2:((2 * K * (2 * V):Nat):Int)=((2 * V:Nat):Int) * ((2 * K:Nat):Int):=by grind
 have a3:((K * V:Nat):Int)=(V:Int) * (K:Int):=by grind
 simp only[Sc.fmd,a1,e1,e2,ly,lu,lv,a2,a3,decide_true,Bool.and_self]
theorem zhK(V K:Nat)(a b:Fm)(ha:Hok V K a)(hb:Hok V K b)(H:za):CallOk prog 24 [.agg (fmc a),.agg (fmc b)] H (.tup [.agg (fmc (zjY V K a b)),O J 0]) H:=by
 have fa:=λL=>za1 a L;have fb:=λL=>za1 b L;rw[ha.fmd]at fa;rw[hb.fmd]at fb;obtain⟨w,ht,y,u,v⟩:=a;obtain⟨w',ht',y',u',v'⟩:=b;obtain⟨hw,hh,⟨v1,v2⟩,⟨k1,k2⟩,ly,lu,lv⟩:=ha;obtain⟨hw',hh',_,_,ly',lu',lv'⟩:=hb;simp only at hw hh ly lu lv hw' hh' ly' lu' lv';subst hw hh hw' hh';have bN1:2 * K * (2 * (2 * V))<=32 * 128:=uT om om;have bN2:K * (2 * V)<=16 * 64:=uT om om;have bn1:2 * K * (2 * V)<=32 * 64:=uT om om;have bn2:K * V<=16 * 32:=uT om om;have x1:(2:Int) * ((2 * K:Nat):Int)=((4 * K:Nat):Int):=om;have x2:(2:Int) * ((2 * V:Nat):Int)=((2 * (2 * V):Nat):Int):=om;have x3:((2 * (2 * V):Nat):Int) * ((2 * K:Nat):Int)=((2 * K * (2 * (2 * V)):Nat):Int):=by grind
 have x4:((2 * V:Nat):Int) * ((2 * K:Nat):Int)=((K * (2 * V) * 2:Nat):Int):=by grind
 have x5:((K * (2 * V) * 2:Nat):Int).tdiv 2=((K * (2 * V):Nat):Int):=by simp_all
 have y0:(0:Int) * ((2 * V:Nat):Int)=((0:Nat):Int):=by simp
 have y1:((0:Int)+1) * ((2 * V:Nat):Int)=((2 * V:Nat):Int):=by simp
 have y2:((2 * V:Nat):Int).tdiv 2=(V:Int):=by simp_all
 have y3:((0:Nat):Int).tdiv 2=((0:Nat):Int):=rfl;have y4:((2 * K:Nat):Int).tdiv 2=(K:Int):=by simp_all
 obtain⟨Z1,hZ1,z1⟩:∃ Z:List UInt8,Z=qB (2 * K * (2 * (2 * V))) 0/\Z.length=2 * K * (2 * (2 * V)):=⟨_,rfl,uQ⟩;obtain⟨Z2,hZ2,z2⟩:∃ Z:List UInt8,Z=qB (K * (2 * V)) 0/\Z.length=K * (2 * V):=⟨_,rfl,uQ⟩;have r1:(qB (2 * K * (2 * (2 * V))) [PV.int .u8 0]).flatten=bs Z1:=by rw[hZ1];exact zbh _
 have r2:(qB (K * (2 * V)) [PV.int .u8 0]).flatten=bs Z2:=by rw[hZ2];exact zbh _
 have fit:=fun(W M L P:Nat) (hP:P<=1) (hL:L=M * (2 * W)) k (hk:k<M)=>(show P * W+k * (2 * W)+W<=L by
  have h1:(k+1) * (2 * W)<=M * (2 * W):=gT _ om;rw[vE]at h1;have:P * W<=W:=by have:P=0\/P=1:=om;rcases this with rfl|rfl<;>simp
  omega)
 have f1a:∀ k,k<2 * K->0+k * (2 * (2 * V))+2 * V<=Z1.length:=λk hk=>by have:=fit (2 * V) (2 * K) Z1.length 0 om z1 k hk;simpa using this
 have f2a:∀ k,k<K->0+k * (2 * V)+V<=Z2.length:=λk hk=>by have:=fit V K Z2.length 0 om z2 k hk;simpa using this
 have l1:(pst Z1 0 (2 * (2 * V)) (2 * V) y (2 * K)).length=Z1.length:=zad ly _ (gV _) f1a;have l2:(pst Z2 0 (2 * V) V u K).length=Z2.length:=zad lu _ (gV _) f2a;have l3:(pst Z2 0 (2 * V) V v K).length=Z2.length:=zad lv _ (gV _) f2a;have p1:=λL hr=>zcB Z1 y (H.length+3) 1 0 (2 * (2 * V)) (2 * V) (2 * K) true false L hr om om om ly f1a om;have p2:=λL hr=>zcB Z2 u (H.length+4) 1 0 (2 * V) V K true false L hr om om om lu f2a om;have p3:=λL hr=>zcB Z2 v (H.length+5) 1 0 (2 * V) V K true false L hr om om om lv f2a om;have q1:=λL hr=>zcB (pst Z1 0 (2 * (2 * V)) (2 * V) y (2 * K)) y' (H.length+3) 1 (2 * V) (2 * (2 * V)) (2 * V) (2 * K) true false L hr om om om ly' (λk hk=>by have:=fit (2 * V) (2 * K) Z1.length 1 om z1 k hk;rw[l1];simpa using this) om;have q2:=λL hr=>zcB (pst Z2 0 (2 * V) V u K) u' (H.length+4) 1 V (2 * V) V K true false L hr om om om lu' (λk hk=>by have:=fit V K Z2.length 1 om z2 k hk;rw[l2];simpa using this) om;have q3:=λL hr=>zcB (pst Z2 0 (2 * V) V v K) v' (H.length+5) 1 V (2 * V) V K true false L hr om om om lv' (λk hk=>by have:=fit V K Z2.length 1 om z2 k hk;rw[l3];simpa using this) om;rw[zks ly ly' z1,l1,z1]at q1;rw[zks lu lu' z2,l2,z2]at q2;rw[zks lv lv' z2,l3,z2]at q3;rw[z1]at p1;rw[z2]at p2 p3;have w1:(wov y y' (2 * V) (2 * K)).length=2 * K * (2 * (2 * V)):=zaN ly ly' _ (gV _);have w2:(wov u u' V K).length=K * (2 * V):=zaN lu lu' _ (gV _);have w3:(wov v v' V K).length=K * (2 * V):=zaN lv lv' _ (gV _);simp only[fmc,zjY,w1,w2,w3,ly,lu,lv,ly',lu',lv']at fa fb p1 p2 p3 q1 q2 q3 |-;generalize pst Z1 0 (2 * (2 * V)) (2 * V) y (2 * K)=T1 at p1 q1 l1;generalize pst Z2 0 (2 * V) V u K=T2 at p2 q2 l2;generalize pst Z2 0 (2 * V) V v K=T3 at p3 q3 l3;generalize wov y y' (2 * V) (2 * K)=W1 at q1 w1 |-;generalize wov u u' V K=W2 at q2 w2 |-;generalize wov v v' V K=W3 at q3 w3 |-;clear hZ1 hZ2 f1a f2a fit;refine .body (F0:=[(0,.agg [O J ((2 * V:Nat):Int),O J ((2 * K:Nat):Int),.slice (bs y) (2 * K * (2 * V)) false,.slice (bs u) (K * V) false,.slice (bs v) (K * V) false]),(1,.agg [O J ((2 * V:Nat):Int),O J ((2 * K:Nat):Int),.slice (bs y') (2 * K * (2 * V)) false,.slice (bs u') (K * V) false,.slice (bs v') (K * V) false])]) func24 rfl ntmps24 results24 rfl kr rfl ?_;refine .e ?_;(repeat refine .seq ?_);refine .rgv (P:=prog) [2,3,4,5] 38 (.bool false) ?_ ?_ ?_
 .rfl
 .simp(maxSteps:=9^9) (disch:=omega) only[go_sem];(repeat'(((first|refine VCx.call (fa _) rfl ?_|refine VCx.call (fb _) rfl ?_);simp(maxSteps:=9^9) (disch:=omega) only[go_sem])));all_goals(simp_all[slot,qE])
 refine .us (.dn λK hK=> ?_);simp(maxSteps:=9^9) (disch:=omega) only[go_sem];refine hK _ _ ?_;clear hK K;refine .view (Vs.place 5) ?_;refine .view (Vs.place 5) ?_;refine .view (Vs.place 5) ?_;refine .view (Vs.place 29) ?_;refine .y [H.length+3,H.length+4,H.length+5,H.length+6] [(51,[0]),(56,[1]),(61,[2]),(8,[3])] [(51,0),(56,1),(61,2),(8,3)] [] λK hK=> ?_;simp(maxSteps:=9^9) (disch:=omega) only[go_sem,zy,x1,x2,x3,x4,x5];refine hK _ _ ?_;clear hK K;rw[r1,r2];refine .e (.l ?_);refine .round (.e ?_);refine .t (.skip ?_);refine .b (.e ?_);refine .f (λK k=>by simp(maxSteps:=9^9) (disch:=omega) only[go_sem,y0,x2];refine VCx.call (p1 _ (apn _ _ 3)) rfl ?_;simp(maxSteps:=9^9) (disch:=omega) only[go_sem,y0,x2];exact k) ?_;refine .f (λK k=>by simp(maxSteps:=9^9) (disch:=omega) only[go_sem,y0,x2,y2,y3,y4];refine VCx.call (p2 _ (apn _ _ 4)) rfl ?_;simp(maxSteps:=9^9) (disch:=omega) only[go_sem,y0,x2,y2,y3,y4];exact k) ?_;refine .f (λK k=>by simp(maxSteps:=9^9) (disch:=omega) only[go_sem,y0,x2,y2,y3,y4];refine VCx.call (p3 _ (apn _ _ 5)) rfl ?_;simp(maxSteps:=9^9) (disch:=omega) only[go_sem,y0,x2,y2,y3,y4];exact k) ?_;refine .e (.round ?_);refine .e (.t ?_);refine .skip (.b ?_);refine .e (.f (λK k=>by simp(maxSteps:=9^9) (disch:=omega) only[go_sem,y1,x2];refine VCx.call (q1 _ (apn _ _ 3)) rfl ?_;simp(maxSteps:=9^9) (disch:=omega) only[go_sem,y1,x2];exact k) ?_);refine .f (λK k=>by simp(maxSteps:=9^9) (disch:=omega) only[go_sem,y1,x2,y2,y3,y4];refine VCx.call (q2 _ (apn _ _ 4)) rfl ?_;simp(maxSteps:=9^9) (disch:=omega) only[go_sem,y1,x2,y2,y3,y4];exact k) ?_;refine .f (λK k=>by simp(maxSteps:=9^9) (disch:=omega) only[go_sem,y1,x2,y2,y3,y4];refine VCx.call (q3 _ (apn _ _ 5)) rfl ?_;simp(maxSteps:=9^9) (disch:=omega) only[go_sem,y1,x2,y2,y3,y4];exact k) ?_;refine .e (.round ?_);refine .e (.u ?_);refine .exit (.e ?_);refine .v (.tup [.agg [O J ((2 * V:Nat):Int),O J ((4 * K:Nat):Int),.msl (H.length+3) 1 0 (2 * K * (2 * (2 * V))) 1 true,.msl (H.length+4) 1 0 (K * (2 * V)) 1 true,.msl (H.length+5) 1 0 (K * (2 * V)) 1 true],O J 0]) ?_;refine .base (Fz.tupC ⟨Fz.aggC ⟨.id (.int _ _),.id (.int _ _),Fz.mslC (e:=5) (xs:=bs W1) om (apn _ _ 3) (by rw[zd];omega) (FzC.refl (zh _ _)),Fz.mslC (e:=5) (xs:=bs W2) om (apn _ _ 4) (by rw[zd];omega) (FzC.refl (zh _ _)),Fz.mslC (e:=5) (xs:=bs W3) om (apn _ _ 5) (by rw[zd];omega) (FzC.refl (zh _ _)),trivial⟩,.id (.int _ _),trivial⟩)
theorem zxB(x y:Int)(H:za):CallOk prog 224 [.agg [O J x,O J y]] H (.bool (vrg x y)) H:=by refine .go func224 ntmps224 results224 ?_;(repeat'(first|refine .seq ?_|((refine .rg rfl λK hK=> ?_);simp(disch:=omega) only[go_sem])|((refine zg ?_ ?_)<;>intro h<;>(try simp only[nqb]at h)<;>simp(disch:=omega) only[go_sem,h])|(refine hK _ _ ?_)));all_goals((refine .ret ⟨_,rfl,?_⟩;refine .base (.id' ?_ (.bool _)));(simp_all[vrg,win,slot,qE]<;>omega))
def zc5(f:Fm)(x y h:Int):Bool:=decide (0<=x)&&(decide (x%2=0)&&(decide (x<=f.w - 16)&&(decide (0<=y)&&(decide (y%2=0)&&decide (y<=f.h - h)))))
def zeh(f:Fm)(x y:Int)(h:Nat)(vx vy:Int):Fm×Int:=if(fmd f&&zc5 f x y h)=true then(if vrg vx vy=true then(zaR f x y h vx vy,0)else(f0,2))else(f0,1)
theorem znx(f:Fm)(x y:Int)(h:Nat)(vx vy:Int):fmc (zaR f x y h vx vy)=[O J 16,O J (h:Int),.slice (bs (zaR f x y h vx vy).y) (16 * h) false,.slice (bs (zaR f x y h vx vy).u) (8 * (h / 2)) false,.slice (bs (zaR f x y h vx vy).v) (8 * (h / 2)) false]:=by simp_all[zaR,zck,fmc]
theorem zpq{f:Fm}(h:fmd f=true):∃ V K:Nat,1<=V/\V<=32/\1<=K/\K<=32/\f.w=((2 * V:Nat):Int)/\f.h=((2 * K:Nat):Int)/\f.y.length=2 * V * (2 * K)/\f.u.length=V * K/\f.v.length=V * K:=by obtain⟨w,ht,y,u,v⟩:=f;simp only[fmd,gB,gY]at h;obtain⟨hs,hy,hu,hv⟩:=h;obtain⟨g1,g2,g3,g4,g5,g6⟩:=za8 hs;obtain⟨A,hA⟩:∃ A:Nat,(w / 2).toNat=A:=⟨_,rfl⟩;obtain⟨B,hB⟩:∃ B:Nat,(ht / 2).toNat=B:=⟨_,rfl⟩;have e1:w=((2 * A:Nat):Int):=om;have e2:ht=((2 * B:Nat):Int):=om;have e3:w / 2=(A:Int):=om;have e4:ht / 2=(B:Int):=om;rw[e3,e4]at hu hv;rw[e1,e2]at hy;refine⟨A,B,om,om,om,om,e1,e2,?_,?_,?_⟩;all_goals grind
theorem zeg(f:Fm)(x y vx vy:Int)(hg:Nat)(hgb:hg=8\/hg=16)(hb: -10000<=x/\x<=10000/\-10000<=y/\y<=10000)(H:za):
  CallOk prog 166 [.agg (fmc f),O J x,O J y,O J 16,O J (hg:Int),.agg [O J vx,O J vy]] H (.tup [.agg (fmc (zeh f x y hg vx vy).1),O J (zeh f x y hg vx vy).2]) H:=by
 have fo:=λK=>za1 f K;have vo:=λK=>zxB vx vy K;have h16:((hg:Int) !=8&&(hg:Int) !=16)=false:=by grind
 generalize hr:zeh f x y hg vx vy=r;have hrf:r=zeh f x y hg vx vy:=hr.symm;obtain⟨w,ht,Y,U,V⟩:=f;by_cases hf:fmd ⟨w,ht,Y,U,V⟩=true;case neg=>
  have hf:fmd ⟨w,ht,Y,U,V⟩=false:=by simp_all
  rw[hf]at fo;rw[zeh,hf,vB,gC sp]at hr;simp only[fmc]at fo |-;refine .body (F0:=[(0,.agg [O J w,O J ht,.slice (bs Y) Y.length false,.slice (bs U) U.length false,.slice (bs V) V.length false]),(1,O J x),(2,O J y),(3,O J 16),(4,O J (hg:Int)),(5,.agg [O J vx,O J vy])]) func166 rfl ntmps166 results166 rfl kr rfl ?_;refine .e ?_;(repeat refine .seq ?_);refine .rgv (P:=prog) [6,12,13] 31 (.bool true) ?_ ?_ ?_
  .rfl
  .simp(disch:=omega) only[go_sem];(repeat'(((refine VCx.call (fo _) rfl ?_);simp(disch:=omega) only[go_sem])));all_goals(simp_all[slot,qE]<;>(rw[gJ];simp;done))
  refine .t (.e ?_);refine .v (.tup [.agg [O J 0,O J 0,.slice [] 0 true,.slice [] 0 true,.slice [] 0 true],O J 1]) ?_;rw[<-hr];exact .base (fz0 _ _ _)
 rw[hf]at fo;rw[zeh,hf,uP]at hr;obtain⟨A,B,a1,a2,b1,b2,ew,eh,ly,lu,lv⟩:=zpq hf;simp only at ew eh ly lu lv;subst ew eh;simp only[fmc]at fo |-;refine .body (F0:=[(0,.agg [O J ((2 * A:Nat):Int),O J ((2 * B:Nat):Int),.slice (bs Y) Y.length false,.slice (bs U) U.length false,.slice (bs V) V.length false]),(1,O J x),(2,O J y),(3,O J 16),(4,O J (hg:Int)),(5,.agg [O J vx,O J vy])]) func166 rfl ntmps166 results166 rfl kr rfl ?_;refine .e ?_;(repeat refine .seq ?_);refine .rgv (P:=prog) [1,2,3,4,6,11,12,13] 31 (.bool false) ?_ ?_ ?_
 .rfl
 .clear hr;rcases hgb with rfl|rfl;all_goals(simp(disch:=omega) only[go_sem];(repeat'(((refine VCx.call (fo _) rfl ?_);simp(disch:=omega) only[go_sem]))))
  all_goals(simp_all[slot,qE]<;>(rw[gJ];simp;done))
 refine .us ?_;(repeat refine .seq ?_);refine .rgv (P:=prog) [1,2,3,4,6,11,12,13] 64 (.bool (!(zc5 ⟨((2 * A:Nat):Int),((2 * B:Nat):Int),Y,U,V⟩ x y hg))) ?_ ?_ ?_
 .rfl
 .clear hr fo vo;simp(disch:=omega) only[go_sem];(repeat'((refine zg ?_ ?_)<;>intro h<;>(try simp only[nqb]at h)<;>simp(disch:=omega) only[go_sem,zai,h]));all_goals(simp_all[zc5,slot,qE]<;>(rw[gJ];simp;done))
 refine .c (λh=> ?_) (λh=> ?_)
 .have hp:zc5 ⟨((2 * A:Nat):Int),((2 * B:Nat):Int),Y,U,V⟩ x y hg=false:=by simpa using h
  rw[hp,gC sp]at hr;refine .e (.v (.tup [.agg [O J 0,O J 0,.slice [] 0 true,.slice [] 0 true,.slice [] 0 true],O J 1]) ?_);rw[<-hr];exact .base (fz0 _ _ _)
 have hp:zc5 ⟨((2 * A:Nat):Int),((2 * B:Nat):Int),Y,U,V⟩ x y hg=true:=by simpa using h
 rw[hp,gD rfl]at hr;refine .skip (.k vo ?_);refine .c (λh=> ?_) (λh=> ?_)
 .have hv:vrg vx vy=false:=by simpa using h
  rw[hv,gC sp]at hr;refine .e (.v (.tup [.agg [O J 0,O J 0,.slice [] 0 true,.slice [] 0 true,.slice [] 0 true],O J 2]) ?_);rw[<-hr];exact .base (fz0 _ _ _)
 have hv:vrg vx vy=true:=by simpa using h
 rw[hv,gD rfl]at hr;refine .skip ?_;have hvb: -63<=vx/\vx<=63/\-63<=vy/\vy<=63:=by simp[vrg,win]at hv;omega
 simp only[zc5,gB,gY]at hp;obtain⟨p1,p2,p3,p4,p5,p6⟩:=hp;have d1:((2 * A:Nat):Int).tdiv 2=(A:Int):=by simp_all
 have d2:((2 * B:Nat):Int).tdiv 2=(B:Int):=by simp_all
 have d3:x.tdiv 2=x / 2:=zF _ _ om;have d4:y.tdiv 2=y / 2:=zF _ _ om;have d5:(hg:Int).tdiv 2=((hg / 2:Nat):Int):=by rfl
 have d6:(16:Int).tdiv 2=8:=rfl;have t1: -63<=vx.tdiv 2/\vx.tdiv 2<=63:=by grind
 have t2: -63<=vy.tdiv 2/\vy.tdiv 2<=63:=by grind
 have c1:=λK=>zff Y (2 * A) (2 * B) 16 hg x y vx vy K ly om om om om om hvb;have c2:=λK=>zff U A B 8 (hg / 2) (x / 2) (y / 2) (vx.tdiv 2) (vy.tdiv 2) K lu om om om om om om;have c3:=λK=>zff V A B 8 (hg / 2) (x / 2) (y / 2) (vx.tdiv 2) (vy.tdiv 2) K lv om om om om om om;have q1:(zaR ⟨((2 * A:Nat):Int),((2 * B:Nat):Int),Y,U,V⟩ x y hg vx vy).y=prd Y ((2 * A:Nat):Int) ((2 * B:Nat):Int) x y 16 hg vx vy:=rfl;have dA:((2 * A:Nat):Int) / 2=(A:Int):=om;have dB:((2 * B:Nat):Int) / 2=(B:Int):=om;have q2:(zaR ⟨((2 * A:Nat):Int),((2 * B:Nat):Int),Y,U,V⟩ x y hg vx vy).u=prd U (A:Int) (B:Int) (x / 2) (y / 2) 8 (hg / 2) (vx.tdiv 2) (vy.tdiv 2):=by show prd U (((2 * A:Nat):Int) / 2) (((2 * B:Nat):Int) / 2) _ _ _ _ _ _=_;rw[dA,dB]
 have q3:(zaR ⟨((2 * A:Nat):Int),((2 * B:Nat):Int),Y,U,V⟩ x y hg vx vy).v=prd V (A:Int) (B:Int) (x / 2) (y / 2) 8 (hg / 2) (vx.tdiv 2) (vy.tdiv 2):=by show prd V (((2 * A:Nat):Int) / 2) (((2 * B:Nat):Int) / 2) _ _ _ _ _ _=_;rw[dA,dB]
 have hc:=znx ⟨((2 * A:Nat):Int),((2 * B:Nat):Int),Y,U,V⟩ x y hg vx vy;rw[q1,q2,q3]at hc;generalize prd Y ((2 * A:Nat):Int) ((2 * B:Nat):Int) x y 16 hg vx vy=PY at c1 hc;generalize prd U (A:Int) (B:Int) (x / 2) (y / 2) 8 (hg / 2) (vx.tdiv 2) (vy.tdiv 2)=PU at c2 hc;generalize prd V (A:Int) (B:Int) (x / 2) (y / 2) 8 (hg / 2) (vx.tdiv 2) (vy.tdiv 2)=PV1 at c3 hc;have hcr:fmc r.1=[O J 16,O J (hg:Int),.slice (bs PY) (16 * hg) false,.slice (bs PU) (8 * (hg / 2)) false,.slice (bs PV1) (8 * (hg / 2)) false]:=by grind
 have hcr2:r.2=0:=by rw[<-hr]
 simp only[fmc]at hcr;rw[hcr,hcr2];clear hr hrf q1 q2 q3 hc hcr;refine .e (.g (nq2 d3 (nq2 d4 (nq2 d5 d6))) ?_);refine .dn λK hK=> ?_;simp(disch:=omega) only[go_sem,d1,d2];(repeat'(((first|refine VCy.call (c1 _) rfl ?_|refine VCy.call (c2 _) rfl ?_|refine VCy.call (c3 _) rfl ?_);simp(disch:=omega) only[go_sem,d1,d2])));refine hK _ _ ?_;clear hK K;refine .v (.tup [.agg [O J 16,O J (hg:Int),.slice (bs PY) (16 * hg) false,.slice (bs PU) (8 * (hg / 2)) false,.slice (bs PV1) (8 * (hg / 2)) false],O J 0]) ?_;exact .base (.id (zC _ _ _ _ _ _ _ _ _ _))
theorem zw2{a:Fm}(h:F16 a)(b:Fm):fmc (mnF a b)=[O J 16,O J 16,.slice (bs (mnb a.y b.y)) 256 false,.slice (bs (mnb a.u b.u)) 64 false,.slice (bs (mnb a.v b.v)) 64 false]:=by have h':=znS h b;unfold fmc;rw[h'.ly,h'.lu,h'.lv,h'.w,h'.h];rfl
theorem zon(a b:Fm)(ha:F16 a)(hb:F16 b)(H:za):CallOk prog 168 [.agg (fmc a),.agg (fmc b)] H (.tup [.agg (fmc (mnF a b)),O J 0]) H:=by
 have fa:=λK=>za1 a K;have fb:=λK=>za1 b K;have va:=ha.fvd;have vb:=hb.fvd;unfold fvd at va vb;rw[gB]at va vb;rw[va.1]at fa;rw[vb.1]at fb;rw[zw2 ha];obtain⟨w,ht,y,u,v⟩:=a;obtain⟨w',ht',y',u',v'⟩:=b;obtain⟨hw,hh,l1,l2,l3⟩:=ha;obtain⟨hw',hh',l1',l2',l3'⟩:=hb;simp only at hw hh l1 l2 l3 hw' hh' l1' l2' l3';subst hw hh hw' hh';have m1:=λK=>zkE y y' false false K om om;have m2:=λK=>zkE u u' false false K om om;have m3:=λK=>zkE v v' false false K om om;simp only[fmc,l1,l2,l3,l1',l2',l3']at fa fb m1 m2 m3 |-;refine .body (F0:=[(0,.agg [O J 16,O J 16,.slice (bs y) 256 false,.slice (bs u) 64 false,.slice (bs v) 64 false]),(1,.agg [O J 16,O J 16,.slice (bs y') 256 false,.slice (bs u') 64 false,.slice (bs v') 64 false])]) func168 rfl ntmps168 results168 rfl kr rfl ?_;refine .e ?_;(repeat refine .seq ?_);refine .rgv (P:=prog) [2,3,4] 27 (.bool false) ?_ ?_ ?_
 .rfl
 .simp(disch:=omega) only[go_sem];(repeat'(((first|refine VCx.call (fa _) rfl ?_|refine VCx.call (fb _) rfl ?_);simp(disch:=omega) only[go_sem])));all_goals(simp_all[slot,qE])
 refine .us (.dn λK hK=> ?_);simp(disch:=omega) only[go_sem];(repeat'(((first|refine VCy.call (m1 _) rfl ?_|refine VCy.call (m2 _) rfl ?_|refine VCy.call (m3 _) rfl ?_);simp(disch:=omega) only[go_sem])));refine hK _ _ ?_;clear hK K;refine .v (.tup [.agg [O J 16,O J 16,.slice (bs (mnb y y')) 256 false,.slice (bs (mnb u u')) 64 false,.slice (bs (mnb v v')) 64 false],O J 0]) ?_;exact .base (.id (zC _ _ _ _ _ _ _ _ _ _))
theorem zvH(m:Mb):qA 6 (qD 18 (mbc m))=fs (cdl m):=rfl
theorem zpd(m:Mb):(mbc m)[4]? =some (.bool m.fd):=rfl
theorem zpc(m:Mb)(n:Nat):qA 64 (qD (24+n * 64) (mbc m))=is (lvl m.lv n):=by rw[show 24+n * 64=n * 64+24 from om];show qA 64 (qD (n * 64) (is m.lv))=_;rw[zeR,zdK];rfl
theorem zbz(m:Mb)(hl:m.lv.length=384):(mbc m).length=408:=by simp[mbc,is,hl]
theorem zpf(lv:List Int)(n:Nat)(hl:lv.length=384)(hn:n<6):(lvl lv n).length=64:=by simp[lvl,hl];omega
def lrm(lv:List Int):Prop:=∀ i,-4095<=ze lv i/\ze lv i<=4095
theorem ztb{lv:List Int}(h:lrm lv)(n:Nat):lrg (lvl lv n):=λi=>by
 unfold lvl ze;rw[uH,vZ];split
 .rw[wI];have:=h (n * 64+i);simp_all[ze,uH]
 .simp
theorem zkJ{lv:List Int}(hl:lv.length=384)(h:lvr lv=true):lrm lv:=λi=>by
 by_cases hi:i<384
 .have:=uJ.1 h i (wO.2 hi);simp[win]at this;omega
 simp_all[ze,uH,vP]
theorem zpn(l:List Int)(al:Bool):(frs l al).length=64:=zeT _ _ _
theorem ztE{l:List Int}(h:lrg l)(al:Bool):lrg (frs l al):=λi=>ziD (B:=4095) om (zpo om (λi=>by have:=h i;omega) 64) i
theorem zhz(l:List Int)(m:List UInt8)(q:Int):(dqz l m q).length=64:=zaP _ _
theorem zpj(y:List Int):(inv y).length=64:=zaP _ _
def adk(d b:List Int)(k:Nat):List Int:=rgI 64 λj=>if j<k then ze d j+ze b j else ze b j
theorem zpO(d b:List Int)(k:Nat):(adk d b k).length=64:=zaP _ _
theorem zxl{d b:List Int}(h:b.length=64):adk d b 0=b:=by grind[adk,rgI,ze,zbU,zx8]
theorem zuE(d b:List Int){k:Nat}(h:k<64):ze (adk d b k) k=ze b k:=by rw[adk,zdA _ h,gC om]
theorem zpN(d b:List Int)(k:Nat):(adk d b k).set k (ze b k+ze d k)=adk d b (k+1):=by rw[adk,zhk];refine zbU λj hj=> ?_;grind
theorem zpP(d b:List Int):adk d b 64=rgI 64 λk=>ze d k+ze b k:=zbU λj hj=>gD hj
theorem zup(p:List UInt8)(n:Nat)(fd:Bool)(k:Nat):0<=ze (blk p n fd) k/\ze (blk p n fd) k<=255:=by
 by_cases h:k<64
 .simp_all[blk,zdA,zR]
 simp_all[blk,zaP,ze,uH,vP]
theorem zuF(f:Fm)(hf:F16 f)(m:Mb)(i:Nat)(mat:List UInt8)(q:Int)(al:Bool)(H:za)(hi:H[i]? =some (mB m))(hml:m.lv.length=384)(hlr:lrm m.lv)(hm:mat.length=64)(hmx:zaM mat=true)(hq:qnB q=true):
  CallOk prog 92 [.agg (fmc f),.ptr i 0 0,.agg (bs mat),O J q,.bool al] H (.tup [.agg (fmc (addN m al mat q f 6)),O J 0]) H:=by
 have hil:=(gA.1 hi).1;have hx:=λK=>zas (K:=K) hi;have e1:=zvH m;have e2:=zpd m;have e3:=λn=>zpc m n;have e4:=zbz m hml;have hcl:(cdl m).length=6:=rfl;have hcl2:(fs (cdl m)).length=6:=rfl;have hg:=λn (hn:n<6)=>zn4 (cdl m) n hn;have hcm:(bs mat).all PV.cell=true:=by simp[bs,PV.cell]
 have tkm:qA 64 (bs mat)=bs mat:=gH (by rw[zd];omega);have lm:(bs mat).length=64:=by rw[zd,hm]
 refine .go func92 ntmps92 results92 ?_;have f5:(fmc f).all PV.cell=true:=rfl;refine .g (nq2 hcm f5) ?_;refine .g (nq2 hi (nq2 hx (nq2 @mB.eq_1 (nq2 e1 e4)))) ?_;refine .l ?_;suffices h1:∀ n:Nat,n<=6->PL prog _ _ [(1,.ptr i 0 0),(3,O J q),(4,.bool al),(5,.ptr H.length 0 0),(7,.ptr (H.length+1) 0 0),(10,.ptr (H.length+2) 0 0),(22,.agg (fs (cdl m))),(23,O J (n:Int))] (H++[⟨29,0,fmc (addN m al mat q f n)⟩,⟨35,0,bs mat⟩,⟨29,0,[O J 0,O J 0,.slice [] 0 true,.slice [] 0 true,.slice [] 0 true]⟩]) _ by exact .a (h1 0 om)
 refine cnt 6 (λn hn ih=> ?_) ?_
 .have ct:=zco hn;refine .round (.e ?_);refine .t (.skip ?_);refine .b (.g (nq2 hg hcl2) ?_);refine .e ?_;refine .c (λh=> ?_) (λh=> ?_)
  .have hc:zN (cdl m) n=false:=by simpa using h
   rw[addN,hc,gC sp]at ih;refine .exit (.e ?_);exact .a ih
  have hc:zN (cdl m) n=true:=by simpa using h
  rw[addN,hc,gD rfl]at ih;have g16:=hf.addN m al mat q n om;obtain⟨g,hgg⟩:∃ g,addN m al mat q f n=g:=⟨_,rfl⟩;rw[hgg]at g16 ih |-;have g7:(fmc g).length=5:=rfl;have g8:qA 5 (fmc g)=fmc g:=rfl;have ll:=zpf m.lv n hml hn;have lr:=ztb hlr n;have c1:=λK=>zmJ (lvl m.lv n) al ll K;have c2:=λK=>zoc (frs (lvl m.lv n) al) mat q (zpn _ _) (ztE lr al) hm hmx hq K;have hr:rsd m.lv al mat q n=inv (dqz (frs (lvl m.lv n) al) mat q):=rfl;have c3:=λK=>zn1 (dqz (frs (lvl m.lv n) al) mat q) (zhz _ _ _) K;rw[<-hr]at c3;have il:(rsd m.lv al mat q n).length=64:=zpj _;have ib:=λk=>ztt (dqz (frs (lvl m.lv n) al) mat q) k;rw[<-hr]at ib;have dl:=zhz (frs (lvl m.lv n) al) mat q;have dcel:=zq (dqz (frs (lvl m.lv n) al) mat q);generalize dqz (frs (lvl m.lv n) al) mat q=D at c2 c3 dl dcel;have tkD:qA 64 (is D)=is D:=gH (by rw[zj];omega);generalize frs (lvl m.lv n) al=S at c1 c2;generalize rsd m.lv al mat q n=I at c3 il ib ih;clear hr;have c4:=λK=>zun g g16 n hn m.fd K;have bb:=λk=>zup (cmp g n) n m.fd k;have bl:(blk (cmp g n) n m.fd).length=64:=zaP _ _;have bcel:=zq (blk (cmp g n) n m.fd);refine .skip (.view (Vs.place 139) ?_);refine .y [H.length+3] [(14,[0])] [(14,0)] [37,40] λK hK=> ?_;simp(disch:=omega) only[go_sem,zy,hi,hx,mB,e3,e4];refine VCj.read (λ_ _=>c1 _) rfl ?_;simp(disch:=omega) only[go_sem,zy,hi,hx,mB,e3,e4,lm,tkm];refine VCj.read (λ_ _=>c2 _) rfl ?_;simp(disch:=omega) only[go_sem,zj,dl,dcel];refine hK _ _ ?_;clear hK K;refine .e (.us ?_);refine .view (Vs.place 139) ?_;refine .y [H.length+4] [(16,[0])] [(16,0)] [54] λK hK=> ?_;simp(disch:=omega) only[go_sem,zy,hi,hx,mB,e2,e4,g7,g8];refine VCj.read (λ_ _=>c4 _) rfl ?_;simp(disch:=omega) only[go_sem,zj,bl,bcel];refine hK _ _ ?_;clear hK K;refine .e (.us ?_);refine .f (λK k=>by simp(disch:=omega) only[go_sem,zj,dl,tkD];refine VCx.call (c3 _) rfl ?_;simp(disch:=omega) only[go_sem,zj,dl,tkD];exact k) ?_;refine .l ?_;suffices h2:∀ k:Nat,k<=64->PL prog _ _ [(1,.ptr i 0 0),(3,O J q),(4,.bool al),(5,.ptr H.length 0 0),(7,.ptr (H.length+1) 0 0),(10,.ptr (H.length+2) 0 0),(12,O J (n:Int)),(16,.ptr (H.length+4) 1 0),(22,.agg (fs (cdl m))),(23,O J (n:Int)),(62,.agg (is I)),(63,O J (k:Int))] (H++[⟨29,0,fmc g⟩,⟨35,0,bs mat⟩,⟨29,0,[O J 0,O J 0,.slice [] 0 true,.slice [] 0 true,.slice [] 0 true]⟩,⟨139,1,is D⟩,⟨139,1,is (adk I (blk (cmp g n) n m.fd) k)⟩]) _ by exact .a (h2 0 om) rfl (by rw[zxl bl])
  refine cnt 64 (λk hk ih2=> ?_) ?_
  .refine .round (.e ?_);refine .t ?_;have b1:=bb k;have b2:=ib k;have a1:=zuE I (blk (cmp g n) n m.fd) hk;have a2:=zpN I (blk (cmp g n) n m.fd) k;have a3:=zpO I (blk (cmp g n) n m.fd) k;have a4:∀ v,((is (adk I (blk (cmp g n) n m.fd) k)).set k v).length=64:=λv=>by simp[zj,a3]
   refine .skip (.b ?_);refine .f (λK k=>by simp(disch:=omega) only[go_sem,zQ,zj,il];exact k) ?_;refine .f (λK k=>by simp(disch:=omega) only[go_sem,zQ,zj,a3,a1,zaB,a2,a4];exact k) ?_;refine .e ?_;exact .a ih2
  refine .round (.e ?_);refine .u (.exit ?_);rw[zpP];have xl:(rgI 64 λk=>ze I k+ze (blk (cmp g n) n m.fd) k).length=64:=zaP _ _;have c5:=λK=>zlU g g16 n hn m.fd (rgI 64 λk=>ze I k+ze (blk (cmp g n) n m.fd) k) xl K;have e5:zh2 g n (zdw (cmp g n) n m.fd (rgI 64 λk=>ze I k+ze (blk (cmp g n) n m.fd) k))=addB g n m.fd I:=rfl;rw[e5]at c5;generalize (rgI 64 λk=>ze I k+ze (blk (cmp g n) n m.fd) k)=X at xl c5;have xt:qA 64 (is X)=is X:=gH (by rw[zj];omega);generalize addB g n m.fd I=g' at c5 ih;have g5:(fmc g').all PV.cell=true:=rfl;have g6:(fmc g').length=5:=rfl;have g9:qD 5 (fmc g)=[]:=rfl;refine .y [H.length] [(5,[0])] [] [82] λK hK=> ?_;simp(disch:=omega) only[go_sem,zy,hi,hx,mB,e2,e4,zj,xl,xt,g7,g8];refine VCj.read (λ_ _=>c5 _) rfl ?_;refine sqx (nq2 g5 (nq2 g6 (nq2 g7 (nq2 g8 g9)))) ?_;refine hK _ _ ?_;clear hK K;refine .e (.us ?_);refine .e (.view (Vs.trim (F1:=[(1,.ptr i 0 0),(3,O J q),(4,.bool al),(5,.ptr H.length 0 0),(7,.ptr (H.length+1) 0 0),(10,.ptr (H.length+2) 0 0),(22,.agg (fs (cdl m))),(23,O J ((n+1:Nat):Int))]) (H1:=H++[⟨29,0,fmc g'⟩,⟨35,0,bs mat⟩,⟨29,0,[O J 0,O J 0,.slice [] 0 true,.slice [] 0 true,.slice [] 0 true]⟩]) (zfi ?_) sp (gU _ [_,_,_] [_,_]).symm ?_) ih)
  .intro b hb z hz;simp only[gM,gL,uA]at hb;rcases hb with rfl|rfl|rfl
   .exact zan _ _ _ _ _ _ _ _ _ _ _ _ z hz
   .exact zh _ _ z hz
   .exact zan _ 0 0 [] [] [] _ _ _ _ _ _ z hz
  .rw[hl3];exact⟨.id (.ptr om),.id (.int _ _),.id (.bool _),.id (.ptr om),.id (.ptr om),.id (.ptr om),.id (zn (zjC _ _)),.id (.int _ _),trivial⟩
 refine .round (.e ?_);refine .u (.exit ?_);obtain⟨g,hgg⟩:∃ g,addN m al mat q f 6=g:=⟨_,rfl⟩;rw[hgg];have g5:(fmc g).all PV.cell=true:=rfl;have g7:(fmc g).length=5:=rfl;have g8:qA 5 (fmc g)=fmc g:=rfl;have g9:qD 5 [PV.int .i64 0,PV.int .i64 0,PV.slice [] 0 true,PV.slice [] 0 true,PV.slice [] 0 true]=[]:=rfl;refine .g (nq2 g5 (nq2 g7 (nq2 g8 g9))) ?_;refine .w (.tup [.agg (fmc g),O J 0]) (nq2 g7 g8) ?_;exact .base (.id (zC _ _ _ _ _ _ _ _ _ _))
theorem rows_in{W R X Y w h L:Nat}(hp:L=W * R)(hx:X+w<=W)(hy:Y+h<=R):∀ k,k<h->Y * W+X+k * W+w<=L:=λk hk=>by have h1:(Y+k+1) * W<=R * W:=gT _ om;rw[vE,vE,wK]at h1;rw[hp,dC W R];omega
theorem zfZ{f:Fm}(h:fvd f=true):∃ A B:Nat,1<=A/\A<=4/\1<=B/\B<=4/\f.w=((16 * A:Nat):Int)/\f.h=((16 * B:Nat):Int)/\f.y.length=16 * A * (16 * B)/\f.u.length=8 * A * (8 * B)/\f.v.length=8 * A * (8 * B):=by
 obtain⟨w,ht,y,u,v⟩:=f;simp only[fvd,fmd,gB,gY]at h;obtain⟨⟨hs,hy,hu,hv⟩,hw,hh⟩:=h;obtain⟨g1,g2,g3,g4,g5,g6⟩:=za8 hs;obtain⟨A,hA⟩:∃ A:Nat,(w / 16).toNat=A:=⟨_,rfl⟩;obtain⟨B,hB⟩:∃ B:Nat,(ht / 16).toNat=B:=⟨_,rfl⟩;have e1:w=((16 * A:Nat):Int):=om;have e2:ht=((16 * B:Nat):Int):=om;have e3:w / 2=((8 * A:Nat):Int):=om;have e4:ht / 2=((8 * B:Nat):Int):=om;rw[e3,e4]at hu hv;rw[e1,e2]at hy;refine⟨A,B,om,om,om,om,e1,e2,?_,?_,?_⟩
 .exact mR.1 (hy.trans (wE _ _).symm)
 .exact mR.1 (hu.trans (wE _ _).symm)
 .exact mR.1 (hv.trans (wE _ _).symm)
theorem zgP{m:Mb}{al:Bool}{mat:List UInt8}{q:Int}{f:Fm}(h:∀ n,zN (cdl m) n=false):∀ n,addN m al mat q f n=f
 | 0=>rfl
 | n+1=>by rw[addN,h n,gC sp,zgP h n]
theorem zp2(c:Cx):∀ n,zN (cdl (stl c)) n=false:=λn=>by
 have:n=0\/n=1\/n=2\/n=3\/n=4\/n=5\/6<=n:=om;rcases this with rfl|rfl|rfl|rfl|rfl|rfl|h;all_goals first|rfl|(simp[zN,cdl,stl,uH,vP];done)|skip
 simp only[zN,cdl,stl,uH];rw[vP (by simp;omega)];rfl
theorem zhm{c:Cx}{si sq:List UInt8}{al:Bool}{q:Int}{m:Mb}{pa fu fi:Fm}{mx my:Int}(h:(zdC c si sq al q m pa fu fi mx my).2=0):F16 (zdC c si sq al q m pa fu fi mx my).1:=by
 unfold zdC at h |-;split at h
 .rename_i hok;rw[gD hok];by_cases h1:m.k=1
  .rw[gD h1];exact F16.gry.addN _ _ _ _ 6 om
  .rw[gC h1]at h |-;generalize (if m.k=0 then stl c else m)=m' at h |-;split at h
   .rename_i h2;exact absurd h h2
   .rename_i h2;rw[gC h2];exact(zso (Decidable.not_not.1 h2)).addN _ _ _ _ 6 om
 .simp at h
theorem zpt{V K P:Nat}{y u v:List UInt8}(h:Fok V K y u v)(hP:P<=1):Hok V K (fld V K P y u v):=by obtain⟨rv,rk,ly,lu,lv⟩:=h;exact⟨rfl,rfl,rv,rk,zau y _ _ _ _ (zaJ _ _ _ hP _ ly),zau u _ _ _ _ (zaJ _ _ _ hP _ lu),zau v _ _ _ _ (zaJ _ _ _ hP _ lv)⟩
theorem zfD(f:Fm)(x y vx vy:Int):Hok 8 4 (zaR f x y 8 vx vy):=⟨rfl,rfl,om,om,zck _ _ _ _ _ _ _ _ _,zck _ _ _ _ _ _ _ _ _,zck _ _ _ _ _ _ _ _ _⟩
theorem zsn(f:Fm)(x y vx vy:Int):fmc (zaR f x y 8 vx vy)=[O J 16,O J 8,.slice (bs (zaR f x y 8 vx vy).y) 128 false,.slice (bs (zaR f x y 8 vx vy).u) 32 false,.slice (bs (zaR f x y 8 vx vy).v) 32 false]:=znx f x y 8 vx vy
theorem F16.c{f:Fm}(h:F16 f):fmc f=[O J 16,O J 16,.slice (bs f.y) 256 false,.slice (bs f.u) 64 false,.slice (bs f.v) 64 false]:=by unfold fmc;rw[h.w,h.h,h.ly,h.lu,h.lv]
theorem zfC{f:Fm}{mx my va vb s:Int}(hm:zcD f mx my=true)(h32:f.h%32=0)(hs:s=0\/s=1)(hv:vrg va vb=true):zeh (zo f s) (16 * mx) (8 * my) 8 va vb=(zaR (zo f s) (16 * mx) (8 * my) 8 va vb,0):=by
 simp only[zcD,gB,gY]at hm;obtain⟨hf,m1,m2,m3,m4⟩:=hm;obtain⟨w,ht,y,u,v⟩:=f;simp only at h32 m2 m4;obtain⟨V,K,rfl,rfl,hok⟩:=zdM hf h32;obtain⟨P,hP,rfl⟩:∃ P:Nat,P<=1/\s=(P:Int):=by
  rcases hs with e|e
  .exact⟨0,om,om⟩
  .exact⟨1,om,om⟩
 have e1:=zaW V K P y u v;unfold fr4 at e1;rw[e1];have h1:=(zpt hok hP).fmd;have h2:zc5 (fld V K P y u v) (16 * mx) (8 * my) ((8:Nat):Int)=true:=by have w1:(fld V K P y u v).w=((2 * V:Nat):Int):=rfl;have w2:(fld V K P y u v).h=((2 * K:Nat):Int):=rfl;simp_all[zc5,gB];omega
 simp_all[zeh]
theorem zjq(n:Int)(H:za):CallOk prog 167 [O J n] H (O J (16 * min (max n (-1)) 128)) H:=by refine .go func167 ntmps167 results167 ?_;refine .e ?_;have cl:(if 128<(if n< -1 then -1 else n)then 128 else(if n< -1 then -1 else n))=min (max n (-1)) 128:=om;refine .g cl ?_;(refine .ret ⟨_,rfl,?_⟩;refine .inl ⟨?_,rfl⟩);rfl
theorem zAx(b:Bool):zdG prog 142 [(0,O J 2),(1,.agg [.bool true,.bool b])]=some (.agg (mbc ⟨2,true,b,false,false,0,0,0,0,0,0,0,0,0,0,0,0,0,false,false,false,false,false,false,zl384⟩)):=by cases b<;>kernel_rfl
attribute [go_sem high] zAx
theorem zwA:zaL prog 142=some zmv:=kr
theorem zdr:zl384.length=384:=uQ
theorem zq0:zmv.length=408:=zbz zMb zdr
theorem zbS(m:Mb):(mbc m).all PV.cell=true:=by simp_all[zq,mbc,PV.cell]
theorem zpS:zmv.all PV.cell=true:=zbS zMb
theorem zhr(k:Nat)(m:Mb):∀ x∈mbc m,Scoped k x:=λx hx=>by simp only[mbc,gM]at hx;rcases hx with rfl|rfl|rfl|rfl|rfl|rfl|rfl|rfl|rfl|rfl|rfl|rfl|rfl|rfl|rfl|rfl|rfl|rfl|rfl|rfl|rfl|rfl|rfl|rfl|hx;all_goals first|exact .int _ _|exact .bool _|exact zae _ _ _ hx
theorem zrD(c:Cx)(H:za):CallOk prog 93 [.agg (cxc c)] H (.agg (mbc (stl c))) H:=by
 have fo:=λL=>zoa c L;have po:=λL=>znK c L;obtain⟨t,s,ii,nn⟩:=c;simp only[cxc]at fo po |-;refine .body (F0:=[(0,.agg [O J t,O J s,.bool ii,.bool nn])]) func93 rfl ntmps93 results93 rfl kr rfl ?_;have zl:=zq0;have zc:=zpS;have ml:=λb=>zbz ⟨2,true,b,false,false,0,0,0,0,0,0,0,0,0,0,0,0,0,false,false,false,false,false,false,zl384⟩ zdr;have mc:=λb=>zbS ⟨2,true,b,false,false,0,0,0,0,0,0,0,0,0,0,0,0,0,false,false,false,false,false,false,zl384⟩;have dl1:(qD 1 zmv).length=407:=by rfl
 have em:∀ b,PV.int .i64 2::PV.bool true::PV.bool b::qD (1+1) (qD 1 zmv)=mbc ⟨2,true,b,false,false,0,0,0,0,0,0,0,0,0,0,0,0,0,false,false,false,false,false,false,zl384⟩:=λb=>rfl;have dz:qD 408 zmv=[]:=uB om;refine .f (λK k=>by simp(maxSteps:=9^9) (disch:=omega) only[go_sem,↓zwA];exact k) ?_;refine .f (λK k=>by simp(maxSteps:=9^9) (disch:=omega) only[go_sem,↓zwA,zl,ml,mc,dz,dl1,em,qF,Nat.reduceLeDiff];exact k) ?_;obtain⟨B,hB⟩:∃ B,(t==3)=B:=⟨_,rfl⟩;rw[hB];have hs:stl ⟨t,s,ii,nn⟩=⟨2,true,B,false,false,0,0,0,0,0,0,0,0,pcx ⟨t,s,ii,nn⟩,0,if B=true then pcx ⟨t,s,ii,nn⟩else 0,0,0,false,false,false,false,false,false,zl384⟩:=by grind[stl]
 rw[hs];clear hs hB;refine .k fo ?_;refine .c (λh=> ?_) (λh=> ?_);rotate_left
 .have hf:pcx ⟨t,s,ii,nn⟩=0:=by
   have h':fcx ⟨t,s,ii,nn⟩=false:=h;unfold fcx at h';have h3:s=3:=by simp_all
   show(if s=2 then(1:Int)else 0)=0;omega
  rw[hf];simp only[ite_self];refine .skip ?_;have tk:=λb=>(gH (by rw[ml b];exact gV _):qA 408 (mbc ⟨2,true,b,false,false,0,0,0,0,0,0,0,0,0,0,0,0,0,false,false,false,false,false,false,zl384⟩)=_);refine .g (nq2 ml (nq2 mc (nq2 zl (nq2 dz tk)))) ?_;refine .w (.agg (mbc ⟨2,true,B,false,false,0,0,0,0,0,0,0,0,0,0,0,0,0,false,false,false,false,false,false,zl384⟩)) (nq2 ml tk) ?_;exact .base (.id (zn (zhr _ _)))
 generalize pcx ⟨t,s,ii,nn⟩=p at *;have ml2:=λb p q=>zbz ⟨2,true,b,false,false,0,0,0,0,0,0,0,0,p,0,q,0,0,false,false,false,false,false,false,zl384⟩ zdr;have mc2:=λb p q=>zbS ⟨2,true,b,false,false,0,0,0,0,0,0,0,0,p,0,q,0,0,false,false,false,false,false,false,zl384⟩;have s1:∀ b p q x,(mbc ⟨2,true,b,false,false,0,0,0,0,0,0,0,0,p,0,q,0,0,false,false,false,false,false,false,zl384⟩).set 13 (O J x)=mbc ⟨2,true,b,false,false,0,0,0,0,0,0,0,0,x,0,q,0,0,false,false,false,false,false,false,zl384⟩:=λ_ _ _ _=>rfl;have s2:∀ b p q x,(mbc ⟨2,true,b,false,false,0,0,0,0,0,0,0,0,p,0,q,0,0,false,false,false,false,false,false,zl384⟩).set 15 (O J x)=mbc ⟨2,true,b,false,false,0,0,0,0,0,0,0,0,p,0,x,0,0,false,false,false,false,false,false,zl384⟩:=λ_ _ _ _=>rfl;have tk:=λb p q=>(gH (by rw[ml2 b p q];exact gV _):qA 408 (mbc ⟨2,true,b,false,false,0,0,0,0,0,0,0,0,p,0,q,0,0,false,false,false,false,false,false,zl384⟩)=_);have t2:∀ b p q,qA 2 (qD 1 (mbc ⟨2,true,b,false,false,0,0,0,0,0,0,0,0,p,0,q,0,0,false,false,false,false,false,false,zl384⟩))=[.bool true,.bool b]:=λ_ _ _=>rfl;refine .g (nq2 ml2 t2) ?_;refine .l (.round ?_);refine .e (.t ?_);refine .skip (.b ?_);refine .e (.e ?_);refine .t (.y [H.length+2] [(3,[0]),(23,[0]),(24,[0]),(25,[0])] [] [22] λK hK=> ?_);simp(maxSteps:=9^9) (disch:=omega) only[go_sem,zy,ml2];refine VCj.read (λ_ _=>po _) rfl ?_;refine sqx (nq2 ml2 s1) ?_;refine hK _ _ ?_;refine .e (.round ?_);refine .e (.t ?_);refine .skip (.b ?_);refine .e ?_;cases B
 .refine .e (.us ?_);refine .e (.round ?_);refine .e (.u ?_);refine .exit (.g (nq2 ml2 (nq2 mc2 (nq2 zl (nq2 dz tk)))) ?_);refine .w (.agg (mbc ⟨2,true,false,false,false,0,0,0,0,0,0,0,0,p,0,0,0,0,false,false,false,false,false,false,zl384⟩)) (nq2 ml2 tk) ?_;exact .base (.id (zn (zhr _ _)))
 .refine .e (.t ?_);refine .y [H.length+2] [(3,[0]),(23,[0]),(24,[0]),(25,[0])] [] [22] λK hK=> ?_;simp(maxSteps:=9^9) (disch:=omega) only[go_sem,zy,ml2];refine VCj.read (λ_ _=>po _) rfl ?_;refine sqx (nq2 ml2 s2) ?_;refine hK _ _ ?_;refine .e (.round ?_);refine .e (.u ?_);refine .exit (.g (nq2 ml2 (nq2 mc2 (nq2 zl (nq2 dz tk)))) ?_);refine .w (.agg (mbc ⟨2,true,true,false,false,0,0,0,0,0,0,0,0,p,0,p,0,0,false,false,false,false,false,false,zl384⟩)) (nq2 ml2 tk) ?_;exact .base (.id (zn (zhr _ _)))
theorem zqJ(f:Fm)(mx my va vb vc vd sa sb:Int)(hsa:sa=0\/sa=1)(hsb:sb=0\/sb=1)(hv1:vrg va vb=true)(hv2:vrg vc vd=true)(H:za):
  CallOk prog 165 [.agg (fmc f),O J mx,O J my,.agg [O J va,O J vb,O J vc,O J vd],.agg [O J sa,O J sb]] H (.tup [.agg (fmc (ze4 f mx my va vb vc vd sa sb).1),O J (ze4 f mx my va vb vc vd sa sb).2]) H:=by
 have vo:=λL=>zhO f L;generalize hr:ze4 f mx my va vb vc vd sa sb=r;by_cases hc:(zcD f mx my&&decide (f.h%32=0))=true;case neg=>
  have hc':(zcD f mx my&&decide (f.h%32=0))=false:=by simp_all
  rw[ze4,gC hc]at hr;obtain⟨w,ht,y,u,v⟩:=f;simp only at hc';cases hf:fvd ⟨w,ht,y,u,v⟩
  .rw[hf]at vo;simp only[fmc]at vo |-;refine .body (F0:=[(0,.agg [O J w,O J ht,.slice (bs y) y.length false,.slice (bs u) u.length false,.slice (bs v) v.length false]),(1,O J mx),(2,O J my),(3,.agg [O J va,O J vb,O J vc,O J vd]),(4,.agg [O J sa,O J sb])]) func165 rfl ntmps165 results165 rfl kr rfl ?_;refine .e ?_;(repeat refine .seq ?_);refine .rgv (P:=prog) [10,11] 49 (.bool true) ?_ ?_ ?_
   .rfl
   .simp(maxSteps:=9^9) (disch:=omega) only[go_sem];(repeat'(((refine VCx.call (vo _) rfl ?_);simp(maxSteps:=9^9) (disch:=omega) only[go_sem])));all_goals(simp_all[slot,qE])
   refine .t (.e ?_);refine .v (.tup [.agg [O J 0,O J 0,.slice [] 0 true,.slice [] 0 true,.slice [] 0 true],O J 1]) ?_;rw[<-hr];exact .base (fz0 _ _ _)
  .have hp:(0<=w/\w<=64)/\0<=ht/\ht<=64:=by unfold fvd fmd at hf;simp only[gB]at hf;have:=za8 hf.1.1;omega
   rw[hf]at vo;unfold zcD at hc';rw[hf,uP]at hc';simp only[fmc]at vo hc' |-;clear hf hc;refine .body (F0:=[(0,.agg [O J w,O J ht,.slice (bs y) y.length false,.slice (bs u) u.length false,.slice (bs v) v.length false]),(1,O J mx),(2,O J my),(3,.agg [O J va,O J vb,O J vc,O J vd]),(4,.agg [O J sa,O J sb])]) func165 rfl ntmps165 results165 rfl kr rfl ?_;refine .e ?_;(repeat refine .seq ?_);refine .rgv (P:=prog) [10,11] 49 (.bool true) ?_ ?_ ?_
   .rfl
   .clear hr hv1 hv2;simp(maxSteps:=9^9) (disch:=omega) only[go_sem];(repeat'(first|((refine zg ?_ ?_)<;>intro h<;>(try simp only[nqb]at h)<;>simp(maxSteps:=9^9) (disch:=omega) only[go_sem,zF,zai,h])|((refine VCx.call (vo _) rfl ?_);simp(maxSteps:=9^9) (disch:=omega) only[go_sem,zF,zai])));simp_all
   refine .t (.e ?_);refine .v (.tup [.agg [O J 0,O J 0,.slice [] 0 true,.slice [] 0 true,.slice [] 0 true],O J 1]) ?_;rw[<-hr];exact .base (fz0 _ _ _)
 rw[ze4,gD hc]at hr;have hc2:=hc;rw[gB,gY]at hc2;obtain⟨hm,h32⟩:=hc2;have ga:=zfC hm h32 hsa hv1;have gb:=zfC hm h32 hsb hv2;simp only[zcD,gB,gY]at hm;obtain⟨hf,m1,m2,m3,m4⟩:=hm;have hb:=zfZ hf;obtain⟨A0,B0,a1,a2,b1,b2,ew,eh,_⟩:=hb;have hmb:mx<=3/\my<=3:=om;have hp:(0<=f.w/\f.w<=64)/\0<=f.h/\f.h<=64:=om;have pa:=λL=>zeg (zo f sa) (16 * mx) (8 * my) va vb 8 (.inl rfl) om L;have pb:=λL=>zeg (zo f sb) (16 * mx) (8 * my) vc vd 8 (.inl rfl) om L;rw[ga]at pa;rw[gb]at pb;have w1:=λL=>zhK 8 4 _ _ (zfD (zo f sa) (16 * mx) (8 * my) va vb) (zfD (zo f sb) (16 * mx) (8 * my) vc vd) L;have wc:=(zjZ (zo f sa) (zo f sb) (16 * mx) (8 * my) (16 * mx) (8 * my) va vb vc vd).c;simp only[zq5]at w1;have fl:∀ s,(s=0\/s=1)->∀ L,CallOk prog 82 [.agg (fmc f),O J s] L (.tup [.agg (fmc (zo f s)),O J 0]) L:=λs hs L=>by
  obtain⟨w,ht,y,u,v⟩:=f;obtain⟨V,K,rfl,rfl,hok⟩:=zdM hf h32;obtain⟨P,hP,rfl⟩:∃ P:Nat,P<=1/\s=(P:Int):=by
   rcases hs with e|e
   .grind
   .exact⟨1,om,om⟩
  have e1:=zaW V K P y u v;grind[ziJ,fr4]
 have fa:=fl sa hsa;have fb:=fl sb hsb;have hr1:fmc r.1=fmc (zm9 (zaR (zo f sa) (16 * mx) (8 * my) 8 va vb) (zaR (zo f sb) (16 * mx) (8 * my) 8 vc vd)):=by rw[<-hr]
 have hr2:r.2=0:=by rw[<-hr]
 rw[hr1,hr2,wc];rw[wc]at w1;simp only[zsn]at pa pb w1;generalize zm9 (zaR (zo f sa) (16 * mx) (8 * my) 8 va vb) (zaR (zo f sb) (16 * mx) (8 * my) 8 vc vd)=W at w1 |-;generalize zaR (zo f sa) (16 * mx) (8 * my) 8 va vb=PA at pa w1;generalize zaR (zo f sb) (16 * mx) (8 * my) 8 vc vd=PB at pb w1;generalize zo f sa=FA at fa pa;generalize zo f sb=FB at fb pb;rw[hf]at vo;clear hr hr1 hr2 wc ga gb fl hc hf ew eh;obtain⟨w,ht,y,u,v⟩:=f;obtain⟨aw,ah,ay,au,av⟩:=FA;obtain⟨bw,bh,by',bu,bv⟩:=FB;simp only[fmc]at vo fa fb pa pb h32 m2 m4 hp |-;refine .body (F0:=[(0,.agg [O J w,O J ht,.slice (bs y) y.length false,.slice (bs u) u.length false,.slice (bs v) v.length false]),(1,O J mx),(2,O J my),(3,.agg [O J va,O J vb,O J vc,O J vd]),(4,.agg [O J sa,O J sb])]) func165 rfl ntmps165 results165 rfl kr rfl ?_;refine .e ?_;(repeat refine .seq ?_);refine .rgv (P:=prog) [1,2,5,8,9,10,11] 49 (.bool false) ?_ ?_ ?_
 .rfl
 .clear fa fb pa pb w1;simp(maxSteps:=9^9) (disch:=omega) only[go_sem];(repeat'(first|((refine zg ?_ ?_)<;>intro h<;>(try simp only[nqb]at h)<;>simp(maxSteps:=9^9) (disch:=omega) only[go_sem,zF,zai,h])|((refine VCx.call (vo _) rfl ?_);simp(maxSteps:=9^9) (disch:=omega) only[go_sem,zF,zai])));all_goals(clear vo;simp_all[slot,qE]<;>grind)
 refine .us (.e ?_);refine .l (.round ?_);refine .e (.t ?_);refine .skip (.b ?_);refine .e ?_;(repeat refine .seq ?_);refine .rgv (P:=prog) [1,2,5,8,9,10,51,52] 60 (.bool false) ?_ ?_ ?_
 .rfl
 .clear fa fb pa pb w1 vo;simp(maxSteps:=9^9) (disch:=omega) only[go_sem];(repeat'((refine zg ?_ ?_)<;>intro h<;>(try simp only[nqb]at h)<;>simp(maxSteps:=9^9) (disch:=omega) only[go_sem,h]));all_goals(simp_all[slot,qE])
 refine .us (.e ?_);refine .round (.e ?_);refine .t (.skip ?_);refine .b (.e ?_);(repeat refine .seq ?_);refine .rgv (P:=prog) [1,2,5,8,9,10,51,52] 60 (.bool false) ?_ ?_ ?_
 .rfl
 .clear fa fb pa pb w1 vo;simp(maxSteps:=9^9) (disch:=omega) only[go_sem];(repeat'((refine zg ?_ ?_)<;>intro h<;>(try simp only[nqb]at h)<;>simp(maxSteps:=9^9) (disch:=omega) only[go_sem,h]));all_goals(simp_all[slot,qE])
 refine .us (.e ?_);refine .round (.e ?_);refine .u (.exit ?_);refine .e (.e ?_);refine .l (.round ?_);refine .e (.t ?_);refine .skip (.b ?_);refine .e (.k fa ?_);refine .e (.us ?_);refine .y [H.length+4] [(14,[0]),(91,[0])] [] [88] λK hK=> ?_;simp(maxSteps:=9^9) (disch:=omega) only[go_sem,zy];refine VCj.read (λ_ _=>pa _) rfl ?_;refine sqz ?_;refine hK _ _ ?_;clear hK K;refine .e (.us ?_);refine .e (.round ?_);refine .e (.t ?_);refine .skip (.b ?_);refine .e (.k fb ?_);refine .e (.us ?_);refine .y [H.length+4] [(14,[0]),(91,[0])] [] [88] λK hK=> ?_;simp(maxSteps:=9^9) (disch:=omega) only[go_sem,zy];refine VCj.read (λ_ _=>pb _) rfl ?_;refine sqz ?_;refine hK _ _ ?_;clear hK K;refine .e (.us ?_);refine .e (.round ?_);refine .e (.u ?_);refine .exit (.k w1 ?_);refine .v (.tup [.agg [O J 16,O J 16,.slice (bs W.y) 256 false,.slice (bs W.u) 64 false,.slice (bs W.v) 64 false],O J 0]) ?_;exact .base (.id (zC _ _ _ _ _ _ _ _ _ _))
end Go.Proofs.YtleejngibkbjnaaGreatDoor.Sc
