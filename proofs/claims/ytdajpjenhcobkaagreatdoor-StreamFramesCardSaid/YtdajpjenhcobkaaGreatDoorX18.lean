/-
  Parts of the proof. No condition.
-/
import Derived.Test.YtdajpjenhcobkaaGreatDoorX13
import Derived.Test.YtdajpjenhcobkaaGreatDoorX16
import Derived.Test.YtdajpjenhcobkaaGreatDoorX17
open Bool renaming and_eq_true → qE, eq_iff_iff → jA
open Int renaming natCast_mul → qN, toNat_natCast → qV, fdiv_eq_ediv_of_nonneg → jC, ofNat_inj → jE
open List renaming take_of_length_le → qD, getD_eq_getElem?_getD → qF, take → qG, replicate → qI, length_replicate → qJ, getElem?_eq_some_iff → qK, not_mem_nil → qM, append_assoc → qO, mem_cons → qP, length_append → qQ, drop → qR, getElem?_eq_none → qS, length_cons → qX, length_nil → qZ, getElem?_append_left → jB, drop_of_length_le → jF
open Nat renaming mul_le_mul → qB, le_refl → qH, mul_le_mul_right → qL, beq → qT, add_mul → qU, add_assoc → qW, one_mul → qY, reduceAdd → jD, mul_comm → jH
open Option renaming bind_eq_bind → jG
open Go.Proofs.Tryz renaming prog → qA
set_option linter.all false
set_option maxRecDepth 100000
set_option maxHeartbeats 32000000
namespace Go.Proofs.YtdajpjenhcobkaaGreatDoor.Sc
open Pm Ty Go.RowKit
structure F16(f:Fm):Prop where
 w:f.w=16
 h:f.h=16
 ly:f.y.length=256
 lu:f.u.length=64
 lv:f.v.length=64
def gry:Fm:=⟨16,16,qI 256 128,qI 64 128,qI 64 128⟩
theorem F16.gry:F16 gry:=⟨rfl,rfl,qJ,qJ,qJ⟩
theorem F16.fvd{f:Fm}(h:F16 f):fvd f=true:=by obtain⟨w,h,y,u,v⟩:=f;obtain⟨rfl,rfl,ly,lu,lv⟩:=h;simp only at ly lu lv;simp[Sc.fvd,fmd,fsz,ly,lu,lv]
def cmp(f:Fm)(n:Nat):List UInt8:=if n=4 then f.u else if n=5 then f.v else f.y
def zgu(f:Fm)(n:Nat)(p:List UInt8):Fm:=if n=4 then⟨f.w,f.h,f.y,p,f.v⟩else if n=5 then⟨f.w,f.h,f.y,f.u,p⟩else⟨f.w,f.h,p,f.u,f.v⟩
theorem F16.cmp{f:Fm}(h:F16 f){n:Nat}(hn:n<6):(cmp f n).length=bln n:=by
 unfold Sc.cmp bln;split
 .rw[if_pos om];exact h.lu
 .split
  .rw[if_pos om];exact h.lv
  .rw[if_neg om];exact h.ly
theorem F16.stc{f:Fm}(h:F16 f){n:Nat}(hn:n<6){p:List UInt8}(hp:p.length=bln n):F16 (zgu f n p):=by
 unfold zgu;split
 .exact⟨h.w,h.h,h.ly,by rw[hp];subst n;rfl,h.lv⟩
 .split
  .exact⟨h.w,h.h,h.ly,h.lu,by rw[hp];subst n;rfl⟩
  .exact⟨h.w,h.h,by rw[hp,bln,if_neg om],h.lu,h.lv⟩
def addB(f:Fm)(n:Nat)(fd:Bool)(x:List Int):Fm:=zgu f n (cad (cmp f n) n fd x)
theorem zuc{p:List UInt8}{n:Nat}{fd:Bool}{x:List Int}(hn:n<6)(hp:p.length=bln n):(cad p n fd x).length=bln n:=by rw[cad,zcq hn hp,hp]
theorem F16.addB{f:Fm}(h:F16 f){n:Nat}(hn:n<6)(fd:Bool)(x:List Int):F16 (addB f n fd x):=h.stc hn (zuc hn (h.cmp hn))
def lvl(lv:List Int)(n:Nat):List Int:=(lv.drop (n * 64)).take 64
def rsd(lv:List Int)(al:Bool)(mat:List UInt8)(q:Int)(n:Nat):List Int:=inv (dqz (frs (lvl lv n) al) mat q)
def addN(m:Mb)(al:Bool)(mat:List UInt8)(q:Int)(f:Fm):Nat->Fm
 | 0=>f
 | n+1=>if zN (cdl m) n then addB (addN m al mat q f n) n m.fd (rsd m.lv al mat q n)else addN m al mat q f n
theorem F16.addN{f:Fm}(h:F16 f)(m:Mb)(al:Bool)(mat:List UInt8)(q:Int):∀ n,n<=6->F16 (addN m al mat q f n)
 | 0,_=>h
 | n+1,hn=>by
  have ih:=h.addN m al mat q n om;rw[Sc.addN];split
  .exact ih.addB om _ _
  .exact ih
def prdF(f:Fm)(x y:Int)(h:Nat)(vx vy:Int):Fm:=⟨16,h,prd f.y f.w f.h x y 16 h vx vy,prd f.u (f.w / 2) (f.h / 2) (x / 2) (y / 2) 8 (h / 2) (vx.tdiv 2) (vy.tdiv 2),prd f.v (f.w / 2) (f.h / 2) (x / 2) (y / 2) 8 (h / 2) (vx.tdiv 2) (vy.tdiv 2)⟩
theorem ztm(f:Fm)(x y vx vy:Int):F16 (prdF f x y 16 vx vy):=⟨rfl,rfl,zaX _ _ _ _ _ _ _ _ _,zaX _ _ _ _ _ _ _ _ _,zaX _ _ _ _ _ _ _ _ _⟩
def prdS(f:Fm)(mx my vx vy:Int):Fm×Int:=if(fmd f&&(decide (0<=mx)&&(decide (16 * mx+16<=f.w)&&(decide (0<=my)&&decide (16 * my+16<=f.h)))))=true then(if vrg vx vy=true then(prdF f (16 * mx) (16 * my) 16 vx vy,0)else(f0,2))else(f0,1)
def zbL(f:Fm)(mx my:Int):Bool:=fvd f&&(decide (0<=mx)&&(decide (mx<f.w / 16)&&(decide (0<=my)&&decide (my<f.h / 16))))
def wovF(a b:Fm):Fm:=⟨16,16,wov a.y b.y 16 8,wov a.u b.u 8 4,wov a.v b.v 8 4⟩
def fldS(f:Fm)(mx my va vb vc vd sa sb:Int):Fm×Int:=if(zbL f mx my&&decide (f.h%32=0))=true then(wovF (prdF (fieldOf f sa) (16 * mx) (8 * my) 8 va vb) (prdF (fieldOf f sb) (16 * mx) (8 * my) 8 vc vd),0)else(f0,1)
theorem zi7(f g:Fm)(x y x' y' a b c d:Int):F16 (wovF (prdF f x y 8 a b) (prdF g x' y' 8 c d)):=by have l1:∀ p W R x y vx vy,(prd p W R x y 16 8 vx vy).length=8 * 16:=λ_ _ _ _ _ _ _=>zaX _ _ _ _ _ _ _ _ _;have l2:∀ p W R x y vx vy,(prd p W R x y 8 (8 / 2) vx vy).length=4 * 8:=λ_ _ _ _ _ _ _=>zaX _ _ _ _ _ _ _ _ _;exact⟨rfl,rfl,zap (l1 ..) (l1 ..) 8 (qH _),zap (l2 ..) (l2 ..) 4 (qH _),zap (l2 ..) (l2 ..) 4 (qH _)⟩
def mnF(a b:Fm):Fm:=⟨a.w,a.h,mnb a.y b.y,mnb a.u b.u,mnb a.v b.v⟩
theorem zmB{a:Fm}(h:F16 a)(b:Fm):F16 (mnF a b):=⟨h.w,h.h,(zdq _ _).trans h.ly,(zdq _ _).trans h.lu,(zdq _ _).trans h.lv⟩
def dirP(c:Cx)(fp:Bool)(va vb vc vd sa sb:Int)(pa fu fi:Fm)(d mx my:Int):Fm×Int:=if(refS c pa fu fi d sa).2≠0 then(f0,(refS c pa fu fi d sa).2)else if fp=true then fldS (refS c pa fu fi d sa).1 mx my va vb vc vd sa sb else prdS (refS c pa fu fi d sa).1 mx my va vb
def zgy(c:Cx)(m:Mb)(pa fu fi:Fm)(mx my:Int):Fm×Int:=dirP c m.fp m.va m.vb m.vc m.vd m.sa m.sb pa fu fi 0 mx my
def zeS(c:Cx)(m:Mb)(pa fu fi:Fm)(mx my:Int):Fm×Int:=dirP c m.fp m.ve m.vf m.vg m.vh m.sc m.sd pa fu fi 1 mx my
def prS(c:Cx)(m:Mb)(pa fu fi:Fm)(mx my:Int):Fm×Int:=
 if m.ua=true then
  if(zgy c m pa fu fi mx my).2≠0 then(f0,(zgy c m pa fu fi mx my).2)
  else if m.ub=true then
   if(zeS c m pa fu fi mx my).2≠0 then(f0,(zeS c m pa fu fi mx my).2)
   else(mnF (zgy c m pa fu fi mx my).1 (zeS c m pa fu fi mx my).1,0)
  else zgy c m pa fu fi mx my
 else zeS c m pa fu fi mx my
theorem ztl{f:Fm}{mx my vx vy:Int}(h:(prdS f mx my vx vy).2=0):F16 (prdS f mx my vx vy).1:=by
 unfold prdS at h |-;split at h
 .rename_i h1;split at h
  .rename_i h2;rw[if_pos h1,if_pos h2];exact ztm _ _ _ _ _
  .cases h
 .cases h
theorem ztW{f:Fm}{mx my va vb vc vd sa sb:Int}(h:(fldS f mx my va vb vc vd sa sb).2=0):F16 (fldS f mx my va vb vc vd sa sb).1:=by
 unfold fldS at h |-;split at h
 .rename_i h1;rw[if_pos h1];exact zi7 _ _ _ _ _ _ _ _ _ _
 .cases h
theorem zg0{c:Cx}{fp:Bool}{va vb vc vd sa sb:Int}{pa fu fi:Fm}{d mx my:Int}(h:(dirP c fp va vb vc vd sa sb pa fu fi d mx my).2=0):F16 (dirP c fp va vb vc vd sa sb pa fu fi d mx my).1:=by
 unfold dirP at h |-;split at h
 .rename_i h1;exact absurd h h1
 .rename_i h1;rw[if_neg h1];split at h
  .rename_i h2;rw[if_pos h2];exact ztW h
  .rename_i h2;rw[if_neg h2];exact ztl h
theorem zqD{c:Cx}{m:Mb}{pa fu fi:Fm}{mx my:Int}(h:(prS c m pa fu fi mx my).2=0):F16 (prS c m pa fu fi mx my).1:=by
 unfold prS at h |-;split at h
 .rename_i h1;rw[if_pos h1];split at h
  .rename_i h2;exact absurd h h2
  .rename_i h2;rw[if_neg h2];have h3:F16 (zgy c m pa fu fi mx my).1:=zg0 (Decidable.not_not.1 h2);split at h
   .rename_i h4;rw[if_pos h4];split at h
    .rename_i h5;exact absurd h h5
    .rename_i h5;rw[if_neg h5];exact zmB h3 _
   .rename_i h4;rw[if_neg h4];exact h3
 .rename_i h1;rw[if_neg h1];exact zg0 h
def stl(c:Cx):Mb:=⟨2,true,decide (c.t=3),false,false,0,0,0,0,0,0,0,0,pcx c,0,if c.t=3 then pcx c else 0,0,0,false,false,false,false,false,false,zl384⟩
def zdk(c:Cx)(si sq:List UInt8)(al:Bool)(q:Int)(m:Mb)(pa fu fi:Fm)(mx my:Int):Fm×Int:=
 if(fmS c m&&(zaU si&&(zaU sq&&qnB q)))=true then
  if m.k=1 then(addN m al si q gry 6,0)
  else if(prS c (if m.k=0 then stl c else m) pa fu fi mx my).2≠0 then(f0,(prS c (if m.k=0 then stl c else m) pa fu fi mx my).2)
  else(addN (if m.k=0 then stl c else m) al sq q (prS c (if m.k=0 then stl c else m) pa fu fi mx my).1 6,0)
 else(f0,1)
structure nrF(D:Int)(f g:Fm):Prop where
 w:f.w=g.w
 h:f.h=g.h
 y:nr D f.y g.y
 u:nr D f.u g.u
 v:nr D f.v g.v
theorem nrF.refl{D:Int}(h:0<=D)(f:Fm):nrF D f f:=⟨rfl,rfl,.refl h _,.refl h _,.refl h _⟩
theorem nrF.D0{D:Int}{f g:Fm}(h:nrF D f g):0<=D:=h.y.D0
theorem nrF.fmd{D:Int}{f g:Fm}(h:nrF D f g):fmd f=fmd g:=by unfold Sc.fmd;rw[h.w,h.h,h.y.1,h.u.1,h.v.1]
theorem nrF.fvd{D:Int}{f g:Fm}(h:nrF D f g):fvd f=fvd g:=by unfold Sc.fvd;rw[h.fmd,h.w,h.h]
theorem nrF.prdF{D:Int}{f g:Fm}(h:nrF D f g)(x y:Int)(k:Nat)(vx vy:Int):nrF D (prdF f x y k vx vy) (prdF g x y k vx vy):=by unfold Sc.prdF;rw[h.w,h.h];exact⟨rfl,rfl,h.y.prd _ _ _ _ _ _ _ _,h.u.prd _ _ _ _ _ _ _ _,h.v.prd _ _ _ _ _ _ _ _⟩
theorem nrF.fieldOf{D:Int}{f g:Fm}(h:nrF D f g){s:Int}(hs:s=0\/s=1)(hv:Sc.fvd f=true)(h32:f.h%32=0):nrF D (fieldOf f s) (fieldOf g s):=by
 obtain⟨w,ht,y,u,v⟩:=f;obtain⟨w',ht',y',u',v'⟩:=g;obtain⟨e1,e2,h3,h4,h5⟩:=h;simp only at e1 e2 h3 h4 h5 h32;subst e1 e2;obtain⟨V,K,rfl,rfl,ok⟩:=zcK hv h32;obtain⟨P,hP,rfl⟩:∃ P:Nat,P<=1/\s=(P:Int):=by
  rcases hs with e|e
  .exact⟨0,om,om⟩
  .exact⟨1,om,om⟩
 have f1:=zat V K P y u v;have f2:=zat V K P y' u' v';unfold fr4 at f1 f2;rw[f1,f2];exact⟨rfl,rfl,h3.ctl (zaj _ _ _ hP _ ok.ly),h4.ctl (zaj _ _ _ hP _ ok.lu),h5.ctl (zaj _ _ _ hP _ ok.lv)⟩
def nrA(D:Int)(a b:Fm×Int):Prop:=a.2=b.2/\nrF D a.1 b.1
theorem nrF.lastF{D:Int}{f g:Fm}(h:nrF D f g)(wh:Bool)(s:Int)(hs:wh=true\/s=0\/s=1):nrA D (lastF f wh s) (lastF g wh s):=by
 have h0:=nrF.refl h.D0 f0;unfold Sc.lastF;rw[<-h.w,<-h.fvd,<-h.h];split
 .exact⟨rfl,h0⟩
 split
 .exact⟨rfl,h0⟩
 rename_i hb;split
 .exact⟨rfl,h⟩
 rename_i hw;have hb':Sc.fvd f=true/\f.h%32=0:=by cases hv:Sc.fvd f<;>cases wh<;>simp_all
 exact⟨rfl,h.fieldOf (by rcases hs with e|e;exact absurd e hw;exact e) hb'.1 hb'.2⟩
theorem nrF.refS{D:Int}{pa fu fi pa' fu':Fm}(hp:nrF D pa pa')(hf:nrF D fu fu'){c:Cx}(hc:c.n=false)(d s:Int):nrA D (refS c pa fu fi d s) (refS c pa' fu' fi d s):=by
 have h0:=nrF.refl hp.D0 f0;unfold Sc.refS;split
 .exact⟨rfl,h0⟩
 rename_i hb;have hs:((!(fcx c))=true\/s=0\/s=1):=by
  rw[zdL]at hb;cases hfc:fcx c
  .exact .inl rfl
  .right;rw[hfc]at hb;simp at hb;omega
 unfold zcb;rw[hc];split
 .exact hf.lastF _ _ hs
 .exact hp.lastF _ _ hs
theorem nrF.prdS{D:Int}{f g:Fm}(h:nrF D f g)(mx my vx vy:Int):nrA D (prdS f mx my vx vy) (prdS g mx my vx vy):=by
 have h0:=nrF.refl h.D0 f0;unfold Sc.prdS;rw[h.fmd,h.w,h.h];split
 .split
  .exact⟨rfl,h.prdF _ _ _ _ _⟩
  .exact⟨rfl,h0⟩
 .exact⟨rfl,h0⟩
theorem nrF.wovF{D:Int}{f g f' g':Fm}(h:nrF D f g)(h':nrF D f' g')(x y x' y' a b c d:Int):nrF D (wovF (Sc.prdF f x y 8 a b) (Sc.prdF f' x' y' 8 c d)) (wovF (Sc.prdF g x y 8 a b) (Sc.prdF g' x' y' 8 c d)):=by have h1:=h.prdF x y 8 a b;have h2:=h'.prdF x' y' 8 c d;have l1:∀ p W R x y vx vy,(prd p W R x y 16 8 vx vy).length=8 * 16:=λ_ _ _ _ _ _ _=>zaX _ _ _ _ _ _ _ _ _;have l2:∀ p W R x y vx vy,(prd p W R x y 8 (8 / 2) vx vy).length=4 * 8:=λ_ _ _ _ _ _ _=>zaX _ _ _ _ _ _ _ _ _;exact⟨rfl,rfl,h1.y.wov h2.y (l1 ..) (l1 ..),h1.u.wov h2.u (l2 ..) (l2 ..),h1.v.wov h2.v (l2 ..) (l2 ..)⟩
theorem nrF.fldS{D:Int}{f g:Fm}(h:nrF D f g)(mx my va vb vc vd:Int){sa sb:Int}(ha:sa=0\/sa=1)(hb:sb=0\/sb=1):nrA D (fldS f mx my va vb vc vd sa sb) (fldS g mx my va vb vc vd sa sb):=by
 have h0:=nrF.refl h.D0 f0;have e:zbL f mx my=zbL g mx my:=by unfold zbL;rw[h.fvd,h.w,h.h]
 unfold Sc.fldS;rw[<-e,<-h.h];split
 .rename_i hc;rw[qE,decide_eq_true_eq,zbL,qE]at hc;exact⟨rfl,(h.fieldOf ha hc.1.1 hc.2).wovF (h.fieldOf hb hc.1.1 hc.2) _ _ _ _ _ _ _ _⟩
 .exact⟨rfl,h0⟩
theorem nrF.dirP{D:Int}{pa fu fi pa' fu':Fm}(hp:nrF D pa pa')(hf:nrF D fu fu'){c:Cx}(hc:c.n=false)(fp:Bool)(va vb vc vd:Int){sa sb:Int}(ha:sa=0\/sa=1)(hb:sb=0\/sb=1)(d mx my:Int):
  nrA D (dirP c fp va vb vc vd sa sb pa fu fi d mx my) (dirP c fp va vb vc vd sa sb pa' fu' fi d mx my):=by
 have h0:=nrF.refl hp.D0 f0;obtain⟨h1,h2⟩:=hp.refS (fi:=fi) hf hc d sa;unfold Sc.dirP;rw[h1];split
 .exact⟨rfl,h0⟩
 split
 .exact h2.fldS _ _ _ _ _ _ ha hb
 .exact h2.prdS _ _ _ _
structure selB(m:Mb):Prop where
 a:m.sa=0\/m.sa=1
 b:m.sb=0\/m.sb=1
 c:m.sc=0\/m.sc=1
 d:m.sd=0\/m.sd=1
theorem nrF.mnF{D:Int}{f g f' g':Fm}(h:nrF D f g)(h':nrF D f' g'):nrF D (mnF f f') (mnF g g'):=⟨h.w,h.h,h.y.mnb h'.y,h.u.mnb h'.u,h.v.mnb h'.v⟩
theorem nrF.prS{D:Int}{pa fu fi pa' fu':Fm}(hp:nrF D pa pa')(hf:nrF D fu fu'){c:Cx}(hc:c.n=false){m:Mb}(hs:selB m)(mx my:Int):nrA D (prS c m pa fu fi mx my) (prS c m pa' fu' fi mx my):=by
 have h0:=nrF.refl hp.D0 f0;obtain⟨a1,a2⟩:=hp.dirP (fi:=fi) hf hc m.fp m.va m.vb m.vc m.vd hs.a hs.b 0 mx my;obtain⟨b1,b2⟩:=hp.dirP (fi:=fi) hf hc m.fp m.ve m.vf m.vg m.vh hs.c hs.d 1 mx my;unfold Sc.prS zgy zeS;rw[<-a1,<-b1];split
 .split
  .exact⟨rfl,h0⟩
  .split
   .split
    .exact⟨rfl,h0⟩
    .exact⟨rfl,a2.mnF b2⟩
   .exact⟨a1,a2⟩
 .exact⟨b1,b2⟩
theorem nrF.addB{D:Int}{f g:Fm}(h:nrF D f g)(hf:F16 f){n:Nat}(hn:n<6)(fd:Bool)(x:List Int):nrF D (addB f n fd x) (addB g n fd x):=by
 have hl:=hf.cmp hn;unfold Sc.addB Sc.cmp at *;unfold zgu;by_cases h4:n=4
 .simp only[if_pos h4]at hl |-;exact⟨h.w,h.h,h.y,h.u.cad hn hl,h.v⟩
 .by_cases h5:n=5
  .simp only[if_neg h4,if_pos h5]at hl |-;exact⟨h.w,h.h,h.y,h.u,h.v.cad hn hl⟩
  .simp only[if_neg h4,if_neg h5]at hl |-;exact⟨h.w,h.h,h.y.cad hn hl,h.u,h.v⟩
theorem nrF.addN{D:Int}{f g:Fm}(h:nrF D f g)(hf:F16 f)(m:Mb)(al:Bool)(mat:List UInt8)(q:Int):∀ n,n<=6->nrF D (addN m al mat q f n) (addN m al mat q g n)
 | 0,_=>h
 | n+1,hn=>by
  have ih:=h.addN hf m al mat q n om;rw[Sc.addN,Sc.addN];split
  .exact ih.addB (hf.addN m al mat q n om) om _ _
  .exact ih
theorem zmL(f:Fm)(mx my:Int)(H:za):CallOk qA 89 [.agg (fmc f),.int .i64 mx,.int .i64 my] H (.bool (zbL f mx my)) H:=by
 have va:=λK=>zhf f K;have hr:zbL f mx my=(fvd f&&(decide (0<=mx)&&(decide (mx<f.w / 16)&&(decide (0<=my)&&decide (my<f.h / 16))))):=rfl;generalize zbL f mx my=r at hr |-;cases hv:fvd f
 .rw[hv]at va hr;obtain⟨w,ht,y,u,v⟩:=f;simp only[fmc]at va |-;refine .body (F0:=[(0,.agg [.int .i64 w,.int .i64 ht,.slice (bs y) y.length false,.slice (bs u) u.length false,.slice (bs v) v.length false]),(1,.int .i64 mx),(2,.int .i64 my)]) Tryz.func89 rfl Tryz.ntmps89 Tryz.results89 rfl kr rfl ?_;refine .e ?_;(repeat refine .seq ?_);refine .rg rfl λK hK=> ?_;simp(disch:=omega) only[go_sem];(repeat'(((refine VCx.call (va _) rfl ?_);simp(disch:=omega) only[go_sem])));all_goals(refine hK _ _ ?_;clear hK;(refine .ret ⟨_,rfl,?_⟩;refine .base (.id' ?_ (.bool _)));(simp_all[slot,qT]))
 .rw[hv]at va hr;have hp:(0<=f.w/\f.w<=64)/\0<=f.h/\f.h<=64:=by unfold fvd fmd at hv;simp only[qE]at hv;have:=zbc hv.1.1;omega
  obtain⟨w,ht,y,u,v⟩:=f;simp only[fmc]at va hp hr |-;clear hv;refine .body (F0:=[(0,.agg [.int .i64 w,.int .i64 ht,.slice (bs y) y.length false,.slice (bs u) u.length false,.slice (bs v) v.length false]),(1,.int .i64 mx),(2,.int .i64 my)]) Tryz.func89 rfl Tryz.ntmps89 Tryz.results89 rfl kr rfl ?_;refine .e ?_;(repeat refine .seq ?_);refine .rg rfl λK hK=> ?_;simp(disch:=omega) only[go_sem];(repeat'(first|((refine zg ?_ ?_)<;>intro h<;>(try simp only[nqb]at h)<;>simp(disch:=omega) only[go_sem,zE,h])|((refine VCx.call (va _) rfl ?_);simp(disch:=omega) only[go_sem,zE])));all_goals(refine hK _ _ ?_;clear hK va;(refine .ret ⟨_,rfl,?_⟩;refine .base (.id' ?_ (.bool _)));rw[hr];simp_all[slot,qT]<;>grind)
theorem F16.has{f:Fm}(h:F16 f):zbL f 0 0=true:=by unfold zbL;rw[h.fvd,h.w,h.h];rfl
theorem or6{i:Nat}(h:i<6):i=0\/i=1\/i=2\/i=3\/i=4\/i=5:=om
def zfx(n:Nat)(fd:Bool):List PV:=[.int .i64 (bfr n fd:Int),.int .i64 (bst n fd:Int),.int .i64 8,.int .i64 8]
theorem zb4(n:Nat)(a b c d:Int):∀ x∈[PV.int .i64 a,PV.int .i64 b,PV.int .i64 c,PV.int .i64 d],Scoped n x:=λx hx=>by simp only[qP,qM,or_false]at hx;rcases hx with rfl|rfl|rfl|rfl<;>exact .int _ _
theorem zrr(H:za):CallOk qA 91 [.int .i64 16,.int .i64 0,.int .i64 0] H (.tup [.agg [.int .i64 0,.int .i64 16,.int .i64 16,.int .i64 16],.agg [.int .i64 0,.int .i64 8,.int .i64 8,.int .i64 8]]) H:=by have d1:(16:Int).tdiv 2=8:=rfl;refine .go Tryz.func91 Tryz.ntmps91 Tryz.results91 ?_;refine .e ?_;refine .e ?_;refine .g d1 ?_;(repeat refine .seq ?_);refine .drawi [H.length,H.length+1] [(6,[0]),(7,[1])] [] [] mix kr (by simp<;>omega) λK hK=> ?_;refine sqz ?_;refine hK _ _ ?_;clear hK K;refine .ret ⟨.tup [.agg [.int .i64 0,.int .i64 16,.int .i64 16,.int .i64 16],.agg [.int .i64 0,.int .i64 8,.int .i64 8,.int .i64 8]],by simp(disch:=omega) only[go_sem,zk,zo,List.mapM_cons,List.mapM_nil,Option.pure_def,jG,Option.bind_some,Array.toList,Int.reduceMul,Int.reduceAdd],?_⟩;refine .base (.id (.tup (asc λx hx=> ?_)));grind[zq,zb4]
theorem zk7(n:Nat)(fd:Bool)(hn:n<6)(H:za):CallOk qA 235 [.int .i64 16,.int .i64 0,.int .i64 0,.int .i64 (n:Int),.bool fd] H (.agg (zfx n fd)) H:=by
 have mo:=λK=>zrr K;have m1:(n:Int).tmod 2=((n%2:Nat):Int):=by rfl
 have m2:(n:Int).tdiv 2=((n / 2:Nat):Int):=by rfl
 refine .go Tryz.func235 Tryz.ntmps235 Tryz.results235 ?_;refine .e ?_;refine .k mo ?_;refine .e ?_;refine .c (λh=> ?_) (λh=> ?_)
 .have h4:4<=n:=by grind
  refine .e ?_;refine .v (.agg [.int .i64 0,.int .i64 8,.int .i64 8,.int .i64 8]) ?_;have e:zfx n fd=[.int .i64 0,.int .i64 8,.int .i64 8,.int .i64 8]:=by simp_all[zfx,bfr,bst]
  rw[e];exact .base (.id (zq (zb4 _ _ _ _ _)))
 have h4:¬ 4<=n:=by grind
 refine .skip ?_;refine .g (nq2 m1 m2) ?_;cases fd
 .have e:zfx n false=[.int .i64 (0+((n%2:Nat):Int) * 8+((n / 2:Nat):Int) * 8 * 16),.int .i64 16,.int .i64 8,.int .i64 8]:=by grind[zfx,bfr,bst,Bool.false_eq_true,List.cons.injEq]
  refine .e ?_;refine .us ?_;refine .e ?_;refine .v (.agg [.int .i64 (0+((n%2:Nat):Int) * 8+((n / 2:Nat):Int) * 8 * 16),.int .i64 16,.int .i64 8,.int .i64 8]) ?_;rw[e];exact .base (.id (zq (zb4 _ _ _ _ _)))
 .have e:zfx n true=[.int .i64 (0+((n%2:Nat):Int) * 8+((n / 2:Nat):Int) * 16),.int .i64 32,.int .i64 8,.int .i64 8]:=by unfold zfx bfr bst;rw[if_neg h4,if_neg h4];simp_all
  refine .e ?_;refine .t ?_;refine .e ?_;refine .ret ⟨.agg [.int .i64 (0+((n%2:Nat):Int) * 8+((n / 2:Nat):Int) * 16),.int .i64 32,.int .i64 8,.int .i64 8],by simp(disch:=omega) only[go_sem,zk,zo,List.mapM_cons,List.mapM_nil,Option.pure_def,jG,Option.bind_some,Array.toList,Int.reduceMul],?_⟩;rw[e];exact .base (.id (zq (zb4 _ _ _ _ _)))
theorem zkb(w ht:Int)(y u v:List UInt8)(n:Nat)(H:za)(hn:n<6):CallOk qA 234 [.agg (fmc ⟨w,ht,y,u,v⟩),.int .i64 (n:Int)] H (.slice (bs (cmp ⟨w,ht,y,u,v⟩ n)) (cmp ⟨w,ht,y,u,v⟩ n).length false) H:=by
 refine .body (F0:=[(0,.agg [.int .i64 w,.int .i64 ht,.slice (bs y) y.length false,.slice (bs u) u.length false,.slice (bs v) v.length false]),(1,.int .i64 (n:Int))]) Tryz.func234 rfl Tryz.ntmps234 Tryz.results234 rfl kr rfl ?_;refine .e ?_;refine .e ?_;refine .b ?_;refine .e ?_;refine .c (λh=> ?_) (λh=> ?_)
 .have e:n=4:=by grind
  subst e;refine .e ?_;exact .ret ⟨_,rfl,Fin.base (.id (zr (zh _ _)))⟩
 have e4:n≠4:=by grind
 refine .e ?_;refine .c (λh=> ?_) (λh=> ?_)
 .have e:n=5:=by grind
  subst e;refine .e ?_;exact .ret ⟨_,rfl,Fin.base (.id (zr (zh _ _)))⟩
 have e5:n≠5:=by grind
 have ec:cmp ⟨w,ht,y,u,v⟩ n=y:=by unfold cmp;rw[if_neg e4,if_neg e5]
 rw[ec];refine .skip ?_;refine .e ?_;exact .ret ⟨_,rfl,Fin.base (.id (zr (zh _ _)))⟩
theorem zn7(p:List UInt8)(n:Nat)(fd:Bool):fil (λk=>byt p (bps n fd k)) 64=blk p n fd:=zj3 _
theorem ziU(n:Nat)(l:List Int)(e:Int):Scoped n (.tup [.agg (is l),.int .i64 e]):=.tup (asc λx hx=>by
 simp only[qP,qM,or_false]at hx;rcases hx with rfl|rfl
 .exact zq (zZ _ _)
 .exact .int _ _)
theorem zsp(f:Fm)(hf:F16 f)(n:Nat)(hn:n<6)(fd:Bool)(H:za):
  CallOk qA 150 [.agg (fmc f),.int .i64 0,.int .i64 0,.int .i64 (n:Int),.bool fd] H (.tup [.agg (is (blk (cmp f n) n fd)),.int .i64 0]) H:=by
 have hm:=λK=>zmL f 0 0 K;rw[hf.has]at hm;have co:=λK=>zkb f.w f.h f.y f.u f.v n K hn;have po:=λK=>zk7 n fd hn K;have cl:=hf.cmp hn;have bb:bln n<=256:=by unfold bln;split<;>omega
 have bfb:bfr n fd<=150/\bst n fd<=150:=by rcases or6 hn with rfl|rfl|rfl|rfl|rfl|rfl<;>cases fd<;>decide
 have hfit:∀ k,k<8->bfr n fd+k * bst n fd+8<=(cmp f n).length:=λk hk=>by rw[cl];exact zph hn k hk
 have cu:=λK=>zj8 (cmp f n) (bfr n fd) (bst n fd) 8 8 false K om om om hfit om;have ll:=zaa (cmp f n) (bfr n fd) (bst n fd) 8 8 hfit;have lb:=λk hk=>zt6 (p:=cmp f n) (fd:=fd) hn cl (k:=k) hk;have hz:=zgr (λk=>byt (cmp f n) (bps n fd k));obtain⟨w,ht,y,u,v⟩:=f;have hw:w=16:=hf.w;have hh:ht=16:=hf.h;subst hw hh;simp only at co;obtain⟨P,hP⟩:∃ P,cmp ⟨16,16,y,u,v⟩ n=P:=⟨_,rfl⟩;rw[hP]at co cl hfit cu ll lb hz |-;obtain⟨Z,hZ⟩:∃ Z,ctl P (bfr n fd) (bst n fd) 8 8=Z:=⟨_,rfl⟩;rw[hZ]at cu ll lb;simp only[fmc]at hm co |-;unfold zfx at po;refine .body (F0:=[(0,.agg [.int .i64 16,.int .i64 16,.slice (bs y) y.length false,.slice (bs u) u.length false,.slice (bs v) v.length false]),(1,.int .i64 0),(2,.int .i64 0),(3,.int .i64 (n:Int)),(4,.bool fd)]) Tryz.func150 rfl Tryz.ntmps150 Tryz.results150 rfl kr rfl ?_;refine .e ?_;(repeat refine .seq ?_);refine .rgv (P:=qA) [1,2,3,4,5,10,11] 27 (.bool false) ?_ ?_ ?_
 .rfl
 .simp(disch:=omega) only[go_sem];(repeat'(((refine VCx.call (hm _) rfl ?_);simp(disch:=omega) only[go_sem])));all_goals(simp_all[slot,qT])
 refine .us ?_;refine .e ?_;(repeat refine .seq ?_);refine .draw mix kr λK hK=> ?_;simp(disch:=omega) only[go_sem];(repeat'(((first|refine VCy.call (co _) rfl ?_|refine VCy.call (po _) rfl ?_|refine VCy.call (cu _) rfl ?_);simp(disch:=omega) only[go_sem])));refine hK _ _ ?_;clear hK K;refine .l ?_;suffices h1:∀ k:Nat,k<=64->PL qA _ _ [(10,.ptr (H.length+1) 0 0),(12,.ptr (H.length+2) 0 0),(39,.slice (bs Z) 64 false),(40,.int .i64 64),(41,.int .i64 (k:Int))] (H++[⟨30,0,[.int .i64 16,.int .i64 16,.slice (bs y) y.length false,.slice (bs u) u.length false,.slice (bs v) v.length false]⟩,⟨106,0,is zi⟩,⟨106,0,is (fil (λk=>byt P (bps n fd k)) k)⟩]) _ by exact .at [10,12,39,40,41] (h1 0 om) rfl (by rw[hz];rfl)
 refine cnt 64 (λk hk ih=> ?_) ?_
 .refine .round ?_;refine .e ?_;refine .t ?_;have g1:=lb k hk;rw[blk,zbF _ hk]at g1;have f1:=zeq (λk=>byt P (bps n fd k)) k;have f2:=za6 (λk=>byt P (bps n fd k)) k;have br:=zK P (bps n fd k);refine .skip ?_;refine .b ?_;refine .f (λK k=>by simp(disch:=omega) only[go_sem,zaf,zd,ll,g1];exact k) ?_;refine .f (λK k=>by simp(disch:=omega) only[go_sem,zj,f2,zaG,f1];exact k) ?_;refine .e ?_;exact .at [10,12,39,40,41] ih rfl rfl
 refine .round ?_;refine .e ?_;refine .u ?_;refine .exit ?_;rw[zn7];have c3:(blk P n fd).length=64:=zaW _ _;have c4:(is (blk P n fd)).length=64:=by rfl
 have c5:=zt (blk P n fd);have c6:qG 64 (is (blk P n fd))=is (blk P n fd):=qD om;have z3:(is zi).length=64:=by rfl
 have z4:qR 64 (is zi)=[]:=jF om;refine .g (nq2 c4 (nq2 c5 (nq2 c6 (nq2 z3 z4)))) ?_;refine .w (.tup [.agg (is (blk P n fd)),.int .i64 0]) (nq2 c4 c6) ?_;exact .base (.id (ziU _ _ _))
def one(H:za)(r:Nat)(B:Blk):za:=H.set r B
theorem zcJ(H:za)(r:Nat)(B:Blk):(one H r B).length=H.length:=by unfold one;simp
theorem zfd{H:za}{r:Nat}{B:Blk}(h:H[r]? =some B):one H r B=H:=by
 have hl:=(qK.1 h);unfold one;apply List.ext_getElem?;intro i;rw[List.getElem?_set];split
 .rename_i e;subst e;rw[if_pos hl.1,h]
 .rfl
theorem zq7{H:za}{r:Nat}(hr:r<H.length)(B:Blk):(one H r B)[r]? =some B:=by unfold one;rw[List.getElem?_set];simp[hr]
theorem zq6{H:za}{r:Nat}(hr:r<H.length)(B:Blk)(K:za):(one H r B++K)[r]? =some B:=by rw[jB (by rw[zcJ];exact hr),zq7 hr]
theorem zq3(H:za)(r:Nat)(B X:Blk)(K:za):(one H r B++X::K)[H.length]? =some X:=by rw[List.getElem?_append_right (by rw[zcJ];omega),zcJ];simp
theorem zq5{H:za}{r:Nat}(B C:Blk):(one H r B).set r C=one H r C:=by unfold one;rw[List.set_set]
theorem zq4{H:za}{r:Nat}(hr:r<H.length)(B C:Blk)(K:za):(one H r B++K).set r C=one H r C++K:=by rw[List.set_append_left _ _ (by rw[zcJ];exact hr),zq5]
theorem zhs(P z:List UInt8)(a:Nat):zW (bs P) a (bs z)=bs (spl P a z):=by unfold zW spl;rw[zbm,zbV,zd,<-zR,<-zR,qO]
theorem zct(p z:List UInt8)(r v a s w n:Nat)(g f:Bool)(H:za)(hr:H[r]? =some ⟨5,v,bs p⟩)(hw:w<=64)(hn:n<=64)(hp:p.length<=8192)(hz:z.length=n * w)(hfit:∀ k,k<n->a+k * s+w<=p.length)(hs:s<=200/\a<=200):
  CallOk qA 42 [.msl r v 0 p.length 1 g,.agg [.int .i64 (a:Int),.int .i64 (s:Int),.int .i64 (w:Int),.int .i64 (n:Int)],.slice (bs z) z.length f] H (.tup []) (H.set r ⟨5,v,bs (pst p a s w z n)⟩):=by
 have hrl:=(qK.1 hr).1;have hne:H.length≠r:=om;have hne':r≠H.length:=om;have o1:=λB K=>zq6 hrl B K;have o2:=λB X K=>zq3 H r B X K;have o3:=λB C K=>zq4 hrl B C K;have o4:=λB=>zcJ H r B;have hbig:n * w<=4096:=qB hn hw;refine .go Tryz.func42 Tryz.ntmps42 Tryz.results42 ?_;refine .eq rfl (zfd hr).symm ?_;refine .g o4 ?_;refine .g (nq2 o1 (nq2 o2 o3)) ?_;refine .l ?_;suffices hloop:∀ k:Nat,k<=n->PL qA _ _ [(0,.msl r v 0 p.length 1 g),(2,.slice (bs z) z.length f),(4,.ptr H.length 0 0),(8,.int .i64 (n:Int)),(9,.int .i64 (k:Int))] (one H r ⟨5,v,bs (pst p a s w z k)⟩++[⟨119,0,[.int .i64 (a:Int),.int .i64 (s:Int),.int .i64 (w:Int),.int .i64 (n:Int)]⟩]) _ by exact .at [0,2,4,8,9] (hloop 0 (Nat.zero_le _)) rfl rfl
 refine cnt n (λk hk ih=> ?_) ?_
 .have hpl:=zY (p:=p) (a:=a) (s:=s) hz k om λj hj=>hfit j om;have h6:=hfit k hk;have ct:=zc4 hk;have eR:(k:Int) * (w:Int)=((k * w:Nat):Int):=by simp
  have b1:(k+1) * w=k * w+w:=by rw[qU];omega
  have eR1:((k:Int)+1) * (w:Int)=((k * w+w:Nat):Int):=by rw[<-b1];simp
  have eS:(k:Int) * (s:Int)=((k * s:Nat):Int):=by simp
  have eA:(a:Int)+((k * s:Nat):Int)=((a+k * s:Nat):Int):=by simp
  have b2:(k+1) * w<=n * w:=qL _ om;have e3:k * w+w - k * w=w:=om;have rl:=za4 hz hk;have hmin:min (p.length - (a+k * s)) w=w:=om;have htk:qG w (qG w (qR (k * w) z))=qG w (qR (k * w) z):=qD om;rw[pst]at ih;refine .round ?_;refine .g ct ?_;refine .t ?_;refine .skip ?_;refine .b ?_;refine .e ?_;rw[b1]at b2;(repeat refine .seq ?_);refine .drawt [] [] mix kr λK hK=> ?_;simp(disch:=omega) only[go_sem,zD,o1,o2,o3,eR,eR1,eS,eA,e3,zd,hpl,zbV,zbm,hmin,rl,htk];refine hK _ _ ?_;clear hK K;refine .e ?_;refine .at [0,2,4,8,9] ih rfl ?_;rw[<-zhs,show min w (p.length - (a+k * s))=w from om,htk];simp[zW,zbm,zbV,zR,zd,rl]
 refine .round ?_;refine .f (λK k=>by simp(disch:=omega) only[go_sem,zdK n];exact k) ?_;refine .u ?_;refine .exit ?_;refine Exists.intro _ (And.intro rfl ?_);exact .cut (A:=one H r ⟨5,v,bs (pst p a s w z n)⟩) rfl (zcJ _ _ _).symm (λhh=>HSc.set hh λx hx=>zh _ _ x hx) (.id (.tup (asc λx hx=>by cases hx)))
theorem zf9(p:List UInt8)(f:Bool)(r:Nat)(H:za)(hr:H[r]? =some ⟨5,0,[]⟩)(hp:1<=p.length/\p.length<=100000):
  CallOk qA 161 [.slice (bs p) p.length f] H (.msl r 1 0 p.length 1 true) (H.set r ⟨5,1,bs p⟩):=by
 have hrl:=(qK.1 hr).1;have o1:=λB=>zq7 hrl B;have o3:=λB C=>zq5 (H:=H) (r:=r) B C;have rz:(qI p.length [PV.int .u8 0]).flatten=bs (qI p.length 0):=zbl _;have htk:qG p.length (bs p)=bs p:=qD (by rw[zd];omega);refine .go Tryz.func161 Tryz.ntmps161 Tryz.results161 ?_;refine .e ?_;refine .eq rfl (zfd hr).symm ?_;(repeat refine .seq ?_);refine .seqi [r] [(6,0)] rfl λK hK=> ?_;simp(disch:=omega) only[go_sem,o1,o3];refine hK _ _ ?_;clear hK K;rw[rz];refine .f (λK k=>by simp(disch:=omega) only[go_sem,o1,o3,zd,htk,qJ];exact k) ?_;refine .e ?_;refine .ret ⟨_,rfl,.inl ⟨rfl,?_⟩⟩;unfold one;rw[Nat.min_self,htk,jF (by simp[zd]),List.append_nil]
theorem zo0{K0 L L':za}(hl:L'.length=L.length)(hL:∀ b∈L',∀ x∈b.cells,Scoped (K0.length+L.length) x)(h:HSc (K0++L)):HSc (K0++L'):=λid k hk x hx=>by
 rw[qQ,hl];rw[List.getElem?_append]at hk;split at hk
 .rename_i hlt;have:=h id k (by rw[jB hlt];exact hk) x hx;rwa[qQ]at this
 .exact hL k (List.mem_of_getElem? hk) x hx
def plc:Blk:=⟨5,0,[]⟩
def cpB(p:List UInt8):Blk:=⟨5,1,bs p⟩
theorem ziS(w ht:Int)(y u v:List UInt8)(K0:za)(hy:1<=y.length/\y.length<=100000)(hu:1<=u.length/\u.length<=100000)(hv:1<=v.length/\v.length<=100000):
  CallOk qA 90 [.agg (fmc ⟨w,ht,y,u,v⟩)] (K0++[plc,plc,plc]) (.agg [.int .i64 w,.int .i64 ht,.msl K0.length 1 0 y.length 1 true,.msl (K0.length+1) 1 0 u.length 1 true,.msl (K0.length+2) 1 0 v.length 1 true]) (K0++[cpB y,cpB u,cpB v]):=by
 have g1:K0.length≠K0.length+1:=om;refine .body (F0:=[(0,.agg [.int .i64 w,.int .i64 ht,.slice (bs y) y.length false,.slice (bs u) u.length false,.slice (bs v) v.length false])]) Tryz.func90 rfl Tryz.ntmps90 Tryz.results90 rfl kr rfl ?_;refine .e ?_;(repeat refine .seq ?_);refine .drawi [K0.length,K0.length+1,K0.length+2,K0.length+4] [(2,[3]),(8,[0]),(11,[1]),(14,[2])] [] [] mix kr (by simp<;>omega) λK hK=> ?_;simp(disch:=omega) only[go_sem];refine VCj.wr1 (id:=K0.length) (k:=plc) (b:=cpB y) (hp0 _ _ _) (λL hL _=>zf9 y false _ L hL hy) (by simp(disch:=omega) only[go_sem]) (.inr (by simp(disch:=omega) only[go_sem])) rfl ?_;simp(disch:=omega) only[go_sem];refine VCj.wr1 (id:=K0.length+1) (k:=plc) (b:=cpB u) (hp1 _ _ _ _) (λL hL _=>zf9 u false _ L hL hu) (by simp(disch:=omega) only[go_sem]) (.inr (by simp(disch:=omega) only[go_sem])) rfl ?_;simp(disch:=omega) only[go_sem];refine VCj.wr1 (id:=K0.length+2) (k:=plc) (b:=cpB v) (hp2 _ _ _ _ _) (λL hL _=>zf9 v false _ L hL hv) (by simp(disch:=omega) only[go_sem]) (.inr (by simp(disch:=omega) only[go_sem])) rfl ?_;simp(disch:=omega) only[go_sem];refine hK _ _ ?_;clear hK K;refine .v (.agg [.int .i64 w,.int .i64 ht,.msl K0.length 1 0 y.length 1 true,.msl (K0.length+1) 1 0 u.length 1 true,.msl (K0.length+2) 1 0 v.length 1 true]) ?_;refine .cut (A:=K0++[cpB y,cpB u,cpB v]) (qO _ [_,_,_] [_,_]).symm sp (zo0 sp λb hb x hx=> ?_) (.id (zq λx hx=> ?_))
 .simp only[qP,qM,or_false]at hb;rcases hb with rfl|rfl|rfl<;>exact zh _ _ x hx
 .simp only[qP,qM,or_false]at hx;rcases hx with rfl|rfl|rfl|rfl|rfl
  .exact .int _ _
  .exact .int _ _
  .exact .msl (by simp only[qQ,qX,qZ];omega)
  .exact .msl (by simp only[qQ,qX,qZ];omega)
  .exact .msl (by simp only[qQ,qX,qZ];omega)
theorem zgR(v:Int)(h: -200<=v/\v<=400):zbb .and .i64 v .i64 1=some (.int .i64 (v%2)):=by
 have key:∀ n:Nat,n<601->IntKind.i64.wrap (((BitVec.ofInt 64 ((n:Int) - 200)&&& BitVec.ofInt 64 1).toNat:Nat):Int)=((n:Int) - 200)%2:=by decide+kernel
 have:=key (v+200).toNat om;rw[show(((v+200).toNat:Nat):Int) - 200=v from om]at this;show some (PV.int .i64 (IntKind.i64.wrap (((BitVec.ofInt 64 v&&& BitVec.ofInt 64 1).toNat:Nat):Int)))=_;rw[this]
theorem zeh(k':IntKind)(v:Int):zbb .shr .i64 v k' 1=some (.int .i64 (v / 2)):=by simp only[zbb];rw[if_neg om,show min (1:Int).toNat IntKind.i64.bits=1 by decide,jC _ (by decide)];rfl
theorem zns(k':IntKind)(v:Int):zbb .shr .i64 v k' 2=some (.int .i64 (v / 4)):=by simp only[zbb];rw[if_neg om,show min (2:Int).toNat IntKind.i64.bits=2 by decide,jC _ (by decide)];rfl
theorem zel(i n:Int)(hn:1<=n/\n<=10000)(H:za):CallOk qA 275 [.int .i64 i,.int .i64 n] H (.int .i64 (clm i n)) H:=by refine .go Tryz.func275 Tryz.ntmps275 Tryz.results275 ?_;refine .e ?_;refine .e ?_;(refine .ret ⟨_,rfl,?_⟩;refine .inl ⟨?_,rfl⟩);grind[slot,qT,clm]
theorem zet{i:Int}{n:Nat}(hn:1<=n):∃ a:Nat,clm i n=(a:Int)/\a<n:=by have:=zwB (i:=i) (n:=(n:Int)) om;exact⟨(clm i n).toNat,om,om⟩
theorem zlH{a b W R:Nat}(ha:a<W)(hb:b<R):b * W+a<W * R/\b * W<=W * R:=by have h1:(b+1) * W<=R * W:=qL _ om;grind
structure Itp(i2 i3 i4 i5 i6:Nat)(p:List UInt8)(W R:Nat)(dx dy:Int)(H:za):Prop where
 a:H[i2]? =some ⟨3,0,[.int .i64 (W:Int)]⟩
 b:H[i3]? =some ⟨3,1,[.int .i64 dx]⟩
 c:H[i4]? =some ⟨3,0,[.int .i64 (R:Int)]⟩
 d:H[i5]? =some ⟨3,1,[.int .i64 dy]⟩
 e:H[i6]? =some ⟨28,0,[.slice (bs p) p.length false]⟩
theorem zwc(i2 i3 i4 i5 i6:Nat)(p:List UInt8)(W R:Nat)(dx dy c r:Int)(H:za)(hI:Itp i2 i3 i4 i5 i6 p W R dx dy H)(hp:p.length=W * R)(hW:1<=W/\W<=64)(hR:1<=R/\R<=64)(hd:0<=dx/\dx<=1/\0<=dy/\dy<=1)(hc: -1000<=c/\c<=1000/\-1000<=r/\r<=1000):
  CallOk qA 274 [.int .i64 c,.int .i64 r,.ptr i2 0 0,.ptr i3 1 0,.ptr i4 0 0,.ptr i5 1 0,.ptr i6 0 0] H (.int .u8 ((smp p W R c r+smp p W R (c+dx) r+smp p W R c (r+dy)+smp p W R (c+dx) (r+dy)+2) / 4)) H:=by
 obtain⟨h2,h3,h4,h5,h6⟩:=hI;have n1:=λK=>zel c W om K;have n2:=λK=>zel (c+dx) W om K;have n3:=λK=>zel r R om K;have n4:=λK=>zel (r+dy) R om K;have s1:smp p W R c r=byt p (clm r R * W+clm c W).toNat:=rfl;have s2:smp p W R (c+dx) r=byt p (clm r R * W+clm (c+dx) W).toNat:=rfl;have s3:smp p W R c (r+dy)=byt p (clm (r+dy) R * W+clm c W).toNat:=rfl;have s4:smp p W R (c+dx) (r+dy)=byt p (clm (r+dy) R * W+clm (c+dx) W).toNat:=rfl;obtain⟨a,ea,la⟩:=zet (i:=c) hW.1;obtain⟨b,eb,lb⟩:=zet (i:=c+dx) hW.1;obtain⟨u,eu,lu⟩:=zet (i:=r) hR.1;obtain⟨l,el,ll⟩:=zet (i:=r+dy) hR.1;rw[ea]at n1;rw[eb]at n2;rw[eu]at n3;rw[el]at n4;rw[ea,eu]at s1;rw[eb,eu]at s2;rw[ea,el]at s3;rw[eb,el]at s4;have bg:W * R<=64 * 64:=qB om om;have k1:=zlH la lu;have k2:=zlH lb lu;have k3:=zlH la ll;have k4:=zlH lb ll;have e0:(u:Int) * (W:Int)=((u * W:Nat):Int):=by simp
 have e1:(l:Int) * (W:Int)=((l * W:Nat):Int):=by simp
 have e2:((u * W:Nat):Int)+(a:Int)=((u * W+a:Nat):Int):=om;have e3:((u * W:Nat):Int)+(b:Int)=((u * W+b:Nat):Int):=om;have e4:((l * W:Nat):Int)+(a:Int)=((l * W+a:Nat):Int):=om;have e5:((l * W:Nat):Int)+(b:Int)=((l * W+b:Nat):Int):=om;rw[e0,e2,qV]at s1;rw[e0,e3,qV]at s2;rw[e1,e4,qV]at s3;rw[e1,e5,qV]at s4;rw[s1,s2,s3,s4];have r1:=zK p (u * W+a);have r2:=zK p (u * W+b);have r3:=zK p (l * W+a);have r4:=zK p (l * W+b);refine .go Tryz.func274 Tryz.ntmps274 Tryz.results274 ?_;refine .e ?_;(repeat refine .seq ?_);refine .draw mix kr λK hK=> ?_;simp(disch:=omega) only[go_sem,h2,h3];(repeat'(((first|refine VCy.call (n1 _) rfl ?_|refine VCy.call (n2 _) rfl ?_);simp(disch:=omega) only[go_sem,h2,h3])));refine hK _ _ ?_;clear hK K;(repeat refine .seq ?_);refine .draw mix kr λK hK=> ?_;simp(disch:=omega) only[go_sem,h2,h4,h5,e0,e1];(repeat'(((first|refine VCy.call (n3 _) rfl ?_|refine VCy.call (n4 _) rfl ?_);simp(disch:=omega) only[go_sem,h2,h4,h5,e0,e1])));refine hK _ _ ?_;clear hK K;(repeat refine .seq ?_);refine .draw mix kr λK hK=> ?_;simp(disch:=omega) only[go_sem,h6,e2,e3,e4,e5,zaf,zd];refine hK _ _ ?_;clear hK K;refine .f (λK k=>by simp(disch:=omega) only[go_sem,zns];exact k) ?_;(refine .ret ⟨_,rfl,?_⟩;refine .inl ⟨?_,rfl⟩);rfl
def prk(p:List UInt8)(W R x y:Int)(w:Nat)(vx vy:Int)(k:Nat):List UInt8:=rgB k λk=>pxl p W R (x+((k%w:Nat):Int)) (y+((k / w:Nat):Int)) vx vy
theorem zgQ(p:List UInt8)(W R x y:Int)(w:Nat)(vx vy:Int)(k:Nat):(prk p W R x y w vx vy k).length=k:=zcH _ _
theorem zkY(p:List UInt8)(W R x y:Int)(w:Nat)(vx vy:Int)(j i:Nat)(hi:i<w):bs (prk p W R x y w vx vy (j * w+(i+1)))=bs (prk p W R x y w vx vy (j * w+i))++[.int .u8 (pxl p W R (x+(i:Int)) (y+(j:Int)) vx vy)]:=by
 have e1:(j * w+i)%w=i:=by rw[Nat.add_comm,Nat.add_mul_mod_self_right];exact Nat.mod_eq_of_lt hi
 have e2:(j * w+i) / w=j:=by rw[Nat.add_comm,Nat.add_mul_div_right _ _ om,Nat.div_eq_of_lt hi,Nat.zero_add]
 grind[prk,qW,zkT,zR,zsn,zcN,zqv]
theorem znt(p:List UInt8)(W R x y:Int)(w h:Nat)(vx vy:Int):prk p W R x y w vx vy (h * w)=prd p W R x y w h vx vy:=by rw[prk,prd,jH]
theorem zeK(p:List UInt8)(W R w hg:Nat)(x y vx vy:Int)(H:za)(hp:p.length=W * R)(hW:1<=W/\W<=64)(hR:1<=R/\R<=64)(hw:1<=w/\w<=16)(hgb:hg<=16)(hx:0<=x/\x<=64/\0<=y/\y<=64)(hv: -63<=vx/\vx<=63/\-63<=vy/\vy<=63):
  CallOk qA 240 [.slice (bs p) p.length false,.int .i64 (W:Int),.int .i64 (R:Int),.agg [.int .i64 x,.int .i64 y,.int .i64 (w:Int),.int .i64 (hg:Int)],.agg [.int .i64 vx,.int .i64 vy]] H (.slice (bs (prd p W R x y w hg vx vy)) (w * hg) false) H:=by
 have e0:(w:Int) * (hg:Int)=((hg * w:Nat):Int):=by grind
 have hbig:hg * w<=16 * 16:=qB hgb hw.2;have a1:=zgR vx om;have a2:=zgR vy om;refine .go Tryz.func240 Tryz.ntmps240 Tryz.results240 ?_;refine .e ?_;refine .view (Vs.place 3) ?_;refine .view (Vs.place 3) ?_;(repeat refine .seq ?_);refine .drawi [H.length+5,H.length+6] [(11,[0]),(12,[1])] [(11,0),(12,1)] [] mix kr (by simp<;>omega) λK hK=> ?_;simp(disch:=omega) only[go_sem,zD,a1,a2];refine hK _ _ ?_;clear hK K;refine .e ?_;refine .g e0 ?_;refine .e ?_;refine .l ?_;suffices h1:∀ j:Nat,j<=hg->PL qA _ _ [(8,.ptr (H.length+3) 0 0),(9,.ptr (H.length+4) 0 0),(13,.func 274 [] [.ptr (H.length+1) 0 0,.ptr (H.length+5) 1 0,.ptr (H.length+2) 0 0,.ptr (H.length+6) 1 0,.ptr H.length 0 0]),(14,.msl (H.length+7) (j * w) 0 (j * w) 1 true),(31,.int .i64 (hg:Int)),(32,.int .i64 (j:Int))] (H++[⟨28,0,[.slice (bs p) p.length false]⟩,⟨3,0,[.int .i64 (W:Int)]⟩,⟨3,0,[.int .i64 (R:Int)]⟩,⟨316,0,[.int .i64 x,.int .i64 y,.int .i64 (w:Int),.int .i64 (hg:Int)]⟩,⟨100,0,[.int .i64 vx,.int .i64 vy]⟩,⟨3,1,[.int .i64 (vx%2)]⟩,⟨3,1,[.int .i64 (vy%2)]⟩,⟨5,j * w,bs (prk p W R x y w vx vy (j * w))⟩]) _ by exact .at [8,9,13,14,31,32] (h1 0 om) (by rw[Nat.zero_mul];rfl) (by rw[Nat.zero_mul];rfl)
 refine cnt hg (λj hj ih=> ?_) ?_
 .have ct:=zc4 hj;refine .round ?_;refine .g ct ?_;refine .t ?_;refine .skip ?_;refine .b ?_;refine .e ?_;refine .e ?_;refine .l ?_;suffices h2:∀ i:Nat,i<=w->PL qA _ _ [(8,.ptr (H.length+3) 0 0),(9,.ptr (H.length+4) 0 0),(13,.func 274 [] [.ptr (H.length+1) 0 0,.ptr (H.length+5) 1 0,.ptr (H.length+2) 0 0,.ptr (H.length+6) 1 0,.ptr H.length 0 0]),(14,.msl (H.length+7) (j * w+i) 0 (j * w+i) 1 true),(15,.int .i64 (j:Int)),(31,.int .i64 (hg:Int)),(32,.int .i64 (j:Int)),(36,.int .i64 (w:Int)),(37,.int .i64 (i:Int))] (H++[⟨28,0,[.slice (bs p) p.length false]⟩,⟨3,0,[.int .i64 (W:Int)]⟩,⟨3,0,[.int .i64 (R:Int)]⟩,⟨316,0,[.int .i64 x,.int .i64 y,.int .i64 (w:Int),.int .i64 (hg:Int)]⟩,⟨100,0,[.int .i64 vx,.int .i64 vy]⟩,⟨3,1,[.int .i64 (vx%2)]⟩,⟨3,1,[.int .i64 (vy%2)]⟩,⟨5,j * w+i,bs (prk p W R x y w vx vy (j * w+i))⟩]) _ by exact .at [8,9,13,14,15,31,32,36,37] (h2 0 om) rfl rfl
  refine cnt w (λi hi ih2=> ?_) ?_
  .have ct:=zc4 hi;refine .round ?_;refine .g ct ?_;refine .t ?_;have b2:(j+1) * w<=hg * w:=qL _ om;rw[qU,qY]at b2;have pl:=zgQ p W R x y w vx vy (j * w+i);have it:=zwc (H.length+1) (H.length+5) (H.length+2) (H.length+6) H.length p W R (vx%2) (vy%2) (x+(i:Int)+vx / 2) (y+(j:Int)+vy / 2) (H++[⟨28,0,[.slice (bs p) p.length false]⟩,⟨3,0,[.int .i64 (W:Int)]⟩,⟨3,0,[.int .i64 (R:Int)]⟩,⟨316,0,[.int .i64 x,.int .i64 y,.int .i64 (w:Int),.int .i64 (hg:Int)]⟩,⟨100,0,[.int .i64 vx,.int .i64 vy]⟩,⟨3,1,[.int .i64 (vx%2)]⟩,⟨3,1,[.int .i64 (vy%2)]⟩,⟨5,j * w+i,bs (prk p W R x y w vx vy (j * w+i))⟩]) ⟨apn _ _ 1,apn _ _ 5,apn _ _ 2,apn _ _ 6,hp0 _ _ _⟩ hp hW hR om om;rw[<-pxl]at it;rw[zkY _ _ _ _ _ _ _ _ _ _ hi]at ih2;refine .skip ?_;refine .b ?_;refine .e ?_;refine .f (λK k=>by simp(disch:=omega) only[go_sem,zeh,zd,pl];refine VCx.call (it) rfl ?_;simp(disch:=omega) only[go_sem,zeh,zd,pl];exact k) ?_;refine .e ?_;have lp:(bs (prk p W R x y w vx vy (j * w+i))++[PV.int .u8 (pxl p W R (x+(i:Int)) (y+(j:Int)) vx vy)]).length=j * w+(i+1):=by simp[zd,pl];omega
   exact .at [8,9,13,14,15,31,32,36,37] ih2 (by rw[lp];rfl) (by rw[lp])
  .refine .round ?_;refine .f (λK k=>by simp(disch:=omega) only[go_sem,zdK w];exact k) ?_;refine .u ?_;refine .exit ?_;refine .e ?_;exact .at [8,9,13,14,31,32] ih (by rw[qU,qY];rfl) (by rw[qU,qY])
 refine .round ?_;refine .f (λK k=>by simp(disch:=omega) only[go_sem,zdK hg];exact k) ?_;refine .u ?_;refine .exit ?_;have pl:=zgQ p W R x y w vx vy (hg * w);refine .e ?_;rw[<-znt,jH w hg];refine .ret ⟨_,rfl,?_⟩;exact .base (Fz.mslC (e:=5) (xs:=bs (prk p W R x y w vx vy (hg * w))) om (apn _ _ 7) (by rw[zd,pl];omega) (FzC.refl (zh _ _)))
def flB(N:Nat)(f:Nat->Int)(n:Nat):List UInt8:=rgB N λj=>if j<n then f j else 0
theorem zgX(N:Nat)(f:Nat->Int)(n:Nat):(flB N f n).length=N:=zcH _ _
theorem zrW(N:Nat)(f:Nat->Int):bs (flB N f 0)=zb8 N [PV.int .u8 0]:=by rw[zbl];congr 1;apply List.ext_getElem;all_goals simp_all[flB,rgB,u8]
theorem zgW{N:Nat}{f:Nat->Int}{n:Nat}(hf:0<=f n/\f n<=255):(bs (flB N f n)).set n (.int .u8 (f n))=bs (flB N f (n+1)):=by
 conv=>lhs;rw[<-zcN hf]
 rw[zie];congr 1;apply List.ext_getElem;all_goals grind[flB,rgB]
theorem zep(N:Nat)(f:Nat->Int):flB N f N=rgB N f:=zs9 λi hi=>if_pos hi
theorem zjM(a b:List UInt8)(f g:Bool)(H:za)(hl:a.length=b.length)(ha:a.length<=8192):CallOk qA 241 [.slice (bs a) a.length f,.slice (bs b) b.length g] H (.slice (bs (mnb a b)) a.length false) H:=by
 have hz:=zrW a.length (λi=>(byt a i+byt b i+1) / 2);have he:=zep a.length (λi=>(byt a i+byt b i+1) / 2);rw[<-mnb]at he;refine .go Tryz.func241 Tryz.ntmps241 Tryz.results241 ?_;refine .e ?_;refine .e ?_;refine .e ?_;refine .l ?_;suffices h1:∀ k:Nat,k<=a.length->PL qA _ _ [(1,.slice (bs b) b.length g),(5,.msl H.length 0 0 a.length 1 true),(11,.slice (bs a) a.length f),(12,.int .i64 (a.length:Int)),(13,.int .i64 (k:Int))] (H++[⟨5,0,bs (flB a.length (λi=>(byt a i+byt b i+1) / 2) k)⟩]) _ by exact .at [1,5,11,12,13] (h1 0 om) rfl (by rw[hz];rfl)
 refine cnt a.length (λk hk ih=> ?_) ?_
 .have ct:=zc4 hk;have r1:=zK a k;have r2:=zK b k;have fl:=zgX a.length (λi=>(byt a i+byt b i+1) / 2) k;have fs:=zgW (N:=a.length) (f:=λi=>(byt a i+byt b i+1) / 2) (n:=k) (by show 0<=(byt a k+byt b k+1) / 2/\(byt a k+byt b k+1) / 2<=255;omega);refine .round ?_;refine .g ct ?_;refine .t ?_;refine .skip ?_;refine .b ?_;refine .f (λK k=>by simp(disch:=omega) only[go_sem,zaf,zd];exact k) ?_;refine .f (λK k=>by simp(disch:=omega) only[go_sem,zaf,zd,fl,zeh,fs];exact k) ?_;refine .e ?_;exact .at [1,5,11,12,13] ih rfl rfl
 refine .round ?_;refine .f (λK k=>by simp(disch:=omega) only[go_sem,zdK a.length];exact k) ?_;refine .u ?_;refine .exit ?_;rw[he];refine .e ?_;refine .ret ⟨_,rfl,?_⟩;exact .base (Fz.mslC (e:=5) (xs:=bs (mnb a b)) om (hp0 _ _ _) (by rw[zd,zdq];omega) (FzC.refl (zh _ _)))
theorem zuB(y u v p:List UInt8)(w h:Int):zgu ⟨w,h,y,u,v⟩ 4 p=⟨w,h,y,p,v⟩:=rfl
theorem zuA(y u v p:List UInt8)(w h:Int):zgu ⟨w,h,y,u,v⟩ 5 p=⟨w,h,y,u,p⟩:=rfl
theorem zuz(y u v p:List UInt8)(w h:Int){n:Nat}(h4:n≠4)(h5:n≠5):zgu ⟨w,h,y,u,v⟩ n p=⟨w,h,p,u,v⟩:=by unfold zgu;rw[if_neg h4,if_neg h5]
theorem zu1(y u v:List UInt8)(w h:Int){n:Nat}(h4:n≠4)(h5:n≠5):cmp ⟨w,h,y,u,v⟩ n=y:=by unfold cmp;rw[if_neg h4,if_neg h5]
theorem zsf(w ht:Int)(r a b c:Nat)(n:Nat)(H:za)(hr:r+2<H.length)(hn:n<6):CallOk qA 234 [.agg [.int .i64 w,.int .i64 ht,.msl r 1 0 a 1 true,.msl (r+1) 1 0 b 1 true,.msl (r+2) 1 0 c 1 true],.int .i64 (n:Int)] H (if n=4 then .msl (r+1) 1 0 b 1 true else if n=5 then .msl (r+2) 1 0 c 1 true else .msl r 1 0 a 1 true) H:=by
 refine .go Tryz.func234 Tryz.ntmps234 Tryz.results234 ?_;refine .e ?_;refine .e ?_;refine .b ?_;refine .e ?_;refine .c (λh=> ?_) (λh=> ?_)
 .have e:n=4:=by grind
  subst e;refine .e ?_;exact .ret ⟨_,rfl,Fin.base (.id (.msl om))⟩
 have e4:n≠4:=by grind
 rw[if_neg e4];refine .e ?_;refine .c (λh=> ?_) (λh=> ?_)
 .have e:n=5:=by grind
  subst e;refine .e ?_;exact .ret ⟨_,rfl,Fin.base (.id (.msl om))⟩
 have e5:n≠5:=by grind
 rw[if_neg e5];refine .skip ?_;refine .e ?_;exact .ret ⟨_,rfl,Fin.base (.id (.msl om))⟩
theorem zas(n:Nat)(a b:Int)(p q r:List UInt8)(i j k:Nat)(e f g:Bool):∀ x∈[PV.int .i64 a,PV.int .i64 b,PV.slice (bs p) i e,PV.slice (bs q) j f,PV.slice (bs r) k g],Scoped n x:=λx hx=>by
 simp only[qP,qM,or_false]at hx;rcases hx with rfl|rfl|rfl|rfl|rfl
 .exact .int _ _
 .exact .int _ _
 all_goals grind[zr,zh]
theorem zxl(x:List Int):flB 64 (λk=>clp (ze x k)) 64=rgB 64 λk=>clp (ze x k):=zep _ _
theorem zkO(f:Fm)(hf:F16 f)(n:Nat)(hn:n<6)(fd:Bool)(x:List Int)(hx:x.length=64)(H:za):
  CallOk qA 152 [.agg (fmc f),.int .i64 0,.int .i64 0,.int .i64 (n:Int),.bool fd,.agg (is x)] H (.tup [.agg (fmc (zgu f n (zdh (cmp f n) n fd x))),.int .i64 0]) H:=by
 have hm:=λK=>zmL f 0 0 K;rw[hf.has]at hm;have po:=λK=>zk7 n fd hn K;have cl:=hf.cmp hn;have bfb:bfr n fd<=150/\bst n fd<=150:=by rcases or6 hn with rfl|rfl|rfl|rfl|rfl|rfl<;>cases fd<;>decide
 have bb:bln n<=256:=by unfold bln;split<;>omega
 have hfit:∀ k,k<8->bfr n fd+k * bst n fd+8<=(cmp f n).length:=λk hk=>by rw[cl];exact zph hn k hk
 have zl:(rgB 64 λk=>clp (ze x k)).length=64:=zcH _ _;have pa:=λr K hr=>zct (cmp f n) (rgB 64 λk=>clp (ze x k)) r 1 (bfr n fd) (bst n fd) 8 8 true false K hr om om om zl hfit om;have hsl:=zcq (fd:=fd) (x:=x) hn cl;have hset:pst (cmp f n) (bfr n fd) (bst n fd) 8 (rgB 64 λk=>clp (ze x k)) 8=zdh (cmp f n) n fd x:=rfl;have hz:=zrW 64 (λk=>clp (ze x k));obtain⟨w,ht,y,u,v⟩:=f;obtain⟨hw,hh,l1,l2,l3⟩:=hf;simp only at hw hh l1 l2 l3;subst hw hh;rw[hset]at pa;have hall:=zt x;have tkx:qG 64 (is x)=is x:=qD (by rw[zj];omega);have fc:=ziS 16 16 y u v (H++[⟨30,0,fmc ⟨16,16,y,u,v⟩⟩,⟨106,0,is x⟩,⟨30,0,[.int .i64 0,.int .i64 0,.slice [] 0 true,.slice [] 0 true,.slice [] 0 true]⟩]) om om om;simp only[fmc,plc,l1,l2,l3,zl,hl3,qO,List.cons_append,List.nil_append,qW,jD]at hm fc pa |-;unfold zfx at po;obtain⟨Z,hZ⟩:∃ Z,rgB 64 (λk=>clp (ze x k))=Z:=⟨_,rfl⟩;rw[hZ]at pa zl;have hZ2:flB 64 (λk=>clp (ze x k)) 64=Z:=(zxl x).trans hZ;refine .body (F0:=[(0,.agg [.int .i64 16,.int .i64 16,.slice (bs y) 256 false,.slice (bs u) 64 false,.slice (bs v) 64 false]),(1,.int .i64 0),(2,.int .i64 0),(3,.int .i64 (n:Int)),(4,.bool fd),(5,.agg (is x))]) Tryz.func152 rfl Tryz.ntmps152 Tryz.results152 rfl kr rfl ?_;refine .g hall ?_;(repeat refine .seq ?_);refine .rgv (P:=qA) [1,2,3,4,6,11,12,13] 30 (.bool false) ?_ ?_ ?_
 .rfl
 .simp(disch:=omega) only[go_sem];(repeat'(((refine VCx.call (hm _) rfl ?_);simp(disch:=omega) only[go_sem])));all_goals(simp_all[slot,qT])
 refine .us ?_;refine .e ?_;refine .f (λK k=>by simp(disch:=omega) only[go_sem,zj,tkx];exact k) ?_;refine .l ?_;suffices h1:∀ k:Nat,k<=64->PL qA _ _ [(1,.int .i64 0),(2,.int .i64 0),(3,.int .i64 (n:Int)),(4,.bool fd),(6,.ptr H.length 0 0),(12,.ptr (H.length+2) 0 0),(14,.msl (H.length+3) 0 0 64 1 true),(33,.agg (is x)),(34,.int .i64 (k:Int))] (H++[⟨30,0,[.int .i64 16,.int .i64 16,.slice (bs y) 256 false,.slice (bs u) 64 false,.slice (bs v) 64 false]⟩,⟨106,0,is x⟩,⟨30,0,[.int .i64 0,.int .i64 0,.slice [] 0 true,.slice [] 0 true,.slice [] 0 true]⟩,⟨5,0,bs (flB 64 (λk=>clp (ze x k)) k)⟩]) _ by exact .at [1,2,3,4,6,12,14,33,34] (h1 0 om) rfl (by rw[hz];rfl)
 refine cnt 64 (λk hk ih=> ?_) ?_
 .refine .round ?_;refine .e ?_;refine .t ?_;have b1:=zdw (ze x k);have cp:(if 255<(if ze x k<0 then 0 else ze x k)then 255 else(if ze x k<0 then 0 else ze x k))=clp (ze x k):=by unfold clp;omega
  have f1:=zgW (N:=64) (f:=λk=>clp (ze x k)) (n:=k) b1;have f2:=zgX 64 (λk=>clp (ze x k)) k;refine .skip ?_;refine .b ?_;refine .f (λK k=>by simp(disch:=omega) only[go_sem,zQ,zj,hx];exact k) ?_;refine .f (λK k=>by simp(disch:=omega) only[go_sem,zd,f2,cp,f1];exact k) ?_;refine .e ?_;exact .at [1,2,3,4,6,12,14,33,34] ih rfl rfl
 refine .round ?_;refine .e ?_;refine .u ?_;refine .exit ?_;rw[hZ2];refine .view (Vs.trim (F1:=[(1,.int .i64 0),(2,.int .i64 0),(3,.int .i64 (n:Int)),(4,.bool fd),(6,.ptr H.length 0 0),(12,.ptr (H.length+2) 0 0),(14,.slice (bs Z) 64 false)]) (H1:=H++[⟨30,0,[.int .i64 16,.int .i64 16,.slice (bs y) 256 false,.slice (bs u) 64 false,.slice (bs v) 64 false]⟩,⟨106,0,is x⟩,⟨30,0,[.int .i64 0,.int .i64 0,.slice [] 0 true,.slice [] 0 true,.slice [] 0 true]⟩]) (zh0 ?_) sp (qO _ [_,_,_] [_]).symm ?_) ?_
 .intro b hb z hz;simp only[qP,qM,or_false]at hb;rcases hb with rfl|rfl|rfl
  .exact zas _ 16 16 y u v _ _ _ _ _ _ z hz
  .exact zZ _ _ z hz
  .exact zas _ 0 0 [] [] [] _ _ _ _ _ _ z hz
 .rw[hl3];exact⟨.id (.int _ _),.id (.int _ _),.id (.int _ _),.id (.bool _),.id (.ptr om),.id (.ptr om),Fz.mslC (e:=5) (xs:=bs Z) om (apn _ _ 3) (by rw[zd,zl]) (FzC.refl (zh _ _)),trivial⟩
 refine .view (Vs.place 5) ?_;refine .view (Vs.place 5) ?_;refine .view (Vs.place 5) ?_;refine .f (λK k=>by simp(disch:=omega) only[go_sem];refine VCx.call (fc) rfl ?_;simp(disch:=omega) only[go_sem];exact k) ?_;have co:=λL hL=>zsf 16 16 (H.length+3) 256 64 64 n L hL hn;simp only[qW,jD]at co;by_cases h4:n=4
 .subst h4;have cu:cmp ⟨16,16,y,u,v⟩ 4=u:=rfl;rw[cu]at hsl pa cl;rw[cu,zuB];simp only[if_pos,hsl,l1,l2,l3]at co pa |-;(repeat refine .seq ?_);refine .drawi [H.length+4] [(50,[0])] [] [50,57] mix kr (by simp<;>omega) λK hK=> ?_;refine sqz ?_;refine VCj.read (λL hL=>co L (by have:=hL.len;simp at this;omega)) rfl ?_;refine sqz ?_;refine VCj.read (λ_ _=>po _) rfl ?_;refine sqz ?_;refine VCj.wr1 (id:=H.length+4) (k:=cpB u) (b:=cpB (zdh u 4 fd x)) (apn _ _ 4) (λL hL _=>pa _ L hL) (by simp(disch:=omega) only[go_sem]) (.inl rfl) rfl ?_;refine sqz ?_;refine hK _ _ ?_;clear hK K;refine .e ?_;refine .v (.tup [.agg [.int .i64 16,.int .i64 16,.msl (H.length+3) 1 0 256 1 true,.msl (H.length+4) 1 0 64 1 true,.msl (H.length+5) 1 0 64 1 true],.int .i64 0]) ?_;refine .base (Fz.tupC ⟨Fz.aggC ⟨.id (.int _ _),.id (.int _ _),Fz.mslC (e:=5) (xs:=bs y) om (apn _ _ 3) (by rw[zd];omega) (FzC.refl (zh _ _)),Fz.mslC (e:=5) (xs:=bs (zdh u 4 fd x)) om (apn _ _ 4) (by rw[zd];omega) (FzC.refl (zh _ _)),Fz.mslC (e:=5) (xs:=bs v) om (apn _ _ 5) (by rw[zd];omega) (FzC.refl (zh _ _)),trivial⟩,.id (.int _ _),trivial⟩)
 by_cases h5:n=5
 .subst h5;have cu:cmp ⟨16,16,y,u,v⟩ 5=v:=rfl;rw[cu]at hsl pa cl;rw[cu,zuA];simp only[if_neg h4,if_pos,hsl,l1,l2,l3]at co pa |-;(repeat refine .seq ?_);refine .drawi [H.length+5] [(50,[0])] [] [50,57] mix kr (by simp<;>omega) λK hK=> ?_;refine sqz ?_;refine VCj.read (λL hL=>co L (by have:=hL.len;simp at this;omega)) rfl ?_;refine sqz ?_;refine VCj.read (λ_ _=>po _) rfl ?_;refine sqz ?_;refine VCj.wr1 (id:=H.length+5) (k:=cpB v) (b:=cpB (zdh v 5 fd x)) (apn _ _ 5) (λL hL _=>pa _ L hL) (by simp(disch:=omega) only[go_sem]) (.inl rfl) rfl ?_;refine sqz ?_;refine hK _ _ ?_;clear hK K;refine .e ?_;refine .v (.tup [.agg [.int .i64 16,.int .i64 16,.msl (H.length+3) 1 0 256 1 true,.msl (H.length+4) 1 0 64 1 true,.msl (H.length+5) 1 0 64 1 true],.int .i64 0]) ?_;refine .base (Fz.tupC ⟨Fz.aggC ⟨.id (.int _ _),.id (.int _ _),Fz.mslC (e:=5) (xs:=bs y) om (apn _ _ 3) (by rw[zd];omega) (FzC.refl (zh _ _)),Fz.mslC (e:=5) (xs:=bs u) om (apn _ _ 4) (by rw[zd];omega) (FzC.refl (zh _ _)),Fz.mslC (e:=5) (xs:=bs (zdh v 5 fd x)) om (apn _ _ 5) (by rw[zd];omega) (FzC.refl (zh _ _)),trivial⟩,.id (.int _ _),trivial⟩)
 have cu:cmp ⟨16,16,y,u,v⟩ n=y:=zu1 _ _ _ _ _ h4 h5;rw[cu]at hsl pa cl;rw[cu,zuz _ _ _ _ _ _ h4 h5];simp only[if_neg h4,if_neg h5,hsl,l1,l2,l3]at co pa |-;(repeat refine .seq ?_);refine .drawi [H.length+3] [(50,[0])] [] [50,57] mix kr (by simp<;>omega) λK hK=> ?_;refine sqz ?_;refine VCj.read (λL hL=>co L (by have:=hL.len;simp at this;omega)) rfl ?_;refine sqz ?_;refine VCj.read (λ_ _=>po _) rfl ?_;refine sqz ?_;refine VCj.wr1 (id:=H.length+3) (k:=cpB y) (b:=cpB (zdh y n fd x)) (apn _ _ 3) (λL hL _=>pa _ L hL) (by simp(disch:=omega) only[go_sem]) (.inl rfl) rfl ?_;refine sqz ?_;refine hK _ _ ?_;clear hK K;refine .e ?_;refine .v (.tup [.agg [.int .i64 16,.int .i64 16,.msl (H.length+3) 1 0 256 1 true,.msl (H.length+4) 1 0 64 1 true,.msl (H.length+5) 1 0 64 1 true],.int .i64 0]) ?_;refine .base (Fz.tupC ⟨Fz.aggC ⟨.id (.int _ _),.id (.int _ _),Fz.mslC (e:=5) (xs:=bs (zdh y n fd x)) om (apn _ _ 3) (by rw[zd];omega) (FzC.refl (zh _ _)),Fz.mslC (e:=5) (xs:=bs u) om (apn _ _ 4) (by rw[zd];omega) (FzC.refl (zh _ _)),Fz.mslC (e:=5) (xs:=bs v) om (apn _ _ 5) (by rw[zd];omega) (FzC.refl (zh _ _)),trivial⟩,.id (.int _ _),trivial⟩)
structure Hok(V K:Nat)(f:Fm):Prop where
 w:f.w=((2 * V:Nat):Int)
 h:f.h=((2 * K:Nat):Int)
 rv:1<=V/\V<=32
 rk:1<=K/\K<=16
 ly:f.y.length=2 * K * (2 * V)
 lu:f.u.length=K * V
 lv:f.v.length=K * V
def zi6(V K:Nat)(a b:Fm):Fm:=⟨((2 * V:Nat):Int),((4 * K:Nat):Int),wov a.y b.y (2 * V) (2 * K),wov a.u b.u V K,wov a.v b.v V K⟩
theorem zpt(a b:Fm):zi6 8 4 a b=wovF a b:=rfl
theorem Hok.fmd{V K:Nat}{f:Fm}(h:Hok V K f):fmd f=true:=by
 obtain⟨w,ht,y,u,v⟩:=f;obtain⟨hw,hh,⟨v1,v2⟩,⟨k1,k2⟩,ly,lu,lv⟩:=h;simp only at hw hh ly lu lv;subst hw hh;have e1:((2 * V:Nat):Int) / 2=(V:Int):=om;have e2:((2 * K:Nat):Int) / 2=(K:Int):=om;have a1:fsz ((2 * V:Nat):Int) ((2 * K:Nat):Int)=true:=by simp_all[fsz,qE];omega
 have a2:((2 * K * (2 * V):Nat):Int)=((2 * V:Nat):Int) * ((2 * K:Nat):Int):=by grind
 have a3:((K * V:Nat):Int)=(V:Int) * (K:Int):=by grind
 simp only[Sc.fmd,a1,e1,e2,ly,lu,lv,a2,a3,decide_true,Bool.and_self]
theorem zhd(V K:Nat)(a b:Fm)(ha:Hok V K a)(hb:Hok V K b)(H:za):CallOk qA 16 [.agg (fmc a),.agg (fmc b)] H (.tup [.agg (fmc (zi6 V K a b)),.int .i64 0]) H:=by
 have fa:=λL=>za5 a L;have fb:=λL=>za5 b L;rw[ha.fmd]at fa;rw[hb.fmd]at fb;obtain⟨w,ht,y,u,v⟩:=a;obtain⟨w',ht',y',u',v'⟩:=b;obtain⟨hw,hh,⟨v1,v2⟩,⟨k1,k2⟩,ly,lu,lv⟩:=ha;obtain⟨hw',hh',_,_,ly',lu',lv'⟩:=hb;simp only at hw hh ly lu lv hw' hh' ly' lu' lv';subst hw hh hw' hh';have bN1:2 * K * (2 * (2 * V))<=32 * 128:=qB om om;have bN2:K * (2 * V)<=16 * 64:=qB om om;have bn1:2 * K * (2 * V)<=32 * 64:=qB om om;have bn2:K * V<=16 * 32:=qB om om;have x1:(2:Int) * ((2 * K:Nat):Int)=((4 * K:Nat):Int):=om;have x2:(2:Int) * ((2 * V:Nat):Int)=((2 * (2 * V):Nat):Int):=om;have x3:((2 * (2 * V):Nat):Int) * ((2 * K:Nat):Int)=((2 * K * (2 * (2 * V)):Nat):Int):=by grind
 have x4:((2 * V:Nat):Int) * ((2 * K:Nat):Int)=((K * (2 * V) * 2:Nat):Int):=by grind
 have x5:((K * (2 * V) * 2:Nat):Int).tdiv 2=((K * (2 * V):Nat):Int):=by simp_all
 have y0:(0:Int) * ((2 * V:Nat):Int)=((0:Nat):Int):=by simp
 have y1:((0:Int)+1) * ((2 * V:Nat):Int)=((2 * V:Nat):Int):=by simp
 have y2:((2 * V:Nat):Int).tdiv 2=(V:Int):=by simp_all
 have y3:((0:Nat):Int).tdiv 2=((0:Nat):Int):=rfl;have y4:((2 * K:Nat):Int).tdiv 2=(K:Int):=by simp_all
 obtain⟨Z1,hZ1,z1⟩:∃ Z:List UInt8,Z=qI (2 * K * (2 * (2 * V))) 0/\Z.length=2 * K * (2 * (2 * V)):=⟨_,rfl,qJ⟩;obtain⟨Z2,hZ2,z2⟩:∃ Z:List UInt8,Z=qI (K * (2 * V)) 0/\Z.length=K * (2 * V):=⟨_,rfl,qJ⟩;have r1:(qI (2 * K * (2 * (2 * V))) [PV.int .u8 0]).flatten=bs Z1:=by rw[hZ1];exact zbl _
 have r2:(qI (K * (2 * V)) [PV.int .u8 0]).flatten=bs Z2:=by rw[hZ2];exact zbl _
 have fit:=fun(W M L P:Nat) (hP:P<=1) (hL:L=M * (2 * W)) k (hk:k<M)=>(show P * W+k * (2 * W)+W<=L by
  have h1:(k+1) * (2 * W)<=M * (2 * W):=qL _ om;rw[qU]at h1;have:P * W<=W:=by have:P=0\/P=1:=om;rcases this with rfl|rfl<;>simp
  omega)
 have f1a:∀ k,k<2 * K->0+k * (2 * (2 * V))+2 * V<=Z1.length:=λk hk=>by have:=fit (2 * V) (2 * K) Z1.length 0 om z1 k hk;simpa using this
 have f2a:∀ k,k<K->0+k * (2 * V)+V<=Z2.length:=λk hk=>by have:=fit V K Z2.length 0 om z2 k hk;simpa using this
 have l1:(pst Z1 0 (2 * (2 * V)) (2 * V) y (2 * K)).length=Z1.length:=zY ly _ (qH _) f1a;have l2:(pst Z2 0 (2 * V) V u K).length=Z2.length:=zY lu _ (qH _) f2a;have l3:(pst Z2 0 (2 * V) V v K).length=Z2.length:=zY lv _ (qH _) f2a;have p1:=λL hr=>zct Z1 y (H.length+3) 1 0 (2 * (2 * V)) (2 * V) (2 * K) true false L hr om om om ly f1a om;have p2:=λL hr=>zct Z2 u (H.length+4) 1 0 (2 * V) V K true false L hr om om om lu f2a om;have p3:=λL hr=>zct Z2 v (H.length+5) 1 0 (2 * V) V K true false L hr om om om lv f2a om;have q1:=λL hr=>zct (pst Z1 0 (2 * (2 * V)) (2 * V) y (2 * K)) y' (H.length+3) 1 (2 * V) (2 * (2 * V)) (2 * V) (2 * K) true false L hr om om om ly' (λk hk=>by have:=fit (2 * V) (2 * K) Z1.length 1 om z1 k hk;rw[l1];simpa using this) om;have q2:=λL hr=>zct (pst Z2 0 (2 * V) V u K) u' (H.length+4) 1 V (2 * V) V K true false L hr om om om lu' (λk hk=>by have:=fit V K Z2.length 1 om z2 k hk;rw[l2];simpa using this) om;have q3:=λL hr=>zct (pst Z2 0 (2 * V) V v K) v' (H.length+5) 1 V (2 * V) V K true false L hr om om om lv' (λk hk=>by have:=fit V K Z2.length 1 om z2 k hk;rw[l3];simpa using this) om;rw[zjy ly ly' z1,l1,z1]at q1;rw[zjy lu lu' z2,l2,z2]at q2;rw[zjy lv lv' z2,l3,z2]at q3;rw[z1]at p1;rw[z2]at p2 p3;have w1:(wov y y' (2 * V) (2 * K)).length=2 * K * (2 * (2 * V)):=zap ly ly' _ (qH _);have w2:(wov u u' V K).length=K * (2 * V):=zap lu lu' _ (qH _);have w3:(wov v v' V K).length=K * (2 * V):=zap lv lv' _ (qH _);simp only[fmc,zi6,w1,w2,w3,ly,lu,lv,ly',lu',lv']at fa fb p1 p2 p3 q1 q2 q3 |-;generalize pst Z1 0 (2 * (2 * V)) (2 * V) y (2 * K)=T1 at p1 q1 l1;generalize pst Z2 0 (2 * V) V u K=T2 at p2 q2 l2;generalize pst Z2 0 (2 * V) V v K=T3 at p3 q3 l3;generalize wov y y' (2 * V) (2 * K)=W1 at q1 w1 |-;generalize wov u u' V K=W2 at q2 w2 |-;generalize wov v v' V K=W3 at q3 w3 |-;clear hZ1 hZ2 f1a f2a fit;refine .body (F0:=[(0,.agg [.int .i64 ((2 * V:Nat):Int),.int .i64 ((2 * K:Nat):Int),.slice (bs y) (2 * K * (2 * V)) false,.slice (bs u) (K * V) false,.slice (bs v) (K * V) false]),(1,.agg [.int .i64 ((2 * V:Nat):Int),.int .i64 ((2 * K:Nat):Int),.slice (bs y') (2 * K * (2 * V)) false,.slice (bs u') (K * V) false,.slice (bs v') (K * V) false])]) Tryz.func16 rfl Tryz.ntmps16 Tryz.results16 rfl kr rfl ?_;refine .e ?_;(repeat refine .seq ?_);refine .rgv (P:=qA) [2,3,4,5] 38 (.bool false) ?_ ?_ ?_
 .rfl
 .simp(maxSteps:=3000000) (disch:=omega) only[go_sem];(repeat'(((first|refine VCx.call (fa _) rfl ?_|refine VCx.call (fb _) rfl ?_);simp(maxSteps:=3000000) (disch:=omega) only[go_sem])));all_goals(simp_all[slot,qT])
 refine .us ?_;(repeat refine .seq ?_);refine .draw mix kr λK hK=> ?_;simp(maxSteps:=3000000) (disch:=omega) only[go_sem];refine hK _ _ ?_;clear hK K;refine .view (Vs.place 5) ?_;refine .view (Vs.place 5) ?_;refine .view (Vs.place 5) ?_;refine .view (Vs.place 30) ?_;(repeat refine .seq ?_);refine .drawi [H.length+3,H.length+4,H.length+5,H.length+6] [(51,[0]),(56,[1]),(61,[2]),(8,[3])] [(51,0),(56,1),(61,2),(8,3)] [] mix kr (by simp<;>omega) λK hK=> ?_;simp(maxSteps:=3000000) (disch:=omega) only[go_sem,zD,x1,x2,x3,x4,x5];refine hK _ _ ?_;clear hK K;rw[r1,r2];refine .e ?_;refine .l ?_;refine .round ?_;refine .e ?_;refine .t ?_;refine .skip ?_;refine .b ?_;refine .e ?_;refine .f (λK k=>by simp(maxSteps:=3000000) (disch:=omega) only[go_sem,y0,x2];refine VCx.call (p1 _ (apn _ _ 3)) rfl ?_;simp(maxSteps:=3000000) (disch:=omega) only[go_sem,y0,x2];exact k) ?_;refine .f (λK k=>by simp(maxSteps:=3000000) (disch:=omega) only[go_sem,y0,x2,y2,y3,y4];refine VCx.call (p2 _ (apn _ _ 4)) rfl ?_;simp(maxSteps:=3000000) (disch:=omega) only[go_sem,y0,x2,y2,y3,y4];exact k) ?_;refine .f (λK k=>by simp(maxSteps:=3000000) (disch:=omega) only[go_sem,y0,x2,y2,y3,y4];refine VCx.call (p3 _ (apn _ _ 5)) rfl ?_;simp(maxSteps:=3000000) (disch:=omega) only[go_sem,y0,x2,y2,y3,y4];exact k) ?_;refine .e ?_;refine .round ?_;refine .e ?_;refine .t ?_;refine .skip ?_;refine .b ?_;refine .e ?_;refine .f (λK k=>by simp(maxSteps:=3000000) (disch:=omega) only[go_sem,y1,x2];refine VCx.call (q1 _ (apn _ _ 3)) rfl ?_;simp(maxSteps:=3000000) (disch:=omega) only[go_sem,y1,x2];exact k) ?_;refine .f (λK k=>by simp(maxSteps:=3000000) (disch:=omega) only[go_sem,y1,x2,y2,y3,y4];refine VCx.call (q2 _ (apn _ _ 4)) rfl ?_;simp(maxSteps:=3000000) (disch:=omega) only[go_sem,y1,x2,y2,y3,y4];exact k) ?_;refine .f (λK k=>by simp(maxSteps:=3000000) (disch:=omega) only[go_sem,y1,x2,y2,y3,y4];refine VCx.call (q3 _ (apn _ _ 5)) rfl ?_;simp(maxSteps:=3000000) (disch:=omega) only[go_sem,y1,x2,y2,y3,y4];exact k) ?_;refine .e ?_;refine .round ?_;refine .e ?_;refine .u ?_;refine .exit ?_;refine .e ?_;refine .v (.tup [.agg [.int .i64 ((2 * V:Nat):Int),.int .i64 ((4 * K:Nat):Int),.msl (H.length+3) 1 0 (2 * K * (2 * (2 * V))) 1 true,.msl (H.length+4) 1 0 (K * (2 * V)) 1 true,.msl (H.length+5) 1 0 (K * (2 * V)) 1 true],.int .i64 0]) ?_;refine .base (Fz.tupC ⟨Fz.aggC ⟨.id (.int _ _),.id (.int _ _),Fz.mslC (e:=5) (xs:=bs W1) om (apn _ _ 3) (by rw[zd];omega) (FzC.refl (zh _ _)),Fz.mslC (e:=5) (xs:=bs W2) om (apn _ _ 4) (by rw[zd];omega) (FzC.refl (zh _ _)),Fz.mslC (e:=5) (xs:=bs W3) om (apn _ _ 5) (by rw[zd];omega) (FzC.refl (zh _ _)),trivial⟩,.id (.int _ _),trivial⟩)
theorem zvd(x y:Int)(H:za):CallOk qA 239 [.agg [.int .i64 x,.int .i64 y]] H (.bool (vrg x y)) H:=by refine .go Tryz.func239 Tryz.ntmps239 Tryz.results239 ?_;(repeat'(first|refine .seq ?_|((refine .rg rfl λK hK=> ?_);simp(disch:=omega) only[go_sem])|((refine zg ?_ ?_)<;>intro h<;>(try simp only[nqb]at h)<;>simp(disch:=omega) only[go_sem,h])|(refine hK _ _ ?_;clear hK K)));all_goals((refine .ret ⟨_,rfl,?_⟩;refine .base (.id' ?_ (.bool _)));(simp_all[vrg,win,slot,qT]<;>omega))
def zcS(f:Fm)(x y h:Int):Bool:=decide (0<=x)&&(decide (x%2=0)&&(decide (x<=f.w - 16)&&(decide (0<=y)&&(decide (y%2=0)&&decide (y<=f.h - h)))))
def zdW(f:Fm)(x y:Int)(h:Nat)(vx vy:Int):Fm×Int:=if(fmd f&&zcS f x y h)=true then(if vrg vx vy=true then(prdF f x y h vx vy,0)else(f0,2))else(f0,1)
theorem zmf(f:Fm)(x y:Int)(h:Nat)(vx vy:Int):fmc (prdF f x y h vx vy)=[.int .i64 16,.int .i64 (h:Int),.slice (bs (prdF f x y h vx vy).y) (16 * h) false,.slice (bs (prdF f x y h vx vy).u) (8 * (h / 2)) false,.slice (bs (prdF f x y h vx vy).v) (8 * (h / 2)) false]:=by simp_all[prdF,zaX,fmc]
theorem znR{f:Fm}(h:fmd f=true):∃ V K:Nat,1<=V/\V<=32/\1<=K/\K<=32/\f.w=((2 * V:Nat):Int)/\f.h=((2 * K:Nat):Int)/\f.y.length=2 * V * (2 * K)/\f.u.length=V * K/\f.v.length=V * K:=by obtain⟨w,ht,y,u,v⟩:=f;simp only[fmd,qE,decide_eq_true_eq]at h;obtain⟨hs,hy,hu,hv⟩:=h;obtain⟨g1,g2,g3,g4,g5,g6⟩:=zbc hs;obtain⟨A,hA⟩:∃ A:Nat,(w / 2).toNat=A:=⟨_,rfl⟩;obtain⟨B,hB⟩:∃ B:Nat,(ht / 2).toNat=B:=⟨_,rfl⟩;have e1:w=((2 * A:Nat):Int):=om;have e2:ht=((2 * B:Nat):Int):=om;have e3:w / 2=(A:Int):=om;have e4:ht / 2=(B:Int):=om;rw[e3,e4]at hu hv;rw[e1,e2]at hy;refine⟨A,B,om,om,om,om,e1,e2,?_,?_,?_⟩;all_goals grind
theorem zdV(f:Fm)(x y vx vy:Int)(hg:Nat)(hgb:hg=8\/hg=16)(hb: -10000<=x/\x<=10000/\-10000<=y/\y<=10000)(H:za):
  CallOk qA 157 [.agg (fmc f),.int .i64 x,.int .i64 y,.int .i64 16,.int .i64 (hg:Int),.agg [.int .i64 vx,.int .i64 vy]] H (.tup [.agg (fmc (zdW f x y hg vx vy).1),.int .i64 (zdW f x y hg vx vy).2]) H:=by
 have fo:=λK=>za5 f K;have vo:=λK=>zvd vx vy K;have h16:((hg:Int) !=8&&(hg:Int) !=16)=false:=by grind
 generalize hr:zdW f x y hg vx vy=r;have hrf:r=zdW f x y hg vx vy:=hr.symm;obtain⟨w,ht,Y,U,V⟩:=f;by_cases hf:fmd ⟨w,ht,Y,U,V⟩=true;case neg=>
  have hf:fmd ⟨w,ht,Y,U,V⟩=false:=by simp_all
  rw[hf]at fo;rw[zdW,hf,Bool.false_and,if_neg sp]at hr;simp only[fmc]at fo |-;refine .body (F0:=[(0,.agg [.int .i64 w,.int .i64 ht,.slice (bs Y) Y.length false,.slice (bs U) U.length false,.slice (bs V) V.length false]),(1,.int .i64 x),(2,.int .i64 y),(3,.int .i64 16),(4,.int .i64 (hg:Int)),(5,.agg [.int .i64 vx,.int .i64 vy])]) Tryz.func157 rfl Tryz.ntmps157 Tryz.results157 rfl kr rfl ?_;refine .e ?_;(repeat refine .seq ?_);refine .rgv (P:=qA) [6,12,13] 31 (.bool true) ?_ ?_ ?_
  .rfl
  .simp(disch:=omega) only[go_sem];(repeat'(((refine VCx.call (fo _) rfl ?_);simp(disch:=omega) only[go_sem])));all_goals(simp_all[slot,qT]<;>(rw[jA];simp;done))
  refine .t ?_;refine .e ?_;refine .v (.tup [.agg [.int .i64 0,.int .i64 0,.slice [] 0 true,.slice [] 0 true,.slice [] 0 true],.int .i64 1]) ?_;rw[<-hr];exact .base (fz0 _ _ _)
 rw[hf]at fo;rw[zdW,hf,Bool.true_and]at hr;obtain⟨A,B,a1,a2,b1,b2,ew,eh,ly,lu,lv⟩:=znR hf;simp only at ew eh ly lu lv;subst ew eh;simp only[fmc]at fo |-;refine .body (F0:=[(0,.agg [.int .i64 ((2 * A:Nat):Int),.int .i64 ((2 * B:Nat):Int),.slice (bs Y) Y.length false,.slice (bs U) U.length false,.slice (bs V) V.length false]),(1,.int .i64 x),(2,.int .i64 y),(3,.int .i64 16),(4,.int .i64 (hg:Int)),(5,.agg [.int .i64 vx,.int .i64 vy])]) Tryz.func157 rfl Tryz.ntmps157 Tryz.results157 rfl kr rfl ?_;refine .e ?_;(repeat refine .seq ?_);refine .rgv (P:=qA) [1,2,3,4,6,11,12,13] 31 (.bool false) ?_ ?_ ?_
 .rfl
 .clear hr;rcases hgb with rfl|rfl;all_goals(simp(disch:=omega) only[go_sem];(repeat'(((refine VCx.call (fo _) rfl ?_);simp(disch:=omega) only[go_sem]))))
  all_goals(simp_all[slot,qT]<;>(rw[jA];simp;done))
 refine .us ?_;(repeat refine .seq ?_);refine .rgv (P:=qA) [1,2,3,4,6,11,12,13] 64 (.bool (!(zcS ⟨((2 * A:Nat):Int),((2 * B:Nat):Int),Y,U,V⟩ x y hg))) ?_ ?_ ?_
 .rfl
 .clear hr fo vo;simp(disch:=omega) only[go_sem];(repeat'((refine zg ?_ ?_)<;>intro h<;>(try simp only[nqb]at h)<;>simp(disch:=omega) only[go_sem,zad,h]));all_goals(simp_all[zcS,slot,qT]<;>(rw[jA];simp;done))
 refine .c (λh=> ?_) (λh=> ?_)
 .have hp:zcS ⟨((2 * A:Nat):Int),((2 * B:Nat):Int),Y,U,V⟩ x y hg=false:=by simpa using h
  rw[hp,if_neg sp]at hr;refine .e ?_;refine .v (.tup [.agg [.int .i64 0,.int .i64 0,.slice [] 0 true,.slice [] 0 true,.slice [] 0 true],.int .i64 1]) ?_;rw[<-hr];exact .base (fz0 _ _ _)
 have hp:zcS ⟨((2 * A:Nat):Int),((2 * B:Nat):Int),Y,U,V⟩ x y hg=true:=by simpa using h
 rw[hp,if_pos rfl]at hr;refine .skip ?_;refine .k vo ?_;refine .c (λh=> ?_) (λh=> ?_)
 .have hv:vrg vx vy=false:=by simpa using h
  rw[hv,if_neg sp]at hr;refine .e ?_;refine .v (.tup [.agg [.int .i64 0,.int .i64 0,.slice [] 0 true,.slice [] 0 true,.slice [] 0 true],.int .i64 2]) ?_;rw[<-hr];exact .base (fz0 _ _ _)
 have hv:vrg vx vy=true:=by simpa using h
 rw[hv,if_pos rfl]at hr;refine .skip ?_;have hvb: -63<=vx/\vx<=63/\-63<=vy/\vy<=63:=by simp[vrg,win]at hv;omega
 simp only[zcS,qE,decide_eq_true_eq]at hp;obtain⟨p1,p2,p3,p4,p5,p6⟩:=hp;have d1:((2 * A:Nat):Int).tdiv 2=(A:Int):=by simp_all
 have d2:((2 * B:Nat):Int).tdiv 2=(B:Int):=by simp_all
 have d3:x.tdiv 2=x / 2:=zE _ _ om;have d4:y.tdiv 2=y / 2:=zE _ _ om;have d5:(hg:Int).tdiv 2=((hg / 2:Nat):Int):=by rfl
 have d6:(16:Int).tdiv 2=8:=rfl;have t1: -63<=vx.tdiv 2/\vx.tdiv 2<=63:=by grind
 have t2: -63<=vy.tdiv 2/\vy.tdiv 2<=63:=by grind
 have c1:=λK=>zeK Y (2 * A) (2 * B) 16 hg x y vx vy K ly om om om om om hvb;have c2:=λK=>zeK U A B 8 (hg / 2) (x / 2) (y / 2) (vx.tdiv 2) (vy.tdiv 2) K lu om om om om om om;have c3:=λK=>zeK V A B 8 (hg / 2) (x / 2) (y / 2) (vx.tdiv 2) (vy.tdiv 2) K lv om om om om om om;have q1:(prdF ⟨((2 * A:Nat):Int),((2 * B:Nat):Int),Y,U,V⟩ x y hg vx vy).y=prd Y ((2 * A:Nat):Int) ((2 * B:Nat):Int) x y 16 hg vx vy:=rfl;have dA:((2 * A:Nat):Int) / 2=(A:Int):=om;have dB:((2 * B:Nat):Int) / 2=(B:Int):=om;have q2:(prdF ⟨((2 * A:Nat):Int),((2 * B:Nat):Int),Y,U,V⟩ x y hg vx vy).u=prd U (A:Int) (B:Int) (x / 2) (y / 2) 8 (hg / 2) (vx.tdiv 2) (vy.tdiv 2):=by show prd U (((2 * A:Nat):Int) / 2) (((2 * B:Nat):Int) / 2) _ _ _ _ _ _=_;rw[dA,dB]
 have q3:(prdF ⟨((2 * A:Nat):Int),((2 * B:Nat):Int),Y,U,V⟩ x y hg vx vy).v=prd V (A:Int) (B:Int) (x / 2) (y / 2) 8 (hg / 2) (vx.tdiv 2) (vy.tdiv 2):=by show prd V (((2 * A:Nat):Int) / 2) (((2 * B:Nat):Int) / 2) _ _ _ _ _ _=_;rw[dA,dB]
 have hc:=zmf ⟨((2 * A:Nat):Int),((2 * B:Nat):Int),Y,U,V⟩ x y hg vx vy;rw[q1,q2,q3]at hc;generalize prd Y ((2 * A:Nat):Int) ((2 * B:Nat):Int) x y 16 hg vx vy=PY at c1 hc;generalize prd U (A:Int) (B:Int) (x / 2) (y / 2) 8 (hg / 2) (vx.tdiv 2) (vy.tdiv 2)=PU at c2 hc;generalize prd V (A:Int) (B:Int) (x / 2) (y / 2) 8 (hg / 2) (vx.tdiv 2) (vy.tdiv 2)=PV1 at c3 hc;have hcr:fmc r.1=[.int .i64 16,.int .i64 (hg:Int),.slice (bs PY) (16 * hg) false,.slice (bs PU) (8 * (hg / 2)) false,.slice (bs PV1) (8 * (hg / 2)) false]:=by grind
 have hcr2:r.2=0:=by rw[<-hr]
 simp only[fmc]at hcr;rw[hcr,hcr2];clear hr hrf q1 q2 q3 hc hcr;refine .e ?_;refine .g (nq2 d3 (nq2 d4 (nq2 d5 d6))) ?_;(repeat refine .seq ?_);refine .draw mix kr λK hK=> ?_;simp(disch:=omega) only[go_sem,d1,d2];(repeat'(((first|refine VCy.call (c1 _) rfl ?_|refine VCy.call (c2 _) rfl ?_|refine VCy.call (c3 _) rfl ?_);simp(disch:=omega) only[go_sem,d1,d2])));refine hK _ _ ?_;clear hK K;refine .v (.tup [.agg [.int .i64 16,.int .i64 (hg:Int),.slice (bs PY) (16 * hg) false,.slice (bs PU) (8 * (hg / 2)) false,.slice (bs PV1) (8 * (hg / 2)) false],.int .i64 0]) ?_;exact .base (.id (zC _ _ _ _ _ _ _ _ _ _))
theorem zuN{a:Fm}(h:F16 a)(b:Fm):fmc (mnF a b)=[.int .i64 16,.int .i64 16,.slice (bs (mnb a.y b.y)) 256 false,.slice (bs (mnb a.u b.u)) 64 false,.slice (bs (mnb a.v b.v)) 64 false]:=by have h':=zmB h b;unfold fmc;rw[h'.ly,h'.lu,h'.lv,h'.w,h'.h];rfl
theorem zm0(a b:Fm)(ha:F16 a)(hb:F16 b)(H:za):CallOk qA 159 [.agg (fmc a),.agg (fmc b)] H (.tup [.agg (fmc (mnF a b)),.int .i64 0]) H:=by
 have fa:=λK=>za5 a K;have fb:=λK=>za5 b K;have va:=ha.fvd;have vb:=hb.fvd;unfold fvd at va vb;rw[qE]at va vb;rw[va.1]at fa;rw[vb.1]at fb;rw[zuN ha];obtain⟨w,ht,y,u,v⟩:=a;obtain⟨w',ht',y',u',v'⟩:=b;obtain⟨hw,hh,l1,l2,l3⟩:=ha;obtain⟨hw',hh',l1',l2',l3'⟩:=hb;simp only at hw hh l1 l2 l3 hw' hh' l1' l2' l3';subst hw hh hw' hh';have m1:=λK=>zjM y y' false false K om om;have m2:=λK=>zjM u u' false false K om om;have m3:=λK=>zjM v v' false false K om om;simp only[fmc,l1,l2,l3,l1',l2',l3']at fa fb m1 m2 m3 |-;refine .body (F0:=[(0,.agg [.int .i64 16,.int .i64 16,.slice (bs y) 256 false,.slice (bs u) 64 false,.slice (bs v) 64 false]),(1,.agg [.int .i64 16,.int .i64 16,.slice (bs y') 256 false,.slice (bs u') 64 false,.slice (bs v') 64 false])]) Tryz.func159 rfl Tryz.ntmps159 Tryz.results159 rfl kr rfl ?_;refine .e ?_;(repeat refine .seq ?_);refine .rgv (P:=qA) [2,3,4] 27 (.bool false) ?_ ?_ ?_
 .rfl
 .simp(disch:=omega) only[go_sem];(repeat'(((first|refine VCx.call (fa _) rfl ?_|refine VCx.call (fb _) rfl ?_);simp(disch:=omega) only[go_sem])));all_goals(simp_all[slot,qT])
 refine .us ?_;(repeat refine .seq ?_);refine .draw mix kr λK hK=> ?_;simp(disch:=omega) only[go_sem];(repeat'(((first|refine VCy.call (m1 _) rfl ?_|refine VCy.call (m2 _) rfl ?_|refine VCy.call (m3 _) rfl ?_);simp(disch:=omega) only[go_sem])));refine hK _ _ ?_;clear hK K;refine .v (.tup [.agg [.int .i64 16,.int .i64 16,.slice (bs (mnb y y')) 256 false,.slice (bs (mnb u u')) 64 false,.slice (bs (mnb v v')) 64 false],.int .i64 0]) ?_;exact .base (.id (zC _ _ _ _ _ _ _ _ _ _))
theorem ztC(m:Mb):qG 6 (qR 18 (mbc m))=fs (cdl m):=rfl
theorem znG(m:Mb):(mbc m)[4]? =some (.bool m.fd):=rfl
theorem znF(m:Mb)(n:Nat):qG 64 (qR (24+n * 64) (mbc m))=is (lvl m.lv n):=by rw[show 24+n * 64=n * 64+24 from om];show qG 64 (qR (n * 64) (is m.lv))=_;rw[zek,zdr];rfl
theorem zbs(m:Mb)(hl:m.lv.length=384):(mbc m).length=408:=by simp[mbc,is,hl]
theorem znI(lv:List Int)(n:Nat)(hl:lv.length=384)(hn:n<6):(lvl lv n).length=64:=by simp[lvl,hl];omega
def lrm(lv:List Int):Prop:=∀ i,-4095<=ze lv i/\ze lv i<=4095
theorem zru{lv:List Int}(h:lrm lv)(n:Nat):lrg (lvl lv n):=λi=>by
 unfold lvl ze;rw[qF,List.getElem?_take];split
 .rw[List.getElem?_drop];have:=h (n * 64+i);simp_all[ze,qF]
 .simp
theorem zjR{lv:List Int}(hl:lv.length=384)(h:lvr lv=true):lrm lv:=λi=>by
 by_cases hi:i<384
 .have:=List.all_eq_true.1 h i (List.mem_range.2 hi);simp[win]at this;omega
 simp_all[ze,qF,qS]
theorem znO(l:List Int)(al:Bool):(frs l al).length=64:=zeo _ _ _
theorem zrO{l:List Int}(h:lrg l)(al:Bool):lrg (frs l al):=λi=>zhZ (B:=4095) om (znP om (λi=>by have:=h i;omega) 64) i
theorem zgZ(l:List Int)(m:List UInt8)(q:Int):(dqz l m q).length=64:=zaW _ _
theorem znK(y:List Int):(inv y).length=64:=zaW _ _
def adk(d b:List Int)(k:Nat):List Int:=rgI 64 λj=>if j<k then ze d j+ze b j else ze b j
theorem zob(d b:List Int)(k:Nat):(adk d b k).length=64:=zaW _ _
theorem zu2{d b:List Int}(h:b.length=64):adk d b 0=b:=by grind[adk,rgI,ze,zbN,zvI]
theorem zsD(d b:List Int){k:Nat}(h:k<64):ze (adk d b k) k=ze b k:=by rw[adk,zbF _ h,if_neg om]
theorem zoa(d b:List Int)(k:Nat):(adk d b k).set k (ze b k+ze d k)=adk d b (k+1):=by rw[adk,zgM];refine zbN λj hj=> ?_;grind
theorem zoc(d b:List Int):adk d b 64=rgI 64 λk=>ze d k+ze b k:=zbN λj hj=>if_pos hj
theorem zsr(p:List UInt8)(n:Nat)(fd:Bool)(k:Nat):0<=ze (blk p n fd) k/\ze (blk p n fd) k<=255:=by
 by_cases h:k<64
 .simp_all[blk,zbF,zK]
 simp_all[blk,zaW,ze,qF,qS]
theorem zsE(f:Fm)(hf:F16 f)(m:Mb)(i:Nat)(mat:List UInt8)(q:Int)(al:Bool)(H:za)(hi:H[i]? =some (mB m))(hml:m.lv.length=384)(hlr:lrm m.lv)(hm:mat.length=64)(hmx:zaU mat=true)(hq:qnB q=true):
  CallOk qA 86 [.agg (fmc f),.ptr i 0 0,.agg (bs mat),.int .i64 q,.bool al] H (.tup [.agg (fmc (addN m al mat q f 6)),.int .i64 0]) H:=by
 have hil:=(qK.1 hi).1;have hx:=λK=>zay (K:=K) hi;have e1:=ztC m;have e2:=znG m;have e3:=λn=>znF m n;have e4:=zbs m hml;have hcl:(cdl m).length=6:=rfl;have hcl2:(fs (cdl m)).length=6:=rfl;have hg:=λn (hn:n<6)=>zmM (cdl m) n hn;have hcm:(bs mat).all PV.cell=true:=by simp[bs,PV.cell]
 have tkm:qG 64 (bs mat)=bs mat:=qD (by rw[zd];omega);have lm:(bs mat).length=64:=by rw[zd,hm]
 refine .go Tryz.func86 Tryz.ntmps86 Tryz.results86 ?_;have f5:(fmc f).all PV.cell=true:=rfl;refine .g (nq2 hcm f5) ?_;refine .f (λK k=>by simp(disch:=omega) only[go_sem,hi,hx,mB,e1,e4];exact k) ?_;refine .l ?_;suffices h1:∀ n:Nat,n<=6->PL qA _ _ [(1,.ptr i 0 0),(3,.int .i64 q),(4,.bool al),(5,.ptr H.length 0 0),(7,.ptr (H.length+1) 0 0),(10,.ptr (H.length+2) 0 0),(22,.agg (fs (cdl m))),(23,.int .i64 (n:Int))] (H++[⟨30,0,fmc (addN m al mat q f n)⟩,⟨24,0,bs mat⟩,⟨30,0,[.int .i64 0,.int .i64 0,.slice [] 0 true,.slice [] 0 true,.slice [] 0 true]⟩]) _ by exact .at [1,3,4,5,7,10,22,23] (h1 0 om) rfl rfl
 refine cnt 6 (λn hn ih=> ?_) ?_
 .have ct:=zc4 hn;refine .round ?_;refine .e ?_;refine .t ?_;refine .skip ?_;refine .b ?_;refine .g (nq2 hg hcl2) ?_;refine .e ?_;refine .c (λh=> ?_) (λh=> ?_)
  .have hc:zN (cdl m) n=false:=by simpa using h
   rw[addN,hc,if_neg sp]at ih;refine .exit ?_;refine .e ?_;exact .at [1,3,4,5,7,10,22,23] ih rfl rfl
  have hc:zN (cdl m) n=true:=by simpa using h
  rw[addN,hc,if_pos rfl]at ih;have g16:=hf.addN m al mat q n om;obtain⟨g,hgg⟩:∃ g,addN m al mat q f n=g:=⟨_,rfl⟩;rw[hgg]at g16 ih |-;have g7:(fmc g).length=5:=rfl;have g8:qG 5 (fmc g)=fmc g:=rfl;have ll:=znI m.lv n hml hn;have lr:=zru hlr n;have c1:=λK=>zlr (lvl m.lv n) al ll K;have c2:=λK=>zmQ (frs (lvl m.lv n) al) mat q (znO _ _) (zrO lr al) hm hmx hq K;have hr:rsd m.lv al mat q n=inv (dqz (frs (lvl m.lv n) al) mat q):=rfl;have c3:=λK=>zmJ (dqz (frs (lvl m.lv n) al) mat q) (zgZ _ _ _) K;rw[<-hr]at c3;have il:(rsd m.lv al mat q n).length=64:=znK _;have ib:=λk=>zrE (dqz (frs (lvl m.lv n) al) mat q) k;rw[<-hr]at ib;have dl:=zgZ (frs (lvl m.lv n) al) mat q;have dcel:=zt (dqz (frs (lvl m.lv n) al) mat q);generalize dqz (frs (lvl m.lv n) al) mat q=D at c2 c3 dl dcel;have tkD:qG 64 (is D)=is D:=qD (by rw[zj];omega);generalize frs (lvl m.lv n) al=S at c1 c2;generalize rsd m.lv al mat q n=I at c3 il ib ih;clear hr;have c4:=λK=>zsp g g16 n hn m.fd K;have bb:=λk=>zsr (cmp g n) n m.fd k;have bl:(blk (cmp g n) n m.fd).length=64:=zaW _ _;have bcel:=zt (blk (cmp g n) n m.fd);refine .skip ?_;refine .view (Vs.place 106) ?_;(repeat refine .seq ?_);refine .drawi [H.length+3] [(14,[0])] [(14,0)] [37,40] mix kr (by simp<;>omega) λK hK=> ?_;simp(disch:=omega) only[go_sem,zD,hi,hx,mB,e3,e4];refine VCj.read (λ_ _=>c1 _) rfl ?_;simp(disch:=omega) only[go_sem,zD,hi,hx,mB,e3,e4,lm,tkm];refine VCj.read (λ_ _=>c2 _) rfl ?_;simp(disch:=omega) only[go_sem,zj,dl,dcel];refine hK _ _ ?_;clear hK K;refine .e ?_;refine .us ?_;refine .view (Vs.place 106) ?_;(repeat refine .seq ?_);refine .drawi [H.length+4] [(16,[0])] [(16,0)] [54] mix kr (by simp<;>omega) λK hK=> ?_;simp(disch:=omega) only[go_sem,zD,hi,hx,mB,e2,e4,g7,g8];refine VCj.read (λ_ _=>c4 _) rfl ?_;simp(disch:=omega) only[go_sem,zj,bl,bcel];refine hK _ _ ?_;clear hK K;refine .e ?_;refine .us ?_;refine .f (λK k=>by simp(disch:=omega) only[go_sem,zj,dl,tkD];refine VCx.call (c3 _) rfl ?_;simp(disch:=omega) only[go_sem,zj,dl,tkD];exact k) ?_;refine .l ?_;suffices h2:∀ k:Nat,k<=64->PL qA _ _ [(1,.ptr i 0 0),(3,.int .i64 q),(4,.bool al),(5,.ptr H.length 0 0),(7,.ptr (H.length+1) 0 0),(10,.ptr (H.length+2) 0 0),(12,.int .i64 (n:Int)),(16,.ptr (H.length+4) 1 0),(22,.agg (fs (cdl m))),(23,.int .i64 (n:Int)),(62,.agg (is I)),(63,.int .i64 (k:Int))] (H++[⟨30,0,fmc g⟩,⟨24,0,bs mat⟩,⟨30,0,[.int .i64 0,.int .i64 0,.slice [] 0 true,.slice [] 0 true,.slice [] 0 true]⟩,⟨106,1,is D⟩,⟨106,1,is (adk I (blk (cmp g n) n m.fd) k)⟩]) _ by exact .at [1,3,4,5,7,10,12,16,22,23,62,63] (h2 0 om) rfl (by rw[zu2 bl])
  refine cnt 64 (λk hk ih2=> ?_) ?_
  .refine .round ?_;refine .e ?_;refine .t ?_;have b1:=bb k;have b2:=ib k;have a1:=zsD I (blk (cmp g n) n m.fd) hk;have a2:=zoa I (blk (cmp g n) n m.fd) k;have a3:=zob I (blk (cmp g n) n m.fd) k;have a4:∀ v,((is (adk I (blk (cmp g n) n m.fd) k)).set k v).length=64:=λv=>by simp[zj,a3]
   refine .skip ?_;refine .b ?_;refine .f (λK k=>by simp(disch:=omega) only[go_sem,zQ,zj,il];exact k) ?_;refine .f (λK k=>by simp(disch:=omega) only[go_sem,zQ,zj,a3,a1,zaG,a2,a4];exact k) ?_;refine .e ?_;exact .at [1,3,4,5,7,10,12,16,22,23,62,63] ih2 rfl rfl
  refine .round ?_;refine .e ?_;refine .u ?_;refine .exit ?_;rw[zoc];have xl:(rgI 64 λk=>ze I k+ze (blk (cmp g n) n m.fd) k).length=64:=zaW _ _;have c5:=λK=>zkO g g16 n hn m.fd (rgI 64 λk=>ze I k+ze (blk (cmp g n) n m.fd) k) xl K;have e5:zgu g n (zdh (cmp g n) n m.fd (rgI 64 λk=>ze I k+ze (blk (cmp g n) n m.fd) k))=addB g n m.fd I:=rfl;rw[e5]at c5;generalize (rgI 64 λk=>ze I k+ze (blk (cmp g n) n m.fd) k)=X at xl c5;have xt:qG 64 (is X)=is X:=qD (by rw[zj];omega);generalize addB g n m.fd I=g' at c5 ih;have g5:(fmc g').all PV.cell=true:=rfl;have g6:(fmc g').length=5:=rfl;have g9:qR 5 (fmc g)=[]:=rfl;(repeat refine .seq ?_);refine .drawi [H.length] [(5,[0])] [] [82] mix kr (by simp<;>omega) λK hK=> ?_;simp(disch:=omega) only[go_sem,zD,hi,hx,mB,e2,e4,zj,xl,xt,g7,g8];refine VCj.read (λ_ _=>c5 _) rfl ?_;refine sqx (nq2 g5 (nq2 g6 (nq2 g7 (nq2 g8 g9)))) ?_;refine hK _ _ ?_;clear hK K;refine .e ?_;refine .us ?_;refine .e ?_;refine .view (Vs.trim (F1:=[(1,.ptr i 0 0),(3,.int .i64 q),(4,.bool al),(5,.ptr H.length 0 0),(7,.ptr (H.length+1) 0 0),(10,.ptr (H.length+2) 0 0),(22,.agg (fs (cdl m))),(23,.int .i64 ((n+1:Nat):Int))]) (H1:=H++[⟨30,0,fmc g'⟩,⟨24,0,bs mat⟩,⟨30,0,[.int .i64 0,.int .i64 0,.slice [] 0 true,.slice [] 0 true,.slice [] 0 true]⟩]) (zh0 ?_) sp (qO _ [_,_,_] [_,_]).symm ?_) ih
  .intro b hb z hz;simp only[qP,qM,or_false]at hb;rcases hb with rfl|rfl|rfl
   .exact zas _ _ _ _ _ _ _ _ _ _ _ _ z hz
   .exact zh _ _ z hz
   .exact zas _ 0 0 [] [] [] _ _ _ _ _ _ z hz
  .rw[hl3];exact⟨.id (.ptr om),.id (.int _ _),.id (.bool _),.id (.ptr om),.id (.ptr om),.id (.ptr om),.id (zq (ziQ _ _)),.id (.int _ _),trivial⟩
 refine .round ?_;refine .e ?_;refine .u ?_;refine .exit ?_;obtain⟨g,hgg⟩:∃ g,addN m al mat q f 6=g:=⟨_,rfl⟩;rw[hgg];have g5:(fmc g).all PV.cell=true:=rfl;have g7:(fmc g).length=5:=rfl;have g8:qG 5 (fmc g)=fmc g:=rfl;have g9:qR 5 [PV.int .i64 0,PV.int .i64 0,PV.slice [] 0 true,PV.slice [] 0 true,PV.slice [] 0 true]=[]:=rfl;refine .g (nq2 g5 (nq2 g7 (nq2 g8 g9))) ?_;refine .w (.tup [.agg (fmc g),.int .i64 0]) (nq2 g7 g8) ?_;exact .base (.id (zC _ _ _ _ _ _ _ _ _ _))
theorem rows_in{W R X Y w h L:Nat}(hp:L=W * R)(hx:X+w<=W)(hy:Y+h<=R):∀ k,k<h->Y * W+X+k * W+w<=L:=λk hk=>by have h1:(Y+k+1) * W<=R * W:=qL _ om;rw[qU,qU,qY]at h1;rw[hp,jH W R];omega
theorem zfo{f:Fm}(h:fvd f=true):∃ A B:Nat,1<=A/\A<=4/\1<=B/\B<=4/\f.w=((16 * A:Nat):Int)/\f.h=((16 * B:Nat):Int)/\f.y.length=16 * A * (16 * B)/\f.u.length=8 * A * (8 * B)/\f.v.length=8 * A * (8 * B):=by
 obtain⟨w,ht,y,u,v⟩:=f;simp only[fvd,fmd,qE,decide_eq_true_eq]at h;obtain⟨⟨hs,hy,hu,hv⟩,hw,hh⟩:=h;obtain⟨g1,g2,g3,g4,g5,g6⟩:=zbc hs;obtain⟨A,hA⟩:∃ A:Nat,(w / 16).toNat=A:=⟨_,rfl⟩;obtain⟨B,hB⟩:∃ B:Nat,(ht / 16).toNat=B:=⟨_,rfl⟩;have e1:w=((16 * A:Nat):Int):=om;have e2:ht=((16 * B:Nat):Int):=om;have e3:w / 2=((8 * A:Nat):Int):=om;have e4:ht / 2=((8 * B:Nat):Int):=om;rw[e3,e4]at hu hv;rw[e1,e2]at hy;refine⟨A,B,om,om,om,om,e1,e2,?_,?_,?_⟩
 .exact jE.1 (hy.trans (qN _ _).symm)
 .exact jE.1 (hu.trans (qN _ _).symm)
 .exact jE.1 (hv.trans (qN _ _).symm)
theorem zgf{m:Mb}{al:Bool}{mat:List UInt8}{q:Int}{f:Fm}(h:∀ n,zN (cdl m) n=false):∀ n,addN m al mat q f n=f
 | 0=>rfl
 | n+1=>by rw[addN,h n,if_neg sp,zgf h n]
theorem zop(c:Cx):∀ n,zN (cdl (stl c)) n=false:=λn=>by
 have:n=0\/n=1\/n=2\/n=3\/n=4\/n=5\/6<=n:=om;rcases this with rfl|rfl|rfl|rfl|rfl|rfl|h;all_goals first|rfl|(simp[zN,cdl,stl,qF,qS];done)|skip
 simp only[zN,cdl,stl,qF];rw[qS (by simp;omega)];rfl
theorem F16.fmd{f:Fm}(h:F16 f):fmd f=true:=by have:=h.fvd;unfold Sc.fvd at this;rw[qE]at this;exact this.1
theorem zgO{c:Cx}{si sq:List UInt8}{al:Bool}{q:Int}{m:Mb}{pa fu fi:Fm}{mx my:Int}(h:(zdk c si sq al q m pa fu fi mx my).2=0):F16 (zdk c si sq al q m pa fu fi mx my).1:=by
 unfold zdk at h |-;split at h
 .rename_i hok;rw[if_pos hok];by_cases h1:m.k=1
  .rw[if_pos h1];exact F16.gry.addN _ _ _ _ 6 om
  .rw[if_neg h1]at h |-;generalize (if m.k=0 then stl c else m)=m' at h |-;split at h
   .rename_i h2;exact absurd h h2
   .rename_i h2;rw[if_neg h2];exact(zqD (Decidable.not_not.1 h2)).addN _ _ _ _ 6 om
 .simp at h
structure Gok(A B:Nat)(f:Fm):Prop where
 w:f.w=((16 * A:Nat):Int)
 h:f.h=((16 * B:Nat):Int)
 ra:1<=A/\A<=4
 rb:1<=B/\B<=4
 ly:f.y.length=16 * A * (16 * B)
 lu:f.u.length=8 * A * (8 * B)
 lv:f.v.length=8 * A * (8 * B)
theorem Gok.of{f:Fm}(h:fvd f=true):∃ A B:Nat,Gok A B f:=by obtain⟨A,B,a1,a2,b1,b2,ew,eh,ly,lu,lv⟩:=zfo h;exact⟨A,B,ew,eh,⟨a1,a2⟩,⟨b1,b2⟩,ly,lu,lv⟩
theorem Gok.fvd{A B:Nat}{f:Fm}(h:Gok A B f):Sc.fvd f=true:=by
 obtain⟨w,ht,y,u,v⟩:=f;obtain⟨hw,hh,ra,rb,ly,lu,lv⟩:=h;simp only at hw hh ly lu lv;subst hw hh;have e1:((16 * A:Nat):Int) / 2=((8 * A:Nat):Int):=om;have e2:((16 * B:Nat):Int) / 2=((8 * B:Nat):Int):=om;have a1:fsz ((16 * A:Nat):Int) ((16 * B:Nat):Int)=true:=by simp_all[fsz,qE];omega
 have a2:((16 * A * (16 * B):Nat):Int)=((16 * A:Nat):Int) * ((16 * B:Nat):Int):=qN _ _;have a3:((8 * A * (8 * B):Nat):Int)=((8 * A:Nat):Int) * ((8 * B:Nat):Int):=qN _ _;unfold Sc.fvd Sc.fmd;simp_all
theorem Gok.has{A B:Nat}{f:Fm}(h:Gok A B f){X Y:Nat}(hX:X<A)(hY:Y<B):zbL f (X:Int) (Y:Int)=true:=by unfold zbL;rw[h.fvd,Bool.true_and,h.w,h.h];simp_all
def smF(A X Y:Nat)(f m:Fm):Fm:=⟨f.w,f.h,pst f.y (16 * Y * (16 * A)+16 * X) (16 * A) 16 m.y 16,pst f.u (8 * Y * (8 * A)+8 * X) (8 * A) 8 m.u 8,pst f.v (8 * Y * (8 * A)+8 * X) (8 * A) 8 m.v 8⟩
theorem zjn{A B:Nat}{f m:Fm}(hf:Gok A B f)(hm:F16 m){X Y:Nat}(hX:X<A)(hY:Y<B):(smF A X Y f m).y.length=f.y.length/\(smF A X Y f m).u.length=f.u.length/\(smF A X Y f m).v.length=f.v.length:=⟨zY (m:=16) (by rw[hm.ly]) 16 (qH _) (rows_in hf.ly om om),zY (m:=8) (by rw[hm.lu]) 8 (qH _) (rows_in hf.lu om om),zY (m:=8) (by rw[hm.lv]) 8 (qH _) (rows_in hf.lv om om)⟩
theorem zl2{A B:Nat}{f m:Fm}(hf:Gok A B f)(hm:F16 m){X Y:Nat}(hX:X<A)(hY:Y<B):Gok A B (smF A X Y f m):=by obtain⟨l1,l2,l3⟩:=zjn hf hm hX hY;exact⟨hf.w,hf.h,hf.ra,hf.rb,l1.trans hf.ly,l2.trans hf.lu,l3.trans hf.lv⟩
theorem zf0(p z:List UInt8)(r v a s w n:Nat)(g f:Bool)(H:za)(hr:H[r]? =some ⟨5,v,bs p⟩)(hw:w<=64)(hn:n<=64)(hp:p.length<=8192)(hz:z.length=n * w)(hfit:∀ k,k<n->a+k * s+w<=p.length)(hs:s<=200/\a<=8192):
  CallOk qA 42 [.msl r v 0 p.length 1 g,.agg [.int .i64 (a:Int),.int .i64 (s:Int),.int .i64 (w:Int),.int .i64 (n:Int)],.slice (bs z) z.length f] H (.tup []) (H.set r ⟨5,v,bs (pst p a s w z n)⟩):=by
 have hrl:=(qK.1 hr).1;have hne:H.length≠r:=om;have hne':r≠H.length:=om;have o1:=λB K=>zq6 hrl B K;have o2:=λB X K=>zq3 H r B X K;have o3:=λB C K=>zq4 hrl B C K;have o4:=λB=>zcJ H r B;have hbig:n * w<=4096:=qB hn hw;refine .go Tryz.func42 Tryz.ntmps42 Tryz.results42 ?_;refine .eq rfl (zfd hr).symm ?_;refine .g o4 ?_;refine .g (nq2 o1 (nq2 o2 o3)) ?_;refine .l ?_;suffices hloop:∀ k:Nat,k<=n->PL qA _ _ [(0,.msl r v 0 p.length 1 g),(2,.slice (bs z) z.length f),(4,.ptr H.length 0 0),(8,.int .i64 (n:Int)),(9,.int .i64 (k:Int))] (one H r ⟨5,v,bs (pst p a s w z k)⟩++[⟨119,0,[.int .i64 (a:Int),.int .i64 (s:Int),.int .i64 (w:Int),.int .i64 (n:Int)]⟩]) _ by exact .at [0,2,4,8,9] (hloop 0 (Nat.zero_le _)) rfl rfl
 refine cnt n (λk hk ih=> ?_) ?_
 .have hpl:=zY (p:=p) (a:=a) (s:=s) hz k om λj hj=>hfit j om;have h6:=hfit k hk;have ct:=zc4 hk;have eR:(k:Int) * (w:Int)=((k * w:Nat):Int):=by simp
  have b1:(k+1) * w=k * w+w:=by grind
  have eR1:((k:Int)+1) * (w:Int)=((k * w+w:Nat):Int):=by grind
  have eS:(k:Int) * (s:Int)=((k * s:Nat):Int):=by simp
  have eA:(a:Int)+((k * s:Nat):Int)=((a+k * s:Nat):Int):=by simp
  have b2:(k+1) * w<=n * w:=qL _ om;have e3:k * w+w - k * w=w:=om;have rl:=za4 hz hk;have hmin:min (p.length - (a+k * s)) w=w:=om;have htk:qG w (qG w (qR (k * w) z))=qG w (qR (k * w) z):=qD om;rw[pst]at ih;refine .round ?_;refine .g ct ?_;refine .t ?_;refine .skip ?_;refine .b ?_;refine .e ?_;rw[b1]at b2;(repeat refine .seq ?_);refine .drawt [] [] mix kr λK hK=> ?_;simp(disch:=omega) only[go_sem,zD,o1,o2,o3,eR,eR1,eS,eA,e3,zd,hpl,zbV,zbm,hmin,rl,htk];refine hK _ _ ?_;clear hK K;refine .e ?_;refine .at [0,2,4,8,9] ih rfl ?_;rw[<-zhs,show min w (p.length - (a+k * s))=w from om,htk];simp[zW,zbm,zbV,zR,zd,rl]
 refine .round ?_;refine .f (λK k=>by simp(disch:=omega) only[go_sem,zdK n];exact k) ?_;refine .u ?_;refine .exit ?_;refine Exists.intro _ (And.intro rfl ?_);exact .cut (A:=one H r ⟨5,v,bs (pst p a s w z n)⟩) rfl (zcJ _ _ _).symm (λhh=>HSc.set hh λx hx=>zh _ _ x hx) (.id (.tup (asc λx hx=>by cases hx)))
theorem zoU(A X Y:Nat)(hA:A<=4)(hX:X<=4)(hY:Y<=4)(H:za):CallOk qA 91 [.int .i64 ((16 * A:Nat):Int),.int .i64 (X:Int),.int .i64 (Y:Int)] H (.tup [.agg [.int .i64 ((16 * Y * (16 * A)+16 * X:Nat):Int),.int .i64 ((16 * A:Nat):Int),.int .i64 ((16:Nat):Int),.int .i64 ((16:Nat):Int)],.agg [.int .i64 ((8 * Y * (8 * A)+8 * X:Nat):Int),.int .i64 ((8 * A:Nat):Int),.int .i64 ((8:Nat):Int),.int .i64 ((8:Nat):Int)]]) H:=by
 show CallOk _ _ _ H (.tup [.agg [.int .i64 ((16 * Y * (16 * A)+16 * X:Nat):Int),.int .i64 ((16 * A:Nat):Int),.int .i64 16,.int .i64 16],.agg [.int .i64 ((8 * Y * (8 * A)+8 * X:Nat):Int),.int .i64 ((8 * A:Nat):Int),.int .i64 8,.int .i64 8]]) H;have n1:16 * Y * (16 * A)<=64 * 64:=qB om om;have n2:8 * Y * (8 * A)<=32 * 32:=qB om om;have d1:((16 * A:Nat):Int).tdiv 2=((8 * A:Nat):Int):=by grind
 have m1:(16:Int) * (Y:Int)=((16 * Y:Nat):Int):=om;have m2:(16:Int) * (X:Int)=((16 * X:Nat):Int):=om;have m3:(8:Int) * (Y:Int)=((8 * Y:Nat):Int):=om;have m4:(8:Int) * (X:Int)=((8 * X:Nat):Int):=om;have m5:((16 * Y:Nat):Int) * ((16 * A:Nat):Int)=((16 * Y * (16 * A):Nat):Int):=(qN _ _).symm;have m6:((8 * Y:Nat):Int) * ((8 * A:Nat):Int)=((8 * Y * (8 * A):Nat):Int):=(qN _ _).symm;have m7:((16 * Y * (16 * A):Nat):Int)+((16 * X:Nat):Int)=((16 * Y * (16 * A)+16 * X:Nat):Int):=(Int.natCast_add _ _).symm;have m8:((8 * Y * (8 * A):Nat):Int)+((8 * X:Nat):Int)=((8 * Y * (8 * A)+8 * X:Nat):Int):=(Int.natCast_add _ _).symm;refine .go Tryz.func91 Tryz.ntmps91 Tryz.results91 ?_;refine .e ?_;refine .g (nq2 m1 (nq2 m2 (nq2 m5 m7))) ?_;refine .g (nq2 d1 (nq2 m3 (nq2 m4 (nq2 m6 m8)))) ?_;(repeat refine .seq ?_);refine .drawi [H.length,H.length+1] [(6,[0]),(7,[1])] [] [] mix kr (by simp<;>omega) λK hK=> ?_;refine sqz ?_;refine hK _ _ ?_;clear hK K;refine .v (.tup [.agg [.int .i64 ((16 * Y * (16 * A)+16 * X:Nat):Int),.int .i64 ((16 * A:Nat):Int),.int .i64 16,.int .i64 16],.agg [.int .i64 ((8 * Y * (8 * A)+8 * X:Nat):Int),.int .i64 ((8 * A:Nat):Int),.int .i64 8,.int .i64 8]]) ?_;refine .base (.id (.tup (asc λx hx=> ?_)));grind[zq,zb4]
theorem zqe(A B X Y:Nat)(f m:Fm)(hf:Gok A B f)(hm:F16 m)(hX:X<A)(hY:Y<B)(H:za):
  CallOk qA 40 [.agg (fmc f),.int .i64 (X:Int),.int .i64 (Y:Int),.agg (fmc m)] H (.tup [.agg (fmc (smF A X Y f m)),.int .i64 0]) H:=by
 have ho:=λK=>zmL f (X:Int) (Y:Int) K;rw[hf.has hX hY]at ho;have fo:=λK=>za5 m K;have hmv:=hm.fvd;unfold fvd at hmv;rw[qE]at hmv;rw[hmv.1]at fo;obtain⟨q1,q2,q3⟩:=zjn hf hm hX hY;have mg:=λK=>zoU A X Y hf.ra.2 (by have:=hf.ra;omega) (by have:=hf.rb;omega) K;obtain⟨w,ht,y,u,v⟩:=f;obtain⟨w',ht',y',u',v'⟩:=m;obtain⟨hw,hh,ra,rb,ly,lu,lv⟩:=hf;obtain⟨hw',hh',ly',lu',lv'⟩:=hm;simp only at hw hh ly lu lv hw' hh' ly' lu' lv';subst hw hh hw' hh';have nb1:16 * A * (16 * B)<=64 * 64:=qB om om;have nb2:8 * A * (8 * B)<=32 * 32:=qB om om;have nb3:0<16 * A * (16 * B):=Nat.mul_pos om om;have nb4:0<8 * A * (8 * B):=Nat.mul_pos om om;have n1:16 * Y * (16 * A)<=64 * 64:=qB om om;have n2:8 * Y * (8 * A)<=32 * 32:=qB om om;have p1:=λr K hr=>zf0 y y' r 1 (16 * Y * (16 * A)+16 * X) (16 * A) 16 16 true false K hr om om om om (rows_in ly om om) om;have p2:=λr K hr=>zf0 u u' r 1 (8 * Y * (8 * A)+8 * X) (8 * A) 8 8 true false K hr om om om om (rows_in lu om om) om;have p3:=λr K hr=>zf0 v v' r 1 (8 * Y * (8 * A)+8 * X) (8 * A) 8 8 true false K hr om om om om (rows_in lv om om) om;have fc:=ziS ((16 * A:Nat):Int) ((16 * B:Nat):Int) y u v (H++[⟨30,0,fmc ⟨((16 * A:Nat):Int),((16 * B:Nat):Int),y,u,v⟩⟩,⟨30,0,fmc ⟨16,16,y',u',v'⟩⟩,⟨30,0,[.int .i64 0,.int .i64 0,.slice [] 0 true,.slice [] 0 true,.slice [] 0 true]⟩]) om om om;have hres:fmc (smF A X Y ⟨((16 * A:Nat):Int),((16 * B:Nat):Int),y,u,v⟩ ⟨16,16,y',u',v'⟩)=[.int .i64 ((16 * A:Nat):Int),.int .i64 ((16 * B:Nat):Int),.slice (bs (pst y (16 * Y * (16 * A)+16 * X) (16 * A) 16 y' 16)) y.length false,.slice (bs (pst u (8 * Y * (8 * A)+8 * X) (8 * A) 8 u' 8)) u.length false,.slice (bs (pst v (8 * Y * (8 * A)+8 * X) (8 * A) 8 v' 8)) v.length false]:=by unfold fmc;rw[q1,q2,q3];rfl
 rw[hres];have k1:(pst y (16 * Y * (16 * A)+16 * X) (16 * A) 16 y' 16).length=y.length:=q1;have k2:(pst u (8 * Y * (8 * A)+8 * X) (8 * A) 8 u' 8).length=u.length:=q2;have k3:(pst v (8 * Y * (8 * A)+8 * X) (8 * A) 8 v' 8).length=v.length:=q3;clear hres q1 q2 q3 hmv;generalize pst y (16 * Y * (16 * A)+16 * X) (16 * A) 16 y' 16=PY at p1 k1 |-;generalize pst u (8 * Y * (8 * A)+8 * X) (8 * A) 8 u' 8=PU at p2 k2 |-;generalize pst v (8 * Y * (8 * A)+8 * X) (8 * A) 8 v' 8=PV1 at p3 k3 |-;generalize 16 * Y * (16 * A)+16 * X=a1 at p1 mg;generalize 8 * Y * (8 * A)+8 * X=a2 at p2 p3 mg;simp only[fmc,plc,cpB,hl3,qO,List.cons_append,List.nil_append,qW,jD]at ho fo fc |-;refine .body (F0:=[(0,.agg [.int .i64 ((16 * A:Nat):Int),.int .i64 ((16 * B:Nat):Int),.slice (bs y) y.length false,.slice (bs u) u.length false,.slice (bs v) v.length false]),(1,.int .i64 (X:Int)),(2,.int .i64 (Y:Int)),(3,.agg [.int .i64 16,.int .i64 16,.slice (bs y') y'.length false,.slice (bs u') u'.length false,.slice (bs v') v'.length false])]) Tryz.func40 rfl Tryz.ntmps40 Tryz.results40 rfl kr rfl ?_;refine .e ?_;(repeat refine .seq ?_);refine .rgv (P:=qA) [1,2,4,7,8,9] 32 (.bool false) ?_ ?_ ?_
 .rfl
 .clear p1 p2 p3 fc mg;simp(disch:=omega) only[go_sem];(repeat'(((first|refine VCx.call (ho _) rfl ?_|refine VCx.call (fo _) rfl ?_);simp(disch:=omega) only[go_sem])));all_goals(simp_all[slot,qT])
 refine .us ?_;refine .view (Vs.place 5) ?_;refine .view (Vs.place 5) ?_;refine .view (Vs.place 5) ?_;refine .f (λK k=>by simp(disch:=omega) only[go_sem];refine VCx.call (fc) rfl ?_;simp(disch:=omega) only[go_sem];exact k) ?_;refine .k mg ?_;refine .f (λK k=>by simp(disch:=omega) only[go_sem];refine VCx.call (p1 _ _ (apn _ _ 3)) rfl ?_;simp(disch:=omega) only[go_sem];exact k) ?_;refine .f (λK k=>by simp(disch:=omega) only[go_sem];refine VCx.call (p2 _ _ (apn _ _ 4)) rfl ?_;simp(disch:=omega) only[go_sem];exact k) ?_;refine .f (λK k=>by simp(disch:=omega) only[go_sem];refine VCx.call (p3 _ _ (apn _ _ 5)) rfl ?_;simp(disch:=omega) only[go_sem];exact k) ?_;refine .e ?_;refine .v (.tup [.agg [.int .i64 ((16 * A:Nat):Int),.int .i64 ((16 * B:Nat):Int),.msl (H.length+3) 1 0 y.length 1 true,.msl (H.length+4) 1 0 u.length 1 true,.msl (H.length+5) 1 0 v.length 1 true],.int .i64 0]) ?_;refine .base (Fz.tupC ⟨Fz.aggC ⟨.id (.int _ _),.id (.int _ _),Fz.mslC (e:=5) (xs:=bs PY) om (apn _ _ 3) (by rw[zd];omega) (FzC.refl (zh _ _)),Fz.mslC (e:=5) (xs:=bs PU) om (apn _ _ 4) (by rw[zd];omega) (FzC.refl (zh _ _)),Fz.mslC (e:=5) (xs:=bs PV1) om (apn _ _ 5) (by rw[zd];omega) (FzC.refl (zh _ _)),trivial⟩,.id (.int _ _),trivial⟩)
end Go.Proofs.YtdajpjenhcobkaaGreatDoor.Sc
