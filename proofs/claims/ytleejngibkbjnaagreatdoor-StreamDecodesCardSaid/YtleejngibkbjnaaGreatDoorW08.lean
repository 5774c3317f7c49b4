/-
  Parts of the proof. No condition.
-/
import Derived.Test.YtleejngibkbjnaaGreatDoorW04
open Go.Proofs.YtleejngibkbjnaaGreatDoor.Pm.PV renaming int → O
open Go.IntKind renaming i64 → J
open List renaming replicate → qA, drop → qB, range → qD, getElem?_eq_getElem → qE, getElem?_eq_none → qF
open Go.Proofs.Tryz
set_option linter.all false
set_option maxRecDepth 100000
set_option maxHeartbeats 32000000
namespace Go.Proofs.YtleejngibkbjnaaGreatDoor.Sc
open Pm Ty Go.RowKit
def ctl(p:List UInt8)(a s w:Nat)(r:Nat):List UInt8:=((qD r).map λk=>(p.drop (a+k * s)).take w).flatten
theorem zf5(p:List UInt8)(a s w r:Nat):ctl p a s w (r+1)=ctl p a s w r++(p.drop (a+r * s)).take w:=by simp[ctl,sJ]
theorem zau(p:List UInt8)(a s w:Nat):∀ r,(∀ k,k<r->a+k * s+w<=p.length)->(ctl p a s w r).length=r * w
 | 0,_=>by simp[ctl]
 | r+1,h=>by have:=h r om;rw[zf5,gP,zau p a s w r (λk hk=>h k om),wA,List.length_drop,wD];omega
theorem zgC(p:List UInt8)(w c n:Nat)(f:Bool)(H:za)(hw:1<=w/\w<=64)(hc:c<=1)(hn:n<=64)(hp:p.length=n * (2 * w)):
  CallOk prog 175 [.slice (bs p) p.length f,O J (w:Int),O J (c:Int)] H (.slice (bs (ctl p (c * w) (2 * w) w n)) (n * w) false) H:=by
 have hcw:c * w<=w:=by have:c=0\/c=1:=om;rcases this with rfl|rfl<;>simp
 have hfit:∀ k,k<n->c * w+k * (2 * w)+w<=p.length:=λk hk=>by have h1:(k+1) * (2 * w)<=n * (2 * w):=gT _ om;rw[wD]at h1;omega
 have hbig:n * (2 * w)<=8192:=by have h1:n * (2 * w)<=64 * (2 * w):=gT _ hn;omega
 have e0:(c:Int) * (w:Int)=((c * w:Nat):Int):=by simp
 have e2:(2:Int) * (w:Int)=((2 * w:Nat):Int):=by simp
 refine .go func175 ntmps175 results175 ?_;refine .e (.e ?_);refine .g e0 ?_;(repeat refine .seq ?_);refine .view (Vs.ghost 7 5 1 rfl) ?_;refine .block (PW.loop ?_);suffices hloop:∀(r at':Nat),r<=n->at'=c * w+r * (2 * w)->PL prog _ _ [(0,.slice (bs p) p.length f),(1,O J (w:Int)),(7,.msl H.length (r * w) 0 (r * w) 1 true),(8,O J (at':Int))] (H++[⟨5,r * w,bs (ctl p (c * w) (2 * w) w r)⟩]) _ by exact .a (hloop 0 (c * w) (vU _) sp) (by simp[kp,slot,Nat.beq]) (by simp[ctl,bs])
 intro r at' hr hat;induction hm:n - r using Nat.strongRecOn generalizing r at' with
 | _ m ih=>
  have hcl:=zau p (c * w) (2 * w) w r (λk hk=>hfit k om);refine .round (.e ?_);refine .c (λh=> ?_) (λh=> ?_)
  .have h4:at'<p.length:=ot h;have h5:r<n:=by
    rcases dN r n with h6|h6
    .exact h6
    .have:r=n:=om;subst this;omega
   have h6:=hfit r h5;have hnext:=ih (n - (r+1)) om (r+1) (at'+2 * w) om (by have:=vE r 1 (2 * w);omega) rfl;rw[zf5,zS]at hnext;have e1:(at':Int)+(w:Int)=((at'+w:Nat):Int):=om;have e3:at'+w - at'=w:=om;have hrl:r * w<=8192:=by have:r * w<=n * (2 * w):=uT om om;omega
   have htl:((p.drop at').take w).length=w:=by simp;omega
   refine .skip (.b ?_);refine .f (λK k=>by simp(disch:=omega) only[go_sem,e1,e3,zd,hcl,zbY,zbi,htl];exact k) ?_;refine .g e2 ?_;have hc1:(bs (ctl p (c * w) (2 * w) w r)++bs ((p.drop at').take w)).length=(r+1) * w:=by rw[gP,zd,zd,hcl,htl,vE];omega
   have hlen:r * w+w=(r+1) * w:=by rw[vE];omega
   rw[<-hat]at hnext;refine .a hnext ?_ ?_
   .refine sqz ?_;rw[hc1,hlen];rfl
   .rw[hc1]
  .have h4:¬ at'<p.length:=ofF h;have h5:r=n:=by
    rcases dN r n with h6|h6
    .have:=hfit r h6;omega
    .omega
   subst h5;refine .exit (.e ?_);refine .ret ⟨_,rfl,?_⟩;exact .base (Fz.mslC (e:=5) (xs:=bs (ctl p (c * w) (2 * w) w r)) (gV _) sp (by rw[zd,hcl];omega) (FzC.refl (zh _ _)))
theorem zbh(n:Nat):zcc n [PV.int .u8 0]=bs (qA n 0):=by
 rw[zy4];induction n with
 | zero=>rfl
 | succ n ih=>rw[wT,<-ih];simp[zcc,wT]
theorem zk4(p:List UInt8)(a s w n:Nat)(f:Bool)(H:za)(hw:w<=64)(hn:n<=64)(hp:p.length<=8192)(hfit:∀ k,k<n->a+k * s+w<=p.length)(hs:s<=200/\a<=200):
  CallOk prog 142 [.slice (bs p) p.length f,.agg [O J (a:Int),O J (s:Int),O J (w:Int),O J (n:Int)]] H (.slice (bs (ctl p a s w n)) (n * w) false) H:=by
 have e0:(w:Int) * (n:Int)=((n * w:Nat):Int):=by rw[dC];simp
 have hbig:n * w<=4096:=uT hn hw;refine .go func142 ntmps142 results142 ?_;refine .e (.g e0 ?_);refine .e (.l ?_);suffices hloop:∀(r:Nat),r<=n->PL prog _ _ [(0,.slice (bs p) p.length f),(3,.ptr H.length 0 0),(5,.msl (H.length+1) 0 0 (n * w) 1 true),(14,O J (n:Int)),(15,O J (r:Int))] (H++[⟨152,0,[O J (a:Int),O J (s:Int),O J (w:Int),O J (n:Int)]⟩,⟨5,0,bs (ctl p a s w r++qA ((n - r) * w) 0)⟩]) _ by exact .a (hloop 0 (vU _)) rfl (by rw[show ctl p a s w 0=[]from rfl,vC,dM,<-zbh];rfl)
 intro r hr;induction hm:n - r using Nat.strongRecOn generalizing r with
 | _ m ih=>
  have hcl:=zau p a s w r (λk hk=>hfit k om);refine .round (.e ?_);refine .c (λh=> ?_) (λh=> ?_)
  .have h4:r<n:=ot h;have hnext:=ih (n - (r+1)) om (r+1) om rfl;have h6:=hfit r h4;have eR:(r:Int) * (w:Int)=((r * w:Nat):Int):=by simp
   have eR1:((r:Int)+1) * (w:Int)=(((r+1) * w:Nat):Int):=by simp
   have eS:(r:Int) * (s:Int)=((r * s:Nat):Int):=by simp
   have eA:(a:Int)+((r * s:Nat):Int)=((a+r * s:Nat):Int):=by simp
   have b2:(r+1) * w<=n * w:=gT _ om;have b1:(r+1) * w=r * w+w:=by rw[vE];omega
   have e3:r * w+w - r * w=w:=om;have hbl:(ctl p a s w r++qA (m * w) 0).length=n * w:=by rw[gP,hcl,uQ,<-vE,show r+m=n from om]
   have htk:List.take (p.length - (a+r * s)) (qB (a+r * s) p)=qB (a+r * s) p:=gH sp;have hdl:(qB (a+r * s) p).length=p.length - (a+r * s):=List.length_drop;have hmin:min (p.length - (a+r * s)) w=w:=om;have hzl:(List.take w (qB (a+r * s) p)).length=w:=by simp;omega
   have htk1:List.take (r * w) (ctl p a s w r++qA (m * w) 0)=ctl p a s w r:=by rw[<-hcl];exact List.take_left
   have htk2:qB (r * w+w) (ctl p a s w r++qA (m * w) 0)=qA ((n - (r+1)) * w) 0:=by
    rw[<-hcl,rL,hcl,uB om,vC,rS];congr 1;have:m * w=(n - (r+1)) * w+w:=by rw[<-wD];congr 1;omega
    omega
   refine .skip (.b ?_);refine .e ?_;rw[b1]at eR1 b2;refine .dn λK hK=> ?_;simp(disch:=omega) only[go_sem,eR,eR1,eS,eA,e3,zd,hbl,zbY,zbi,htk,hdl,hmin,hzl,htk1,htk2];refine hK _ _ ?_;refine .e ?_;rw[zf5,gU,zS,zS]at hnext;exact .a hnext
  .have h4:r=n:=ofF h;subst h4;refine .exit (.e ?_);refine .ret ⟨_,rfl,?_⟩;rw[show r - r=0 from vK r]at hm;subst hm;rw[vV,List.replicate_zero,gQ];exact .base (Fz.mslC (e:=5) (xs:=bs (ctl p a s w r)) om (hp1 _ _ _ _) (by rw[zd,hcl];omega) (FzC.refl (zh _ _)))
def rgI(n:Nat)(f:Nat->Int):List Int:=(qD n).map f
theorem zaP(n:Nat)(f:Nat->Int):(rgI n f).length=n:=by simp[rgI]
theorem zdA{n:Nat}(f:Nat->Int){i:Nat}(h:i<n):ze (rgI n f) i=f i:=by simp[rgI,ze,h]
theorem zbU{n:Nat}{f g:Nat->Int}(h:∀ i,i<n->f i=g i):rgI n f=rgI n g:=wU λi hi=>h i (wO.1 hi)
theorem zhk(n:Nat)(f:Nat->Int)(i:Nat)(v:Int):(rgI n f).set i v=rgI n λj=>if j=i then v else f j:=by
 apply dD
 .simp[rgI]
 intro j h1 h2;simp only[rgI,List.getElem_set,List.getElem_map,List.getElem_range];by_cases hj:i=j
 .rw[gD hj,gD hj.symm]
 .rw[gC hj,gC (λe=>hj e.symm)]
theorem zx8(l:List Int):rgI l.length (ze l)=l:=by
 apply dD
 .simp[rgI]
 intro j h1 h2;simp[rgI,ze,h2]
def u8(v:Int):UInt8:=UInt8.ofNat v.toNat
theorem zd5{v:Int}(h:0<=v/\v<=255):((u8 v).toNat:Int)=v:=by unfold u8;rw[UInt8.toNat_ofNat'];omega
def rgB(n:Nat)(f:Nat->Int):List UInt8:=(qD n).map λk=>u8 (f k)
theorem zcT(n:Nat)(f:Nat->Int):(rgB n f).length=n:=by simp[rgB]
theorem zl0(n:Nat)(f:Nat->Int):rgB (n+1) f=rgB n f++[u8 (f n)]:=by simp[rgB,sJ]
theorem zx9{n:Nat}(f:Nat->Int){i:Nat}(h:i<n)(hf:0<=f i/\f i<=255):byt (rgB n f) i=f i:=by simp only[byt,rgB];rw[uH,vD,dJ h];exact zd5 hf
theorem zvf{n:Nat}{f g:Nat->Int}(h:∀ i,i<n->f i=g i):rgB n f=rgB n g:=wU λi hi=>by rw[h i (wO.1 hi)]
theorem zdQ{p q:List UInt8}(hl:p.length=q.length)(h:∀ i,i<p.length->byt p i=byt q i):p=q:=by apply dD hl;intro i h1 h2;have:=h i h1;simp only[byt,uH,gG h1,gG h2,rK]at this;exact UInt8.toNat_inj.1 om
theorem zpH(p:List UInt8)(i j:Nat)(v:UInt8)(h:i<p.length):byt (p.set i v) j=if j=i then(v.toNat:Int)else byt p j:=by
 simp only[byt,uH,vG];by_cases hj:j=i
 .subst hj;simp[h]
 .rw[gC (λe=>hj e.symm),gC hj]
theorem zdo{p q:List UInt8}{i:Nat}(h:i<p.length):byt (p++q) i=byt p i:=by simp only[byt,uH,gK h]
theorem ze1{p q:List UInt8}{i:Nat}(h:p.length<=i):byt (p++q) i=byt q (i - p.length):=by simp only[byt,uH,gN h]
theorem zbG{p:List UInt8}{i n:Nat}(h:i<n):byt (p.take n) i=byt p i:=by simp only[byt,uH,vZ,gD h]
theorem zcJ(p:List UInt8)(i n:Nat):byt (p.drop n) i=byt p (n+i):=by simp only[byt,uH,wI]
theorem ziU(p:List UInt8)(a s w:Nat):∀ r,(∀ k,k<r->a+k * s+w<=p.length)->∀ j c,j<r->c<w->byt (ctl p a s w r) (j * w+c)=byt p (a+j * s+c)
 | 0,_,j,c,hj,_=>om
 | r+1,h,j,c,hj,hc=>by
  have hr:=h r om;have hl:=zau p a s w r λk hk=>h k om;rw[zf5];by_cases hjr:j=r
  .subst hjr;rw[ze1 om,hl,show j * w+c - j * w=c from om,zbG hc,zcJ]
  .have h1:j * w+w<=r * w:=by have:(j+1) * w<=r * w:=gT _ om;rwa[wD]at this
   rw[zdo om,ziU p a s w r (λk hk=>h k om) j c om hc]
def spl(p:List UInt8)(a:Nat)(z:List UInt8):List UInt8:=p.take a++(z++p.drop (a+z.length))
theorem zfy{p z:List UInt8}{a:Nat}(h:a+z.length<=p.length):(spl p a z).length=p.length:=by simp[spl];omega
theorem zgm{p z:List UInt8}{a:Nat}(h:a+z.length<=p.length)(i:Nat):byt (spl p a z) i=if a<=i/\i<a+z.length then byt z (i - a)else byt p i:=by
 have hl:(p.take a).length=a:=by simp;omega
 unfold spl;by_cases h1:i<a
 .rw[zdo om,zbG h1,gC om]
 .rw[ze1 om,hl];by_cases h2:i<a+z.length
  .rw[zdo om,gD ⟨om,h2⟩]
  .rw[ze1 om,zcJ,gC om];congr 1;omega
def pst(p:List UInt8)(a s w:Nat)(z:List UInt8):Nat->List UInt8
 | 0=>p
 | r+1=>spl (pst p a s w z r) (a+r * s) ((z.drop (r * w)).take w)
theorem zaZ{z:List UInt8}{w r j:Nat}(hz:z.length=r * w)(hj:j<r):((z.drop (j * w)).take w).length=w:=by have:(j+1) * w<=r * w:=gT _ om;rw[wD]at this;simp;omega
theorem zad{p:List UInt8}{a s w:Nat}{z:List UInt8}{m:Nat}(hz:z.length=m * w):∀ r,r<=m->(∀ k,k<r->a+k * s+w<=p.length)->(pst p a s w z r).length=p.length
 | 0,_,_=>rfl
 | r+1,hr,h=>by have ih:=zad (p:=p) (a:=a) (s:=s) hz r om λk hk=>h k om;have hl:=zaZ hz (show r<m from om);have:=h r om;rw[pst,zfy om,ih]
theorem zeK{p:List UInt8}{a s w:Nat}{z:List UInt8}{m:Nat}(hz:z.length=m * w)(hs:w<=s):∀ r,r<=m->(∀ k,k<r->a+k * s+w<=p.length)->∀ j c,j<r->c<w->byt (pst p a s w z r) (a+j * s+c)=byt z (j * w+c)
 | 0,_,_,j,c,hj,_=>om
 | r+1,hr,h,j,c,hj,hc=>by
  have hpl:=zad (p:=p) (a:=a) (s:=s) hz r om λk hk=>h k om;have ih:=zeK (p:=p) (a:=a) hz hs r om λk hk=>h k om;have hl:=zaZ hz (show r<m from om);have:=h r om;rw[pst,zgm om];by_cases hjr:j=r
  .subst hjr;rw[gD om,show a+j * s+c - (a+j * s)=c from om,zbG hc,zcJ]
  .obtain⟨d,rfl⟩:∃ d,r=j+1+d:=⟨r - (j+1),om⟩;have e:(j+1+d) * s=j * s+s+d * s:=by rw[vE,vE,wK]
   rw[gC om,ih j c om hc]
theorem zdg{p:List UInt8}{a s w:Nat}{z:List UInt8}{m:Nat}(hz:z.length=m * w){i:Nat}:∀ r,r<=m->(∀ k,k<r->a+k * s+w<=p.length)->(∀ j,j<r->¬(a+j * s<=i/\i<a+j * s+w))->byt (pst p a s w z r) i=byt p i
 | 0,_,_,_=>rfl
 | r+1,hr,h,hm=>by have hpl:=zad (p:=p) (a:=a) (s:=s) hz r om λk hk=>h k om;have ih:=zdg (p:=p) (a:=a) (s:=s) hz (i:=i) r om (λk hk=>h k om) λj hj=>hm j om;have hl:=zaZ hz (show r<m from om);have:=h r om;have:=hm r om;rw[pst,zgm om,gC om,ih]
def zci(f:Nat->Int):Nat->Int
 | 0=>0
 | n+1=>zci f n+f n
theorem zhd{f:Nat->Int}{B:Int}(h:∀ j,-B<=f j/\f j<=B):∀ n:Nat,-(n * B)<=zci f n/\zci f n<=n * B
 | 0=>by simp[zci]
 | n+1=>by
  have ih:=zhd h n;have hn:=h n;have e:((n+1:Nat):Int) * B=n * B+B:=by rw[mE,Int.add_mul];simp
  rw[zci,e];omega
theorem ziw{a b A B:Int}(ha: -A<=a/\a<=A)(hb: -B<=b/\b<=B): -(A * B)<=a * b/\a * b<=A * B:=by
 have h1:a.natAbs<=A.toNat:=om;have h2:b.natAbs<=B.toNat:=om;have h3:=uT h1 h2;rw[<-Int.natAbs_mul]at h3;have h4:((A.toNat * B.toNat:Nat):Int)=A * B:=by rw[wE,nH om,nH om]
 omega
def tmL:List Int:=[8,8,8,8,8,8,8,8,12,10,6,3,-3,-6,-10,-12,8,4,-4,-8,-8,-4,4,8,10,-3,-12,-6,6,12,3,-10,8,-8,-8,8,8,-8,-8,8,6,-12,3,10,-10,-3,12,-6,4,-8,8,-4,-4,8,-8,4,3,-6,10,-12,12,-10,6,-3]
def bas(i k:Nat):Int:=ze tmL (8 * i+k)
def nrL:List Int:=[512,578,320,578,512,578,320,578]
def msL:List Int:=[1445,1280,2312,1280,1445,1280,2312,1280]
def tS(j l:Nat):Int:=bas j l * ze msL j
theorem ziD{l:List Int}{B:Int}(h0:0<=B)(h:∀ x∈l,-B<=x/\x<=B)(i:Nat): -B<=ze l i/\ze l i<=B:=by grind[ze,qE,List.getElem_mem,qF]
theorem zy7(i k:Nat): -12<=bas i k/\bas i k<=12:=ziD om (by decide) _
theorem zo9(i:Nat): -2312<=ze msL i/\ze msL i<=2312:=ziD om (by decide) _
theorem zlK(j l:Nat): -27744<=tS j l/\tS j l<=27744:=ziw (zy7 j l) (zo9 j)
def zlc(v:Int):Int:=max (-2097152) (min v 2097152)
theorem zwh(v:Int): -2097152<=zlc v/\zlc v<=2097152:=by unfold zlc;omega
def rtm(y:List Int)(i l j:Nat):Int:=tS j l * zlc (ze y (8 * i+j))
def zko(y:List Int)(i l:Nat):Int:=zci (rtm y i l) 8
theorem zic(y:List Int)(i l j:Nat): -58183385088<=rtm y i l j/\rtm y i l j<=58183385088:=ziw (zlK j l) (zwh _)
theorem zve(y:List Int)(i l:Nat): -465467080704<=zko y i l/\zko y i l<=465467080704:=by have:=zhd (zic y i l) 8;unfold zko;omega
def ctm(y:List Int)(k l i:Nat):Int:=tS i k * zko y i l
theorem ziT(y:List Int)(k l i:Nat): -12913918687051776<=ctm y k l i/\ctm y k l i<=12913918687051776:=ziw (zlK i k) (zve _ _ _)
def zlb(y:List Int)(k l:Nat):Int:=zci (ctm y k l) 8
theorem zla(y:List Int)(k l:Nat): -103311349496414208<=zlb y k l/\zlb y k l<=103311349496414208:=by have:=zhd (ziT y k l) 8;unfold zlb;omega
def nst(s:Int):Int:=(2 * s+547363225600) / 1094726451200
def inv(y:List Int):List Int:=rgI 64 λp=>nst (zlb y (p / 8) (p%8))
theorem ztt(y:List Int)(k:Nat): -200000<=ze (inv y) k/\ze (inv y) k<=200000:=by
 by_cases h:k<64
 .rw[inv,zdA _ h];have:=zla y (k / 8) (k%8);unfold nst;omega
 simp_all[inv,zaP,ze,uH,vP]
theorem flr(a b:Int)(hb:0<b):(if a.tmod b<0 then a.tdiv b - 1 else a.tdiv b)=a / b:=by have h1:=Int.tdiv_eq_ediv (a:=a) (b:=b);have h2:=Int.tmod_eq_emod (a:=a) (b:=b);have h3:=Int.emod_nonneg a (by omega:b≠0);grind[Int.emod_lt_of_pos,Int.sign_eq_one_of_pos]
def zzL:List Int:=[0,1,8,16,9,2,3,10,17,24,32,25,18,11,4,5,12,19,26,33,40,48,41,34,27,20,13,6,7,14,21,28,35,42,49,56,57,50,43,36,29,22,15,23,30,37,44,51,58,59,52,45,38,31,39,46,53,60,61,54,47,55,62,63]
def alL:List Int:=[0,8,16,24,1,9,2,10,17,25,32,40,48,56,57,49,41,33,26,18,3,11,4,12,19,27,34,42,50,58,35,43,51,59,20,28,5,13,6,14,21,29,36,44,52,60,37,45,53,61,22,30,7,15,23,31,38,46,54,62,39,47,55,63]
def sca(al:Bool):List Int:=if al then alL else zzL
theorem zoQ(al:Bool):(sca al).length=64:=by cases al<;>rfl
theorem zr7(al:Bool)(i:Nat):0<=ze (sca al) i/\ze (sca al) i<=63:=by
 have h:∀ l:List Int,(∀ x∈l,0<=x/\x<=63)->0<=ze l i/\ze l i<=63:=λl h=>by grind[ze,qE,List.getElem_mem,qF]
 cases al<;>exact h _ (by decide)
def frn(l s:List Int):Nat->List Int
 | 0=>qA 64 0
 | n+1=>(frn l s n).set (ze s n).toNat (ze l n)
theorem zeT(l s:List Int):∀ n,(frn l s n).length=64
 | 0=>by simp[frn]
 | n+1=>by rw[frn,gS,zeT l s n]
def frs(l:List Int)(al:Bool):List Int:=frn l (sca al) 64
theorem zpo{l s:List Int}{P:Int->Prop}(h0:P 0)(h:∀ i,P (ze l i)):∀ n,∀ x∈frn l s n,P x
 | 0=>λx hx=>by rw[(List.mem_replicate.1 hx).2];exact h0
 | n+1=>λx hx=>by
  rcases rW hx with h1|h1
  .exact zpo h0 h n x h1
  simp_all
def gnL:List Int:=[32,34,25,34,32,34,25,34,34,36,27,36,34,36,27,36,25,27,20,27,25,27,20,27,34,36,27,36,34,36,27,36,32,34,25,34,32,34,25,34,34,36,27,36,34,36,27,36,25,27,20,27,25,27,20,27,34,36,27,36,34,36,27,36]
theorem zxd(k:Nat):0<=ze gnL k/\ze gnL k<=36:=by
 by_cases hi:k<64
 .have:∀ k,k<64->0<=ze gnL k/\ze gnL k<=36:=by decide
  simp_all
 .unfold ze;rw[uH,vP (by show 64<=k;omega)];simp
def dqz(l:List Int)(m:List UInt8)(q:Int):List Int:=rgI 64 λk=>ze l k * (byt m k * q * ze gnL k)
def bfr(n:Nat)(fd:Bool):Nat:=if 4<=n then 0 else n%2 * 8+n / 2 * (if fd then 16 else 128)
def bst(n:Nat)(fd:Bool):Nat:=if 4<=n then 8 else if fd then 32 else 16
def bps(n:Nat)(fd:Bool)(k:Nat):Nat:=bfr n fd+k / 8 * bst n fd+k%8
def bln(n:Nat):Nat:=if 4<=n then 64 else 256
theorem zqR{n:Nat}{fd:Bool}(hn:n<6):∀ k,k<8->bfr n fd+k * bst n fd+8<=bln n:=λk hk=>by grind[bfr,bst,bln]
theorem zi0{n:Nat}{fd:Bool}(hn:n<6){k:Nat}(hk:k<64):bps n fd k<bln n:=by have:=zqR (fd:=fd) hn (k / 8) om;unfold bps;omega
theorem zwl{n:Nat}{fd:Bool}{k j:Nat}(h:bps n fd k=bps n fd j):k=j:=by
 unfold bps bfr bst at h;by_cases hn:4<=n
 .grind
 .simp only[gC hn]at h;cases fd;all_goals grind
def blk(p:List UInt8)(n:Nat)(fd:Bool):List Int:=rgI 64 λk=>byt p (bps n fd k)
def clp(v:Int):Int:=max 0 (min v 255)
theorem zfo(v:Int):0<=clp v/\clp v<=255:=by unfold clp;omega
def zdw(p:List UInt8)(n:Nat)(fd:Bool)(x:List Int):List UInt8:=pst p (bfr n fd) (bst n fd) 8 (rgB 64 λk=>clp (ze x k)) 8
theorem zcw{p:List UInt8}{n:Nat}{fd:Bool}{x:List Int}(hn:n<6)(hp:p.length=bln n):(zdw p n fd x).length=p.length:=zad (m:=8) (by rw[zcT]) 8 om λk hk=>by rw[hp];exact zqR hn k hk
def sst(p:List UInt8)(n:Nat)(fd:Bool)(x:List Int):Nat->List UInt8
 | 0=>p
 | m+1=>(sst p n fd x m).set (bps n fd m) (u8 (clp (ze x m)))
theorem zeE(p:List UInt8)(n:Nat)(fd:Bool)(x:List Int):∀ m,(sst p n fd x m).length=p.length
 | 0=>rfl
 | m+1=>by rw[sst,gS,zeE p n fd x m]
theorem zrH{p:List UInt8}{n:Nat}{fd:Bool}{x:List Int}(hn:n<6)(hp:p.length=bln n):∀ m,m<=64->(∀ k,k<m->byt (sst p n fd x m) (bps n fd k)=clp (ze x k))/\∀ i,(∀ k,k<m->bps n fd k≠i)->byt (sst p n fd x m) i=byt p i
 | 0,_=>⟨λk hk=>om,λi _=>rfl⟩
 | m+1,hm=>by
  obtain⟨ih1,ih2⟩:=zrH (x:=x) hn hp m om;have hl:bps n fd m<(sst p n fd x m).length:=by rw[zeE,hp];exact zi0 hn om
  refine⟨λk hk=> ?_,λi hi=> ?_⟩
  .rw[sst,zpH _ _ _ _ hl];by_cases hkm:bps n fd k=bps n fd m
   .grind[zwl,zd5,zfo]
   .rw[gC hkm,ih1 k (by have:k≠m:=λe=>hkm (by rw[e]);omega)]
  grind[sst,zpH]
theorem zh3{p:List UInt8}{n:Nat}{fd:Bool}{x:List Int}(hn:n<6)(hp:p.length=bln n):sst p n fd x 64=zdw p n fd x:=by
 have hz:(rgB 64 λk=>clp (ze x k)).length=8 * 8:=zcT _ _;have hfit:∀ k,k<8->bfr n fd+k * bst n fd+8<=p.length:=λk hk=>by rw[hp];exact zqR hn k hk
 have hws:8<=bst n fd:=by grind[bst]
 obtain⟨h1,h2⟩:=zrH (x:=x) (fd:=fd) hn hp 64 om;apply zdQ
 .rw[zeE,zcw hn hp]
 intro i _;by_cases hi:∃ k,k<64/\bps n fd k=i
 .obtain⟨k,hk,rfl⟩:=hi;rw[h1 k hk,zdw,bps,zeK hz hws 8 om hfit (k / 8) (k%8) om om,show k / 8 * 8+k%8=k from om,zx9 (λk=>clp (ze x k)) hk (zfo _)]
 .have hm:∀ k,k<64->bps n fd k≠i:=λk hk e=>hi ⟨k,hk,e⟩;rw[h2 i hm,zdw,zdg hz 8 om hfit];intro j hj hc;apply hm (8 * j+(i - (bfr n fd+j * bst n fd))) om;grind[bps,bfr,bst]
theorem zwd{p:List UInt8}{n:Nat}{fd:Bool}(hn:n<6)(hp:p.length=bln n){k:Nat}(hk:k<64):byt (ctl p (bfr n fd) (bst n fd) 8 8) k=ze (blk p n fd) k:=by have h:=ziU p (bfr n fd) (bst n fd) 8 8 (λk hk=>by rw[hp];exact zqR hn k hk) (k / 8) (k%8) om om;grind[blk,zdA,bps]
def clm(i n:Int):Int:=max 0 (min i (n - 1))
def smp(p:List UInt8)(W R c r:Int):Int:=byt p (clm r R * W+clm c W).toNat
theorem zd9(p:List UInt8)(W R c r:Int):0<=smp p W R c r/\smp p W R c r<=255:=zR _ _
theorem zy0{i n:Int}(h:1<=n):0<=clm i n/\clm i n<=n - 1:=by unfold clm;omega
def pxl(p:List UInt8)(W R x y vx vy:Int):Int:=(smp p W R (x+vx / 2) (y+vy / 2)+smp p W R (x+vx / 2+vx%2) (y+vy / 2)+smp p W R (x+vx / 2) (y+vy / 2+vy%2)+smp p W R (x+vx / 2+vx%2) (y+vy / 2+vy%2)+2) / 4
theorem zyf(p:List UInt8)(W R x y vx vy:Int):0<=pxl p W R x y vx vy/\pxl p W R x y vx vy<=255:=by have h1:=zd9 p W R (x+vx / 2) (y+vy / 2);have h2:=zd9 p W R (x+vx / 2+vx%2) (y+vy / 2);have h3:=zd9 p W R (x+vx / 2) (y+vy / 2+vy%2);have h4:=zd9 p W R (x+vx / 2+vx%2) (y+vy / 2+vy%2);unfold pxl;omega
def prd(p:List UInt8)(W R x y:Int)(w h:Nat)(vx vy:Int):List UInt8:=rgB (w * h) λk=>pxl p W R (x+((k%w:Nat):Int)) (y+((k / w:Nat):Int)) vx vy
theorem zck(p:List UInt8)(W R x y:Int)(w h:Nat)(vx vy:Int):(prd p W R x y w h vx vy).length=w * h:=zcT _ _
def wov(a b:List UInt8)(w r:Nat):List UInt8:=((qD r).map λk=>(a.drop (k * w)).take w++(b.drop (k * w)).take w).flatten
theorem zhI(a b:List UInt8)(w r:Nat):wov a b w (r+1)=wov a b w r++((a.drop (r * w)).take w++(b.drop (r * w)).take w):=by simp[wov,sJ]
theorem zaN{a b:List UInt8}{w m:Nat}(ha:a.length=m * w)(hb:b.length=m * w):∀ r,r<=m->(wov a b w r).length=r * (2 * w)
 | 0,_=>by simp[wov]
 | r+1,hr=>by rw[zhI,gP,zaN ha hb r om,gP,zaZ ha (show r<m from om),zaZ hb (show r<m from om),wD r (2 * w)];omega
theorem zm8{a b:List UInt8}{w m:Nat}(ha:a.length=m * w)(hb:b.length=m * w):∀ r,r<=m->∀ j c,j<r->c<w->byt (wov a b w r) (j * (2 * w)+c)=byt a (j * w+c)/\byt (wov a b w r) (j * (2 * w)+w+c)=byt b (j * w+c)
 | 0,_,j,c,hj,_=>om
 | r+1,hr,j,c,hj,hc=>by
  have hl:=zaN ha hb r om;have l1:=zaZ ha (show r<m from om);have l2:=zaZ hb (show r<m from om);rw[zhI];by_cases hjr:j=r
  .subst hjr;refine⟨?_,?_⟩;all_goals grind[ze1,zdo,zbG,zcJ]
  .have h1:(j+1) * (2 * w)<=r * (2 * w):=gT _ om;rw[wD]at h1;obtain⟨i1,i2⟩:=zm8 ha hb r om j c om hc;grind[zdo]
theorem zks{a b z:List UInt8}{w m:Nat}(ha:a.length=m * w)(hb:b.length=m * w)(hz:z.length=m * (2 * w)):pst (pst z 0 (2 * w) w a m) w (2 * w) w b m=wov a b w m:=by
 have f0:∀ k,k<m->0+k * (2 * w)+w<=z.length:=λk hk=>by have h1:(k+1) * (2 * w)<=m * (2 * w):=gT _ om;rw[wD]at h1;omega
 have l1:(pst z 0 (2 * w) w a m).length=z.length:=zad ha m om f0;have f1:∀ k,k<m->w+k * (2 * w)+w<=(pst z 0 (2 * w) w a m).length:=λk hk=>by have h1:(k+1) * (2 * w)<=m * (2 * w):=gT _ om;rw[wD]at h1;omega
 apply zdQ
 .rw[zad hb m om f1,l1,hz,zaN ha hb m om]
 intro i hi;rw[zad hb m om f1,l1,hz]at hi;have hw:0<w:=by grind
 obtain⟨j,e,he,rfl⟩:∃ j e,e<2 * w/\i=j * (2 * w)+e:=⟨i / (2 * w),i%(2 * w),rC _ om,by rw[dC];exact(Nat.div_add_mod _ _).symm⟩;have hj:j<m:=by
  rcases dN j m with h|h
  .exact h
  .have:=gT (2 * w) h;omega
 by_cases hew:e<w
 .rw[zdg hb m om f1,(zm8 ha hb m om j e hj hew).1]
  .have:=zeK (p:=z) (a:=0) (s:=2 * w) ha om m om f0 j e hj hew;simp_all
  .intro k hk hc;rcases dN k j with h|h
   .have h1:(k+1) * (2 * w)<=j * (2 * w):=gT _ om;grind
   .have h1:j * (2 * w)<=k * (2 * w):=gT _ om;omega
 .obtain⟨c,rfl⟩:∃ c,e=w+c:=⟨e - w,om⟩;have h1:=(zm8 ha hb m om j c hj om).2;have h2:=zeK (p:=pst z 0 (2 * w) w a m) (a:=w) (s:=2 * w) hb om m om f1 j c hj om;grind
def mnb(a b:List UInt8):List UInt8:=rgB a.length λi=>(byt a i+byt b i+1) / 2
theorem zhq(a b:List UInt8):(mnb a b).length=a.length:=zcT _ _
def cad(p:List UInt8)(n:Nat)(fd:Bool)(x:List Int):List UInt8:=zdw p n fd (rgI 64 λk=>ze x k+ze (blk p n fd) k)
def fr4(V K:Nat)(y u v:List UInt8):Fm:=⟨((2 * V:Nat):Int),((4 * K:Nat):Int),y,u,v⟩
structure Fok(V K:Nat)(y u v:List UInt8):Prop where
 rv:1<=V/\V<=32
 rk:1<=K/\K<=16
 ly:y.length=2 * K * (2 * (2 * V))
 lu:u.length=K * (2 * V)
 lv:v.length=K * (2 * V)
def fld(V K P:Nat)(y u v:List UInt8):Fm:=⟨((2 * V:Nat):Int),((2 * K:Nat):Int),ctl y (P * (2 * V)) (2 * (2 * V)) (2 * V) (2 * K),ctl u (P * V) (2 * V) V K,ctl v (P * V) (2 * V) V K⟩
theorem zpr{V K:Nat}{y u v:List UInt8}(h:Fok V K y u v):fmd (fr4 V K y u v)=true:=by
 obtain⟨⟨v1,v2⟩,⟨k1,k2⟩,hy,hu,hv⟩:=h;have e1:((2 * V:Nat):Int) / 2=(V:Int):=om;have e2:((4 * K:Nat):Int) / 2=((2 * K:Nat):Int):=om;have e3:2 * K * (2 * (2 * V))=2 * V * (4 * K):=by grind
 have e4:K * (2 * V)=V * (2 * K):=by grind
 have a1:fsz ((2 * V:Nat):Int) ((4 * K:Nat):Int)=true:=by simp_all[fsz,gB];omega
 simp_all[wE,fmd,fr4,Bool.and_self]
theorem zaJ(n w P:Nat)(hP:P<=1)(p:List UInt8)(hp:p.length=n * (2 * w)):∀ k,k<n->P * w+k * (2 * w)+w<=p.length:=λk hk=>by
 have h0:P * w<=w:=by have:P=0\/P=1:=om;grind
 have h1:(k+1) * (2 * w)<=n * (2 * w):=gT _ om;grind
theorem zC(n:Nat)(a b:Int)(y u v:List UInt8)(i j k:Nat)(e:Int):Scoped n (.tup [.agg [O J a,O J b,.slice (bs y) i false,.slice (bs u) j false,.slice (bs v) k false],O J e]):=.tup λp x hx=>by
 have hm:=uE hx;simp only[gM,gL,uA]at hm;rcases hm with rfl|rfl
 .refine zn λx hx=> ?_;simp only[gM,gL,uA]at hx;rcases hx with rfl|rfl|rfl|rfl|rfl
  .exact .int _ _
  .exact .int _ _
  all_goals grind[zk,zh]
 .exact .int _ _
theorem ziJ(V K P:Nat)(y u v:List UInt8)(H:za)(hf:Fok V K y u v)(hP:P<=1):
  CallOk prog 82 [.agg (fmc (fr4 V K y u v)),O J (P:Int)] H (.tup [.agg (fmc (fld V K P y u v)),O J 0]) H:=by
 have hfd:=λH=>za1 (fr4 V K y u v) H;rw[zpr hf]at hfd;obtain⟨⟨v1,v2⟩,⟨k1,k2⟩,hy,hu,hv⟩:=hf;have ly:=zau y (P * (2 * V)) (2 * (2 * V)) (2 * V) (2 * K) (zaJ _ _ _ hP _ hy);have lu:=zau u (P * V) (2 * V) V K (zaJ _ _ _ hP _ hu);have lv:=zau v (P * V) (2 * V) V K (zaJ _ _ _ hP _ hv);have hPV:P * V<=32/\P * (2 * V)<=64:=by have:P=0\/P=1:=om;grind
 have by1:y.length<=8192:=by have:2 * K * (2 * (2 * V))<=32 * 128:=uT om om;omega
 have bu1:u.length<=8192:=by have:K * (2 * V)<=16 * 64:=uT om om;omega
 have bv1:v.length<=8192:=by have:K * (2 * V)<=16 * 64:=uT om om;omega
 have c1:=λH=>zk4 y (P * (2 * V)) (2 * (2 * V)) (2 * V) (2 * K) false H om om by1 (zaJ _ _ _ hP _ hy) om;have c2:=λH=>zk4 u (P * V) (2 * V) V K false H om om bu1 (zaJ _ _ _ hP _ hu) om;have c3:=λH=>zk4 v (P * V) (2 * V) V K false H om om bv1 (zaJ _ _ _ hP _ hv) om;generalize hr:fmc (fld V K P y u v)=r;simp only[fmc,fld,ly,lu,lv]at hr;simp only[fmc,fr4]at hfd |-;have m4:((4 * K:Nat):Int).tmod 4=0:=by simp_all
 have d2:((4 * K:Nat):Int).tdiv 2=((2 * K:Nat):Int):=by grind
 have d3:((2 * K:Nat):Int).tdiv 2=(K:Int):=by simp_all
 have d4:((2 * V:Nat):Int).tdiv 2=(V:Int):=by simp_all
 have x1:(P:Int) * ((2 * V:Nat):Int)=((P * (2 * V):Nat):Int):=by simp
 have x2:(2:Int) * ((2 * V:Nat):Int)=((2 * (2 * V):Nat):Int):=by simp
 have x3:((P * (2 * V):Nat):Int).tdiv 2=((P * V:Nat):Int):=by grind
 refine .body (F0:=[(0,.agg [O J ((2 * V:Nat):Int),O J ((4 * K:Nat):Int),.slice (bs y) y.length false,.slice (bs u) u.length false,.slice (bs v) v.length false]),(1,O J (P:Int))]) func82 rfl ntmps82 results82 rfl kr rfl ?_;refine .e ?_;(repeat refine .seq ?_);refine .rgv (P:=prog) [1,2,4] 24 (.bool false) ?_ ?_ ?_
 .rfl
 .simp(disch:=omega) only[go_sem];(repeat'(first|((refine zg ?_ ?_)<;>intro h<;>(try simp only[nqb]at h)<;>simp(disch:=omega) only[go_sem,m4,h])|((refine VCx.call (hfd _) rfl ?_);simp(disch:=omega) only[go_sem,m4])));all_goals(simp_all[slot,Nat.beq]<;>omega)
 refine .us (.dn λK hK=> ?_);simp(disch:=omega) only[go_sem,d2];refine hK _ _ ?_;clear hK K;refine .dn λK hK=> ?_;simp(disch:=omega) only[go_sem,x1,x2,x3,d3,d4];(repeat'(((first|refine VCy.call (c1 _) rfl ?_|refine VCy.call (c2 _) rfl ?_|refine VCy.call (c3 _) rfl ?_);simp(disch:=omega) only[go_sem,x1,x2,x3,d3,d4])));refine hK _ _ ?_;clear hK K;refine .v (.tup [.agg [O J ((2 * V:Nat):Int),O J ((2 * K:Nat):Int),.slice (bs (ctl y (P * (2 * V)) (2 * (2 * V)) (2 * V) (2 * K))) (2 * K * (2 * V)) false,.slice (bs (ctl u (P * V) (2 * V) V K)) (K * V) false,.slice (bs (ctl v (P * V) (2 * V) V K)) (K * V) false],O J 0]) ?_;rw[<-hr];exact .base (.id (zC _ _ _ _ _ _ _ _ _ _))
theorem zjF(V K P:Nat)(y u v:List UInt8)(H:za)(hf:Fok V K y u v)(hP:P<=1):
  CallOk prog 104 [.agg (fmc (fr4 V K y u v)),O J (P:Int)] H (.tup [.agg (fmc (fld V K P y u v)),O J 0]) H:=by
 have hfd:=λH=>zaU (fr4 V K y u v) H;rw[zpr hf]at hfd;obtain⟨⟨v1,v2⟩,⟨k1,k2⟩,hy,hu,hv⟩:=hf;have ly:=zau y (P * (2 * V)) (2 * (2 * V)) (2 * V) (2 * K) (zaJ _ _ _ hP _ hy);have lu:=zau u (P * V) (2 * V) V K (zaJ _ _ _ hP _ hu);have lv:=zau v (P * V) (2 * V) V K (zaJ _ _ _ hP _ hv);have c1:=λH=>zgC y (2 * V) P (2 * K) false H om hP om hy;have c2:=λH=>zgC u V P K false H om hP om hu;have c3:=λH=>zgC v V P K false H om hP om hv;generalize hr:fmc (fld V K P y u v)=r;simp only[fmc,fld,ly,lu,lv]at hr;simp only[fmc,fr4]at hfd |-;have m4:((4 * K:Nat):Int).tmod 4=0:=by simp_all
 have d2:((4 * K:Nat):Int).tdiv 2=((2 * K:Nat):Int):=by grind
 have d4:((2 * V:Nat):Int).tdiv 2=(V:Int):=by simp_all
 refine .body (F0:=[(0,.agg [O J ((2 * V:Nat):Int),O J ((4 * K:Nat):Int),.slice (bs y) y.length false,.slice (bs u) u.length false,.slice (bs v) v.length false]),(1,O J (P:Int))]) func104 rfl ntmps104 results104 rfl kr rfl ?_;refine .e ?_;(repeat refine .seq ?_);refine .rgv (P:=prog) [1,2,4] 22 (.bool false) ?_ ?_ ?_
 .rfl
 .simp(disch:=omega) only[go_sem];(repeat'(first|((first|refine zg ?_ ?_|refine uI ?_ ?_)<;>intro h<;>(try simp only[nqb]at h)<;>simp(disch:=omega) only[go_sem,m4,h])|((refine VCx.call (hfd _) rfl ?_);simp(disch:=omega) only[go_sem,m4])));all_goals(simp_all[slot,Nat.beq]<;>first|rfl|omega|(rw[gJ];simp;done)|(rw[gJ];simp;omega))
 refine .us (.dn λK hK=> ?_);simp(disch:=omega) only[go_sem,d2,d4];(repeat'(first|((first|refine zr ?_ ?_|refine uI ?_ ?_)<;>intro h<;>(try simp only[nqb]at h)<;>simp(disch:=omega) only[go_sem,d2,d4,h])|((first|refine VCy.call (c1 _) rfl ?_|refine VCy.call (c2 _) rfl ?_|refine VCy.call (c3 _) rfl ?_);simp(disch:=omega) only[go_sem,d2,d4])));refine hK _ _ ?_;clear hK K;refine .v (.tup [.agg [O J ((2 * V:Nat):Int),O J ((2 * K:Nat):Int),.slice (bs (ctl y (P * (2 * V)) (2 * (2 * V)) (2 * V) (2 * K))) (2 * K * (2 * V)) false,.slice (bs (ctl u (P * V) (2 * V) V K)) (K * V) false,.slice (bs (ctl v (P * V) (2 * V) V K)) (K * V) false],O J 0]) ?_;rw[<-hr];exact .base (.id (zC _ _ _ _ _ _ _ _ _ _))
theorem ziW(p:List UInt8)(f:Bool)(H:za)(hp:1<=p.length/\p.length<=100000):CallOk prog 83 [.slice (bs p) p.length f] H (.slice (bs p) p.length false) H:=by refine .go func83 ntmps83 results83 ?_;refine .e (.e ?_);refine .us (.f (λK k=>by simp(disch:=omega) only[go_sem,zd];exact k) ?_);refine .ret ⟨_,rfl,?_⟩;exact .base (Fz.mslC (e:=5) (xs:=bs p) (gV _) (by simp[zd]) (by rw[zd];omega) (FzC.refl (zh _ _)))
theorem zkj(p q:List UInt8)(f g:Bool)(H:za):CallOk prog 17 [.slice (bs p) p.length f,.slice (bs q) q.length g] H (.bool (p==q)) H:=by refine .go func17 ntmps17 results17 ?_;refine .e (.f (λK k=>by simp(disch:=omega) only[go_sem,zd,zqs];exact k) ?_);exact .ret ⟨_,rfl,.inl ⟨rfl,rfl⟩⟩
theorem zqK(f:Fm)(H:za):CallOk prog 14 [.agg (fmc f),.agg (fmc f)] H (.bool true) H:=by obtain⟨w,ht,y,u,v⟩:=f;have s1:=λH=>zkj y y false false H;have s2:=λH=>zkj u u false false H;have s3:=λH=>zkj v v false false H;simp only[beq_self_eq_true]at s1 s2 s3;refine .body (F0:=[(0,.agg (fmc ⟨w,ht,y,u,v⟩)),(1,.agg (fmc ⟨w,ht,y,u,v⟩))]) func14 rfl ntmps14 results14 rfl kr rfl ?_;(repeat'(first|refine .seq ?_|refine .skip ?_|refine .block ?_|((first|refine .rg rfl λK hK=> ?_|refine .draw mix kr λK hK=> ?_);simp(disch:=omega) only[go_sem,fmc])|((first|refine zg ?_ ?_|refine zr ?_ ?_|refine uI ?_ ?_)<;>intro h<;>(try simp only[nqb]at h)<;>simp(disch:=omega) only[go_sem,fmc,h])|((first|refine VCx.call (s1 _) rfl ?_|refine VCx.call (s2 _) rfl ?_|refine VCx.call (s3 _) rfl ?_|refine VCy.call (s1 _) rfl ?_|refine VCy.call (s2 _) rfl ?_|refine VCy.call (s3 _) rfl ?_);simp(disch:=omega) only[go_sem,fmc])|(refine hK _ _ ?_)|(refine .cond (t:=_) rfl (λh=> ?_) (λh=> ?_)<;>(try(cases h;done))<;>(try simp only[nqb]at h))));all_goals((refine .ret ⟨_,rfl,?_⟩;first|refine .inl ⟨?_,rfl⟩|refine .base (.id' ?_ (.bool _))|refine .base (.id' ?_ (.int _ _)));(simp_all[slot,Nat.beq]<;>first|rfl|omega|(rw[gJ];simp;done)|(rw[gJ];simp;omega)))
end Go.Proofs.YtleejngibkbjnaaGreatDoor.Sc
