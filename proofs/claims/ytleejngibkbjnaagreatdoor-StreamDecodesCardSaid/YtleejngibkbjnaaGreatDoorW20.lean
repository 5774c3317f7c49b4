/-
  Parts of the proof. No condition.
-/
import Derived.Test.YtleejngibkbjnaaGreatDoorW15
import Derived.Test.YtleejngibkbjnaaGreatDoorW19
open Go.Proofs.YtleejngibkbjnaaGreatDoor.Pm.PV renaming int → O
open Go.IntKind renaming i64 → J
open List renaming getElem?_eq_getElem → qA, take → qB
open Go.Proofs.Tryz
set_option linter.all false
set_option maxRecDepth 100000
set_option maxHeartbeats 32000000
namespace Go.Proofs.YtleejngibkbjnaaGreatDoor.Sc
open Pm Ty Go.RowKit
theorem zAa{c:Cx}{q:List UInt8}{n a:Nat}{s:St}{y:Mb×St}{a1:Nat}(h:mtk c s q n a= .ok y a1)(ha:a<=n)(hs:vrS s):a1<=n/\y.1.lv.length=384:=by
 unfold mtk at h;cases h1:zb0 c q n a with
 | er e a2=>rw[h1]at h;cases h
 | ok x a2=>
  obtain⟨b1,b2⟩:=zka h1 ha;rw[h1,Rr.bind_ok]at h;unfold zj8 at h;cases h2:zbr c q n x.1 s a2 with
  | er e a3=>rw[h2]at h;cases h
  | ok y2 a3=>
   obtain⟨c1,c2,_⟩:=zj9 h2 b1 hs;rw[h2,Rr.bind_ok]at h;cases h3:zbO c q n x.2 y2.1 y2.2 a3 with
   | er e a4=>rw[h3]at h;cases h
   | ok y3 a4=>
    obtain⟨d1,d2,_⟩:=zhT h3 c1;rw[h3,Rr.bind_ok]at h;cases h4:zbL q n x.2 y3.1 a4 with
    | er e a5=>rw[h4]at h;cases h
    | ok y4 a5=>
     obtain⟨e1,e2,_⟩:=zkb h4 d1;rw[h4,Rr.bind_ok]at h;cases h5:zax q n 6 y4 y3.2 a5 with
     | er e a6=>rw[h5]at h;cases h
     | ok y5 a6=>obtain⟨f1,f2,_⟩:=zfc 6 y4 y3.2 a5 h5 e1 om (by rw[e2,d2,c2,b2];exact zW);grind[Rr.bind_ok]
theorem znR{c:Cx}{q:List UInt8}{n a:Nat}{s:St}{y:Mb×St}{a1:Nat}(h:zdH c s q n a= .ok y a1)(ha:a<=n):a1<=n/\y.1.lv.length=384:=by
 unfold zdH at h;split at h
 .rename_i hv;rw[gB]at hv;exact zAa h ha (zlx hv.2).2.1
 .cases h
def slL(c:Cx)(q:List UInt8)(n:Nat):Nat->St->Nat->Rr (List Mb×St)
 | 0,s,a=>.ok ([],s) a
 | r+1,s,a=>(zdH c s q n a).bind λy a1=>(slL c q n r y.2 a1).bind λz a2=>.ok (y.1::z.1,z.2) a2
def wmb(s:Sq):Nat:=(s.w.tdiv 16).toNat
def slT(s:Sq)(p:Pi)(b:Bool)(t:Int)(q:List UInt8):Rr (Nat×List Mb):=
 if zcq s p b&&(decide (1<=t)&&decide (t<1+zaq s p))then
  (if q.length=0\/zbo q=0 then .er 2 0 else if nb q<5 then .er 3 0 else if vl q 0 5=0 then .er 2 0 else
   (slL (cxP s p b) q (nb q) (wmb s) (st0 (vl q 0 5:Int)) 5).bind λz a=>if a=nb q then .ok (vl q 0 5,z.1) a else .er 2 a)else .er 0 0
def rvT:Rr (Nat×List Mb)->PV
 | .ok x _=>.tup [O J (x.1:Int),.slice (x.2.flatMap mbc) x.2.length false,O J 0]
 | .er e _=>.tup [O J 0,.slice [] 0 true,ecd e]
def zrp(r:Nat):List PV:=(List.replicate r zmv).flatten
theorem zlq(r:Nat):zrp (r+1)=zmv++zrp r:=by rfl
theorem zot:∀ r,(zrp r).length=r * 408
 | 0=>by simp[zrp]
 | r+1=>by rw[zlq,gP,zot r,zdq];omega
theorem zuW{D:List Mb}{m:Mb}(hD:∀ x∈D,x.lv.length=384)(k r:Nat)(hk:D.length=k):qB (k * 408) (D.flatMap mbc++zrp (r+1))++(mbc m++List.drop (k * 408+408) (D.flatMap mbc++zrp (r+1)))=(D++[m]).flatMap mbc++zrp r:=by have hl:=zac mbc 408 D (λx hx=>zu x (hD x hx));simp_all[wZ,rL,uB,zlq,vC,dE,zdq,nG]
theorem zuf{D:List Mb}(hD:∀ x∈D,x.lv.length=384)(k r:Nat)(hk:D.length=k):(D.flatMap mbc++zrp r).length=(k+r) * 408:=by rw[gP,zac mbc 408 D (λx hx=>zu x (hD x hx)),hk,zot,vE]
def sH(H:za)(s:Sq)(p:Pi)(t:Int)(q:List UInt8)(f:Bool)(n a:Nat)(c:Cx)(st:St)(B:List PV):za:=H++[⟨37,0,sqc s⟩,⟨41,0,pic p⟩,⟨49,0,[O J t,.slice (bs q) q.length f]⟩,⟨5,1,[]⟩,rA q n a,⟨145,0,cxc c⟩,⟨188,0,stc st⟩,⟨142,0,B⟩]
theorem zqU(n:Nat)(v e:Int):Scoped n (.tup [O J v,.slice [] 0 true,O J e]):=.tup (zO λx hx=>by
 simp only[gM,gL,uA]at hx;rcases hx with rfl|rfl|rfl
 .exact .int _ _
 .exact zk (λx hx=>by cases hx)
 .exact .int _ _)
theorem zrO(s:Sq)(p:Pi)(b:Bool)(t:Int)(q:List UInt8)(f:Bool)(H:za)(hs:SqOk s)(ht:zgD t)(hq:q.length<=100000000):
  CallOk prog 46 [.agg (sqc s),.agg (pic p),.bool b,.agg [O J t,.slice (bs q) q.length f]] H (rvT (slT s p b t q)) H:=by
 have fo:=λK=>zpv s p b K hs;have ro:=λK=>zl4 s p K hs;have co:=λK=>zt9 s p b K hs;have so:=λv K=>zrG v K;have h1:=zab s;have h2:=zaj s hs;have h3:=zbu s hs;have h4:=zoM s;have p6:(pic p).length=6:=rfl;have t6:qB 6 (pic p)=pic p:=rfl;have l8:∀ t,(stc t).length=8:=λ_=>rfl;have c8:∀ t,(stc t).all PV.cell=true:=λ_=>rfl;have tk8:∀ t,qB 8 (stc t)=stc t:=λ_=>rfl;have dk8:∀ t,List.drop 8 (stc t)=[]:=λ_=>rfl;have c4:∀ c,(cxc c).all PV.cell=true:=λ_=>rfl;have l4:∀ c,(cxc c).length=4:=λ_=>rfl;have tk4:∀ c,qB 4 (cxc c)=cxc c:=λ_=>rfl;have dk4:∀ c,List.drop 4 (cxc c)=[]:=λ_=>rfl;generalize hres:slT s p b t q=res;unfold slT at hres;refine .go func46 ntmps46 results46 ?_;refine .g (nq2 h1 @pic.eq_1) ?_;suffices hrest:PW prog _ _ [(0,.agg (sqc s)),(1,.agg (pic p)),(2,.bool b),(4,.ptr H.length 0 0),(5,.ptr (H.length+1) 0 0),(7,.ptr (H.length+2) 0 0),(36,.bool (!(zcq s p b&&(decide (1<=t)&&decide (t<1+zaq s p)))))] (H++[⟨37,0,sqc s⟩,⟨41,0,pic p⟩,⟨49,0,[O J t,.slice (bs q) q.length f]⟩]) _ by
  cases hf:zcq s p b with
  | false=>
   rw[hf]at fo hrest;refine .dn λK hK=> ?_;simp(disch:=omega) only[go_sem,h2,h3];refine VCy.call (fo _) rfl ?_;simp(disch:=omega) only[go_sem];refine hK _ _ ?_;clear hK K;exact .a hrest
  | true=>
   rw[hf]at fo hrest;rw[uP]at hrest;by_cases ht1:1<=t
   .have d1:decide (t<1)=false:=gW om;have hpr:0<=zaq s p/\zaq s p<=4:=by
     unfold zaq;split
     .rename_i hv;have:=zaz hv;grind
     .omega
    have d2:decide (1+zaq s p<=t)= !decide (t<1+zaq s p):=by grind
    rw[gX ht1,uP,<-d2]at hrest;refine .dn λK hK=> ?_;simp(disch:=omega) only[go_sem,h2,h3];refine VCy.call (fo _) rfl ?_;simp(disch:=omega) only[go_sem,d1,h2,h3];refine VCy.call (ro _) rfl ?_;simp(disch:=omega) only[go_sem];refine hK _ _ ?_;clear hK K;exact .a hrest
   .have d1:decide (t<1)=true:=gX om;rw[gW ht1,vB]at hrest;refine .dn λK hK=> ?_;simp(disch:=omega) only[go_sem,h2,h3];refine VCy.call (fo _) rfl ?_;simp(disch:=omega) only[go_sem,d1];refine hK _ _ ?_;clear hK K;exact .a hrest
 cases hc:(zcq s p b&&(decide (1<=t)&&decide (t<1+zaq s p)))with
 | false=>
  rw[hc,gC (by decide)]at hres;refine .t (.e ?_);refine .v (.tup [O J 0,.slice [] 0 true,O J 1]) ?_;rw[<-hres];exact .base (.id (zqU _ _ _))
 | true=>
  rw[hc,gD rfl]at hres;rw[gB]at hc;have hw:1<=wmb s/\wmb s<=4/\s.w.tdiv 16=((wmb s:Nat):Int):=by
   have hv:zB s p=true:=by simp_all[zcq,gB]
   have:=zaz hv;grind[Int.tdiv_eq_ediv_of_nonneg,wmb]
  clear fo ro hc;refine .us ?_;by_cases hb:q.length=0\/zbo q=0
  .rw[gD hb]at hres;have nr:=λK=>zsU q f K hq hb;refine .k nr ?_;refine .e (.t ?_);refine .e (.v (.tup [O J 0,.slice [] 0 true,O J 3]) ?_);rw[<-hres];exact .base (.id (zqU _ _ _))
  rw[gC hb]at hres;obtain⟨hb1,hb2⟩:=not_or.1 hb;have nr:=λK=>zvE q f K hq hb1 hb2;obtain⟨_,n2,_⟩:=znQ q hb1 hb2;generalize nb q=n at *;refine .k nr ?_;refine .e (.us ?_);have gr:=λa X=>(apn H ([⟨37,0,sqc s⟩,⟨41,0,pic p⟩,⟨49,0,[O J t,.slice (bs q) q.length f]⟩,⟨5,1,[]⟩,rA q n a]++X) 4);by_cases h5:n<5
  .rw[gD h5]at hres;have tk:=zb2 (H.length+4) q n 0 5 _ (gr 0 []) om om om om;refine .f (λK k=>by simp(disch:=omega) only[go_sem];refine VCx.call (tk) rfl ?_;simp(disch:=omega) only[go_sem];exact k) ?_;refine .e (.t ?_);refine .e (.v (.tup [O J 0,.slice [] 0 true,O J 4]) ?_);rw[<-hres];exact .base (.id (zqU _ _ _))
  rw[gC h5]at hres;have tk:=zee (H.length+4) q n 0 5 _ (gr 0 []) om om om om;rw[aps]at tk;simp only[gQ,uZ,vC,rE,rV,wF]at tk;have hvl:=zgQ q 0 5;generalize vl q 0 5=v at *;refine .f (λK k=>by simp(disch:=omega) only[go_sem];refine VCx.call (tk) rfl ?_;simp(disch:=omega) only[go_sem];exact k) ?_;refine .e (.us ?_);by_cases hv0:v=0
  .rw[gD hv0]at hres;have d1:((v:Int)==0)=true:=by simp[hv0]
   refine .g d1 ?_;refine .t (.e ?_);refine .v (.tup [O J 0,.slice [] 0 true,O J 3]) ?_;rw[<-hres];exact .base (.id (zqU _ _ _))
  rw[gC hv0]at hres;have d1:((v:Int)==0)=false:=by simp_all
  refine .g d1 ?_;refine .us ?_;have co1:=λK=>co K;have so1:=λK=>so (v:Int) K;generalize cxP s p b=c at *;refine .x λK hK=> ?_;simp(disch:=omega) only[go_sem,h2,h3,p6,t6];refine VCx.call (co1 _) rfl ?_;simp(disch:=omega) only[go_sem];refine VCx.call (so1 _) rfl ?_;simp(disch:=omega) only[go_sem,l8,c8,dk8,l4,c4,dk4,Nat.reduceAdd];refine hK _ _ ?_;clear hK K;obtain⟨w1,w2,w3⟩:=hw;generalize wmb s=w at *;refine .f (λK k=>by simp(disch:=omega) only[go_sem,h4,h2,w3,↓zjU,zdq];exact k) ?_;refine .a (F1:=[(11,.ptr (H.length+4) 0 0),(13,.int .u32 (v:Int)),(14,.ptr (H.length+5) 0 0),(15,.ptr (H.length+6) 0 0),(16,.msl (H.length+7) 0 0 w 408 true)]) (H1:=sH H s p t q f n 5 c (st0 v) (zrp w)) ?_ (by simp[kp,slot,Nat.beq]) rfl;have gq:=apn H [⟨37,0,sqc s⟩,⟨41,0,pic p⟩,⟨49,0,[O J t,.slice (bs q) q.length f]⟩,⟨5,1,[]⟩,rA q n 5,⟨145,0,cxc c⟩,⟨188,0,stc (st0 v)⟩,⟨142,0,zrp w⟩] 7;refine .g (nq2 @sH.eq_1 @apn) ?_;refine .l ?_;suffices hl1:∀(k:Nat) (D:List Mb) (st:St) (a:Nat),k<=w->D.length=k->(∀ x∈D,x.lv.length=384)->a<=n->((slL c q n (w - k) st a).bind λz a=>if a=n then Rr.ok (v,D++z.1) a else .er 2 a)=res->
    PL prog _ _ [(11,.ptr (H.length+4) 0 0),(13,.int .u32 (v:Int)),(14,.ptr (H.length+5) 0 0),(15,.ptr (H.length+6) 0 0),(16,.msl (H.length+7) 0 0 w 408 true),(68,O J (w:Int)),(69,O J (k:Int))] (sH H s p t q f n a c st (D.flatMap mbc++zrp (w - k))) _ by
   exact .a (hl1 0 [] (st0 v) 5 om rfl (λx hx=>by cases hx) om hres) (by simp[kp,slot,Nat.beq]) rfl
  clear hres gr tk nr co1 so1 co so;intro k D st a hk hD hDl ha hres;induction hd:w - k using Nat.strongRecOn generalizing k D st a with
  | _ d ih=>
   refine .round (.e ?_);refine .c (λh=> ?_) (λh=> ?_)
   .have h5k:k<w:=by grind
    obtain⟨r,hr⟩:∃ r,d=r+1:=⟨d - 1,om⟩;subst hr;have hr2:w - (k+1)=r:=om;have hcl:=zuf hDl k (r+1) hD;have tkc:=λm=>zuW (m:=m) hDl k r hD;rw[hd,slL,Rr.bind_bind]at hres;have mt:=zsX (H.length+4) q n a c st (sH H s p t q f n a c st (D.flatMap mbc++zrp (r+1))) (apn _ _ 4) ha om hq;refine .skip (.b ?_);refine .e (.x λK hK=> ?_);simp(disch:=omega) only[go_sem,sH,apn,tk4,l4,tk8,l8];unfold sH at mt;refine VCx.callR mt rfl λv' H' hR=> ?_;obtain⟨rfl,hH⟩:=hR;cases hm:zdH c st q n a with
    | er e a1=>
     rw[hm]at hH hres;obtain⟨a2,_,rfl⟩:=hH;rw[Rr.bind_er]at hres;have d0:((e:Int)+1 !=0)=true:=by simp;omega
     have hzl:=zdq;have hzc:=zfq;simp(disch:=omega) only[go_sem,rvM,ecd,apn,aps,hcl,hzl,hzc,l8,c8,dk8];refine hK _ _ ?_;clear hK K;refine .g d0 ?_;refine .t (.e ?_);refine .v (.tup [O J 0,.slice [] 0 true,O J ((e:Int)+1)]) ?_;rw[<-hres];exact .base (.id (zqU _ _ _))
    | ok y a1=>
     rw[hm]at hH hres;subst hH;obtain⟨b1,b2⟩:=znR hm ha;rw[Rr.bind_ok,Rr.bind_bind]at hres;have m408:=zu y.1 b2;have mcl:=zcC y.1;have htk1:=tkc y.1;simp(disch:=omega) only[go_sem,rvM,apn,aps,hcl,m408,mcl,htk1,l8,c8,dk8];refine hK _ _ ?_;clear hK K;refine .e (.us ?_);refine .e (.a (ih r om (k+1) (D++[y.1]) y.2 a1 om (by simp[hD]) (λx hx=> ?_) b1 ?_ hr2) rfl ?_)
     .rcases uF.1 hx with hx|hx
      .grind
      grind[List.mem_singleton]
     .rw[hr2,<-hres];congr 1;funext z a';simp only[Rr.bind,gU,uZ,vC]
     .rfl
   .have h6:k=w:=by grind
    subst h6;refine .exit ?_;rw[vK]at hd;subst hd;rw[vK,slL,Rr.bind_ok]at hres;have hcl:=zuf hDl k 0 hD;have lf:=zse (H.length+4) q n a (sH H s p t q f n a c st (D.flatMap mbc++zrp 0)) (apn _ _ 4) ha om;unfold sH at lf;by_cases han:a=n
    .rw[gD han]at hres;rw[han,vK]at lf;subst han;refine .x λK hK=> ?_;simp(disch:=omega) only[go_sem,sH];refine VCx.call (lf) rfl ?_;simp(disch:=omega) only[go_sem];refine hK _ _ ?_;clear hK K;refine .us (.e ?_);refine .v (.tup [O J (v:Int),.msl (H.length+7) 0 0 k 408 true,O J 0]) ?_;rw[<-hres];have hz0:zrp 0=[]:=by simp[zrp]
     refine .base (Fz.tupC ⟨.id (.int _ _),?_,.id (.int _ _),trivial⟩);rw[gQ,hD,hz0,gQ];exact Fz.mslC (e:=142) (xs:=D.flatMap mbc) om (apn _ _ 7) (by rw[zac mbc 408 D (λx hx=>zu x (hDl x hx)),hD]) (FzC.refl (zfg D _))
    .rw[gC han]at hres;have d0:(((n - a:Nat):Int) !=0)=true:=by simp;omega
     refine .x λK hK=> ?_;simp(disch:=omega) only[go_sem,sH];refine VCx.call (lf) rfl ?_;simp(disch:=omega) only[go_sem,d0];refine hK _ _ ?_;clear hK K;refine .t (.e ?_);refine .v (.tup [O J 0,.slice [] 0 true,O J 3]) ?_;rw[<-hres];exact .base (.id (zqU _ _ _))
theorem Rr.bind_okE{α β:Type}{x:Rr α}{f:α->Nat->Rr β}{v:β}{a:Nat}(h:x.bind f= .ok v a):∃ y a1,x= .ok y a1/\f y a1= .ok v a:=by
 cases x with
 | ok y a1=>exact⟨y,a1,rfl,h⟩
 | er e a1=>cases h
theorem zx3(s:St)(d:Nat)(x y:Int):(zbx s d x y).q=s.q:=by unfold zbx;split<;>rfl
theorem zx4(s:St)(d:Nat)(x:Int):(zdy s d x).q=s.q:=by unfold zdy;split<;>(try split)<;>rfl
theorem zrX(m:Mb)(d k:Nat)(x y:Int):(zaE m d k x y).dl=m.dl:=by
 unfold zaE;repeat' split
 all_goals rfl
theorem zr1(m:Mb)(d k:Nat)(x:Int):(zec m d k x).dl=m.dl:=by
 unfold zec;repeat' split
 all_goals rfl
theorem zr4(m:Mb)(d:Nat)(b:Bool):(zcf m d b).dl=m.dl:=by
 unfold zcf;repeat' split
 all_goals rfl
theorem zuX{c:Cx}{q:List UInt8}{n:Nat}{m:Mb}{s:St}{d k a:Nat}{y:Mb×St}{a1:Nat}(h:zc1 c q n m s d k a= .ok y a1):y.1.dl=m.dl/\y.2.q=s.q:=by
 unfold zc1 at h;obtain⟨m',a2,h1,h⟩:=Rr.bind_okE h;obtain⟨x,a3,_,h⟩:=Rr.bind_okE h;obtain⟨z,a4,_,h⟩:=Rr.bind_okE h;injection h with h _;rw[<-h];refine⟨(zrX _ _ _ _ _).trans ?_,zx3 _ _ _ _⟩;split at h1
 .obtain⟨b,a5,_,h1⟩:=Rr.bind_okE h1;injection h1 with h1 _;rw[<-h1];exact zr1 _ _ _ _
 .injection h1 with h1 _;rw[h1]
theorem zoC{c:Cx}{q:List UInt8}{n d:Nat}:∀(r k:Nat) (m:Mb) (s:St) (a:Nat) {y:Mb×St} {a1:Nat},zaS c q n d r k m s a= .ok y a1->y.1.dl=m.dl/\y.2.q=s.q
 | 0,_,m,s,a,y,a1,h=>by injection h with h _;rw[<-h];exact⟨rfl,rfl⟩
 | r+1,k,m,s,a,y,a1,h=>by unfold zaS at h;obtain⟨x,a2,h1,h⟩:=Rr.bind_okE h;obtain⟨e1,e2⟩:=zuX h1;obtain⟨e3,e4⟩:=zoC r (k+1) x.1 x.2 a2 h;exact⟨e3.trans e1,e4.trans e2⟩
theorem zuZ{c:Cx}{q:List UInt8}{n:Nat}{m:Mb}{s:St}{d a:Nat}{y:Mb×St}{a1:Nat}(h:zdY c q n m s d a= .ok y a1):y.1.dl=m.dl/\y.2.q=s.q:=by
 unfold zdY at h;split at h
 .exact zoC _ _ _ _ _ h
 .injection h with h _;rw[<-h];exact⟨rfl,rfl⟩
theorem zoF{c:Cx}{q:List UInt8}{n:Nat}:∀(r d:Nat) (m:Mb) (s:St) (a:Nat) {y:Mb×St} {a1:Nat},zbs c q n r d m s a= .ok y a1->y.1.dl=m.dl/\y.2.q=s.q
 | 0,_,m,s,a,y,a1,h=>by injection h with h _;rw[<-h];exact⟨rfl,rfl⟩
 | r+1,d,m,s,a,y,a1,h=>by unfold zbs at h;obtain⟨x,a2,h1,h⟩:=Rr.bind_okE h;obtain⟨e1,e2⟩:=zuZ h1;obtain⟨e3,e4⟩:=zoF r (d+1) x.1 x.2 a2 h;exact⟨e3.trans e1,e4.trans e2⟩
theorem zoD{c:Cx}{q:List UInt8}{n:Nat}{m:Mb}{s:St}{a:Nat}{y:Mb×St}{a1:Nat}(h:zbr c q n m s a= .ok y a1):y.1.dl=m.dl/\y.2.q=s.q:=by
 unfold zbr at h;split at h
 .obtain⟨m',a2,h1,h⟩:=Rr.bind_okE h;obtain⟨e1,e2⟩:=zoF _ _ _ _ _ h;refine⟨e1.trans ?_,e2⟩;split at h1
  .obtain⟨b,a5,_,h1⟩:=Rr.bind_okE h1;injection h1 with h1 _;rw[<-h1]
  .injection h1 with h1 _;rw[h1]
 .injection h with h _;rw[<-h];exact⟨rfl,rfl⟩
theorem zu0{c:Cx}{q:List UInt8}{n:Nat}{hl:Bool}{m:Mb}{s:St}{a:Nat}{y:Mb×St}{a1:Nat}(h:zbO c q n hl m s a= .ok y a1)(hm:m.dl=0)(hs:1<=s.q/\s.q<=31):y.2.q=s.q+y.1.dl/\1<=y.2.q/\y.2.q<=31:=by
 unfold zbO at h;split at h
 .obtain⟨m',a2,h1,h⟩:=Rr.bind_okE h;obtain⟨d,a3,_,h⟩:=Rr.bind_okE h;split at h
  .rename_i hv;injection h with e _;rw[<-e];simp[vqB]at hv;exact⟨rfl,hv⟩
  .cases h
 .injection h with e _;rw[<-e];refine⟨?_,hs⟩;show s.q=s.q+m.dl;omega
theorem zoG{q:List UInt8}{n:Nat}:∀(r:Nat) (m:Mb) (a:Nat) {y:Mb} {a1:Nat},zc9 q n r m a= .ok y a1->y.dl=m.dl
 | 0,m,a,y,a1,h=>by
  unfold zc9 at h;split at h
  .injection h with h _;rw[h]
  .cases h
 | r+1,m,a,y,a1,h=>by unfold zc9 at h;obtain⟨b,a2,_,h⟩:=Rr.bind_okE h;exact(zoG r _ a2 h).trans (zr4 _ _ _)
theorem zhb{q:List UInt8}{n:Nat}:∀(r:Nat) (m:Mb) (s:St) (a:Nat) {y:Mb×St} {a1:Nat},zax q n r m s a= .ok y a1->y.1.dl=m.dl/\y.2.q=s.q
 | 0,m,s,a,y,a1,h=>by injection h with h _;rw[<-h];exact⟨rfl,rfl⟩
 | r+1,m,s,a,y,a1,h=>by
  unfold zax at h;split at h
  .split at h
   .obtain⟨l,a2,_,h⟩:=Rr.bind_okE h;split at h
    .cases h
    .obtain⟨e1,e2⟩:=zhb r _ s a2 h;exact⟨e1,e2⟩
   .obtain⟨d,a2,_,h⟩:=Rr.bind_okE h;obtain⟨l,a3,_,h⟩:=Rr.bind_okE h;obtain⟨e1,e2⟩:=zhb r _ _ a3 h;exact⟨e1,e2.trans (zx4 _ _ _)⟩
  .exact zhb r m s a h
theorem zuY{c:Cx}{q:List UInt8}{n a:Nat}{y:Mb×Bool}{a1:Nat}(h:zb0 c q n a= .ok y a1):y.1.dl=0:=by
 unfold zb0 at h;split at h
 .injection h with h _;rw[<-h];rfl
 .obtain⟨v,a2,_,h⟩:=Rr.bind_okE h;repeat' split at h
  all_goals first|(cases h;done)|(cases h;rfl)
theorem zsW{c:Cx}{q:List UInt8}{n a:Nat}{s:St}{y:Mb×St}{a1:Nat}(h:zdH c s q n a= .ok y a1):y.2.q=s.q+y.1.dl/\1<=y.2.q/\y.2.q<=31:=by
 unfold zdH at h;split at h
 .rename_i hv;rw[gB]at hv;have hsq:=(zlx hv.2).1;unfold mtk at h;obtain⟨x,a2,h1,h⟩:=Rr.bind_okE h;have e0:=zuY h1;unfold zj8 at h;obtain⟨y2,a3,h2,h⟩:=Rr.bind_okE h;obtain⟨y3,a4,h3,h⟩:=Rr.bind_okE h;obtain⟨m4,a5,h4,h⟩:=Rr.bind_okE h;obtain⟨y5,a6,h5,h⟩:=Rr.bind_okE h;obtain⟨p1,p2⟩:=zoD h2;obtain⟨c1,c2⟩:=zu0 h3 (p1.trans e0) (by rw[p2];exact hsq);obtain⟨l1,l2⟩:=zhb _ _ _ _ h5;have c3:m4.dl=y3.1.dl:=by
   unfold zbL at h4;split at h4
   .exact zoG _ _ _ h4
   .injection h4 with h4 _;rw[h4]
  injection h with h _;rw[<-h];have e1:(aft y5.2 y5.1.k).q=y3.2.q:=l2;dsimp only;rw[e1,l1,c3,c1,p2];rw[p2]at c1;omega
 .cases h
def zdZ:Int->List Mb->List Int
 | _,[]=>[]
 | q,m::r=>(q+m.dl)::zdZ (q+m.dl) r
theorem zh7{c:Cx}{q:List UInt8}{n:Nat}:∀(r:Nat) (s:St) (a:Nat) {z:List Mb×St} {a1:Nat},slL c q n r s a= .ok z a1->z.1.length=r/\(∀ x∈zdZ s.q z.1,1<=x/\x<=31)
 | 0,s,a,z,a1,h=>by
  injection h with h _;rw[<-h];exact⟨rfl,λx hx=>by cases hx⟩
 | r+1,s,a,z,a1,h=>by
  unfold slL at h;obtain⟨y,a2,h1,h⟩:=Rr.bind_okE h;obtain⟨w,a3,h2,h⟩:=Rr.bind_okE h;injection h with h _;rw[<-h];obtain⟨e1,e2⟩:=zsW h1;obtain⟨l1,l2⟩:=zh7 r y.2 a2 h2;refine⟨by simp[l1],λx hx=> ?_⟩;simp only[zdZ]at hx;rw[<-e1]at hx;rcases gM.1 hx with rfl|hx
  .exact e2
  .exact l2 x hx
theorem zrP{c:Cx}{q:List UInt8}{n:Nat}:∀(r:Nat) (s:St) (a:Nat) {z:List Mb×St} {a1:Nat},slL c q n r s a= .ok z a1->a<=n->∀ x∈z.1,x.lv.length=384
 | 0,s,a,z,a1,h,_=>by
  injection h with h _;rw[<-h];exact λx hx=>by cases hx
 | r+1,s,a,z,a1,h,ha=>by
  unfold slL at h;obtain⟨y,a2,h1,h⟩:=Rr.bind_okE h;obtain⟨w,a3,h2,h⟩:=Rr.bind_okE h;injection h with h _;rw[<-h];obtain⟨e1,e2⟩:=znR h1 ha;intro x hx;rcases gM.1 hx with rfl|hx
  .exact e2
  .exact zrP r y.2 a2 h2 e1 x hx
theorem zsm{s:Sq}{p:Pi}:0<=zaq s p/\zaq s p<=4:=by
 unfold zaq;split
 .rename_i hv;have:=zaz hv;split
  .have:=wQ (a:=s.h) (b:=16) om;omega
  .have:=wQ (a:=s.h) (b:=32) om;omega
 .omega
theorem zvw(p:Pi)(n:Nat):∀ x∈pic p,Scoped n x:=λx hx=>by
 simp only[pic,gM,gL,uA]at hx;rcases hx with rfl|rfl|rfl|rfl|rfl|rfl
 .exact .int _ _
 .exact .int _ _
 .exact .int _ _
 .exact .bool _
 .exact .bool _
 .exact .bool _
theorem zrt{q:List UInt8}{n:Nat}{pr:Int}{most a:Nat}{x:Int}{a1:Nat}(h:tkD q n pr most a= .ok x a1):win x most=true:=by unfold tkD at h;obtain⟨d,a2,_,h⟩:=Rr.bind_okE h;grind
theorem zgk{c:Cx}{q:List UInt8}{n:Nat}{m:Mb}{s:St}{d k a:Nat}{y:Mb×St}{a1:Nat}(h:zc1 c q n m s d k a= .ok y a1):∃ p x z:Int,(p=0\/p=1)/\vrg x z=true/\y.1=zaE (if(m.fp||fcx c)=true then zec m d k p else m) d k x z:=by
 unfold zc1 at h;obtain⟨m',a2,h1,h⟩:=Rr.bind_okE h;obtain⟨x,a3,h2,h⟩:=Rr.bind_okE h;obtain⟨z,a4,h3,h⟩:=Rr.bind_okE h;injection h with h _;have w1:=zrt h2;have w2:=zrt h3;have hv:vrg x z=true:=by simp_all[vrg,win]
 split at h1
 .rename_i hc;obtain⟨b,a5,_,h1⟩:=Rr.bind_okE h1;injection h1 with h1 _;exact⟨(b.toNat:Int),x,z,by cases b<;>simp,hv,by rw[<-h,gD hc,h1]⟩
 .rename_i hc;injection h1 with h1 _;exact⟨0,x,z,.inl rfl,hv,by rw[<-h,gC hc,h1]⟩
def bmP(ua ub fp:Bool)(va vb vc vd ve vf vg vh sa sb sc sd:Int):Mb:=⟨2,ua,ub,fp,false,va,vb,vc,vd,ve,vf,vg,vh,sa,sb,sc,sd,0,false,false,false,false,false,false,zl384⟩
theorem zuO:vrg 0 0=true:=by decide
theorem zpC(c:Cx)(fp:Bool):zbT c fp false 0 0 0 0 0 0=true:=by rfl
theorem zdm{c:Cx}{fp:Bool}{a b d e p q:Int}(h1:vrg a b=true)(h2:vrg d e=true)(hp:p=0\/p=1)(hq:q=0\/q=1)(h3:fp=true\/(d=0/\e=0/\q=0))(h4:fp=true\/fcx c=true\/p=0):zbT c fp true a b d e p q=true:=by simp_all[zbT,uP,gB,wV]
theorem dr0{c:Cx}{q:List UInt8}{n:Nat}{ua ub fp:Bool}{s:St}{a:Nat}{y:Mb×St}{a1:Nat}(h:zdY c q n (bmP ua ub fp 0 0 0 0 0 0 0 0 0 0 0 0) s 0 a= .ok y a1):∃ va vb vc vd sa sb:Int,y.1=bmP ua ub fp va vb vc vd 0 0 0 0 sa sb 0 0/\zbT c fp ua va vb vc vd sa sb=true:=by
 unfold zdY at h;rw[show usd (bmP ua ub fp 0 0 0 0 0 0 0 0 0 0 0 0) 0=ua from rfl,show nvM (bmP ua ub fp 0 0 0 0 0 0 0 0 0 0 0 0)=if fp then 2 else 1 from rfl]at h;cases ua with
 | false=>
  grind[zpC]
 | true=>
  rw[gD rfl]at h;cases fp with
  | false=>
   rw[gC sp,zaS]at h;obtain⟨x,a2,h1,h⟩:=Rr.bind_okE h;rw[zaS]at h;injection h with h _;obtain⟨p,u,v,hp,hv,he⟩:=zgk h1;rw[show(bmP true ub false 0 0 0 0 0 0 0 0 0 0 0 0).fp=false from rfl,dR]at he;have hy:y.1=x.1:=by rw[<-h]
   cases hf:fcx c with
   | true=>
    rw[hf,gD rfl]at he;exact⟨u,v,0,0,p,0,by rw[hy,he];rfl,zdm hv zuO hp (.inl rfl) (.inr ⟨rfl,rfl,rfl⟩) (.inr (.inl hf))⟩
   | false=>
    rw[hf,gC sp]at he;exact⟨u,v,0,0,0,0,by rw[hy,he];rfl,zdm hv zuO (.inl rfl) (.inl rfl) (.inr ⟨rfl,rfl,rfl⟩) (.inr (.inr rfl))⟩
  | true=>rw[gD rfl,zaS]at h;obtain⟨x,a2,h1,h⟩:=Rr.bind_okE h;rw[zaS]at h;obtain⟨x2,a3,h2,h⟩:=Rr.bind_okE h;rw[zaS]at h;injection h with h _;obtain⟨p,u,v,hp,hv,he⟩:=zgk h1;rw[show(bmP true ub true 0 0 0 0 0 0 0 0 0 0 0 0).fp=true from rfl,dO,gD rfl]at he;have he':x.1=bmP true ub true u v 0 0 0 0 0 0 p 0 0 0:=he;obtain⟨p2,u2,v2,hp2,hv2,he2⟩:=zgk h2;rw[he']at he2;rw[show(bmP true ub true u v 0 0 0 0 0 0 p 0 0 0).fp=true from rfl,dO,gD rfl]at he2;exact⟨u,v,u2,v2,p,p2,by rw[show y.1=x2.1 by rw[<-h],he2];rfl,zdm hv hv2 hp hp2 (.inl rfl) (.inl rfl)⟩
theorem dr1{c:Cx}{q:List UInt8}{n:Nat}{ua ub fp:Bool}{va vb vc vd sa sb:Int}{s:St}{a:Nat}{y:Mb×St}{a1:Nat}(h:zdY c q n (bmP ua ub fp va vb vc vd 0 0 0 0 sa sb 0 0) s 1 a= .ok y a1):∃ ve vf vg vh sc sd:Int,y.1=bmP ua ub fp va vb vc vd ve vf vg vh sa sb sc sd/\zbT c fp ub ve vf vg vh sc sd=true:=by
 unfold zdY at h;rw[show usd (bmP ua ub fp va vb vc vd 0 0 0 0 sa sb 0 0) 1=ub from rfl,show nvM (bmP ua ub fp va vb vc vd 0 0 0 0 sa sb 0 0)=if fp then 2 else 1 from rfl]at h;cases ub with
 | false=>
  grind[zpC]
 | true=>
  rw[gD rfl]at h;cases fp with
  | false=>
   rw[gC sp,zaS]at h;obtain⟨x,a2,h1,h⟩:=Rr.bind_okE h;rw[zaS]at h;injection h with h _;obtain⟨p,u,v,hp,hv,he⟩:=zgk h1;rw[show(bmP ua true false va vb vc vd 0 0 0 0 sa sb 0 0).fp=false from rfl,dR]at he;have hy:y.1=x.1:=by rw[<-h]
   cases hf:fcx c with
   | true=>
    rw[hf,gD rfl]at he;exact⟨u,v,0,0,p,0,by rw[hy,he];rfl,zdm hv zuO hp (.inl rfl) (.inr ⟨rfl,rfl,rfl⟩) (.inr (.inl hf))⟩
   | false=>
    rw[hf,gC sp]at he;exact⟨u,v,0,0,0,0,by rw[hy,he];rfl,zdm hv zuO (.inl rfl) (.inl rfl) (.inr ⟨rfl,rfl,rfl⟩) (.inr (.inr rfl))⟩
  | true=>rw[gD rfl,zaS]at h;obtain⟨x,a2,h1,h⟩:=Rr.bind_okE h;rw[zaS]at h;obtain⟨x2,a3,h2,h⟩:=Rr.bind_okE h;rw[zaS]at h;injection h with h _;obtain⟨p,u,v,hp,hv,he⟩:=zgk h1;rw[show(bmP ua true true va vb vc vd 0 0 0 0 sa sb 0 0).fp=true from rfl,dO,gD rfl]at he;have he':x.1=bmP ua true true va vb vc vd u v 0 0 sa sb p 0:=he;obtain⟨p2,u2,v2,hp2,hv2,he2⟩:=zgk h2;rw[he']at he2;rw[show(bmP ua true true va vb vc vd u v 0 0 sa sb p 0).fp=true from rfl,dO,gD rfl]at he2;exact⟨u,v,u2,v2,p,p2,by rw[show y.1=x2.1 by rw[<-h],he2];rfl,zdm hv hv2 hp hp2 (.inl rfl) (.inl rfl)⟩
theorem pr_f{c:Cx}{q:List UInt8}{n:Nat}{ua ub:Bool}{s:St}{a:Nat}{y:Mb×St}{a1:Nat}(h:zbr c q n (bmP ua ub false 0 0 0 0 0 0 0 0 0 0 0 0) s a= .ok y a1):∃(fp:Bool) (va vb vc vd ve vf vg vh sa sb sc sd:Int),y.1=bmP ua ub fp va vb vc vd ve vf vg vh sa sb sc sd/\(fp=true->bcx c=true)/\zbT c fp ua va vb vc vd sa sb=true/\zbT c fp ub ve vf vg vh sc sd=true:=by
 unfold zbr at h;rw[gD (show(bmP ua ub false 0 0 0 0 0 0 0 0 0 0 0 0).k=2 from rfl)]at h;obtain⟨m',a2,h1,h⟩:=Rr.bind_okE h;obtain⟨fp,hm,hfp⟩:∃ fp,m'=bmP ua ub fp 0 0 0 0 0 0 0 0 0 0 0 0/\(fp=true->bcx c=true):=by
  split at h1
  .rename_i hc;obtain⟨b,a3,_,h1⟩:=Rr.bind_okE h1;injection h1 with h1 _;exact⟨b,h1.symm,λ_=>hc⟩
  simp_all
 subst hm;rw[zbs]at h;obtain⟨x,a3,h2,h⟩:=Rr.bind_okE h;rw[zbs]at h;obtain⟨x2,a4,h3,h⟩:=Rr.bind_okE h;rw[zbs]at h;injection h with h _;obtain⟨va,vb,vc,vd,sa,sb,e1,d1⟩:=dr0 h2;rw[e1]at h3;obtain⟨ve,vf,vg,vh,sc,sd,e2,d2⟩:=dr1 h3;grind
theorem zjA(l:List Int)(i j:Nat)(w:Int):ze (l.set i w) j=if i=j/\i<l.length then w else ze l j:=by grind[ze]
theorem zwI{q:List UInt8}{n:Nat}:∀(f p a:Nat) (l:List Int) {l':List Int} {a':Nat},tkB q n f p a l= .ok l' a'->(∀ i,win (ze l i) 4095=true)->l'.length=l.length/\∀ i,win (ze l' i) 4095=true
 | 0,p,a,l,l',a',h,hl=>by simp[tkB]at h
 | f+1,p,a,l,l',a',h,hl=>by
  simp only[tkB]at h;obtain⟨v,a1,_,h⟩:=Rr.bind_okE h;split at h
  .simp_all
  split at h
  .cases h
  obtain⟨w,a2,_,h⟩:=Rr.bind_okE h;split at h
  .cases h
  split at h
  .cases h
  rename_i hw;have hw':win w 4095=true:=by simp_all
  obtain⟨e1,e2⟩:=zwI f _ _ _ h (λi=>by
   rw[zjA];split
   .exact hw'
   .exact hl i)
  simp_all
theorem zzo(i:Nat):win (ze z64 i) 4095=true:=by unfold z64 ze;rw[uH,sD];split<;>decide
theorem zry{q:List UInt8}{n fr a:Nat}{l:List Int}{a1:Nat}(h:zda q n fr a= .ok l a1):l.length=64/\∀ i,win (ze l i) 4095=true:=by unfold zda at h;obtain⟨e1,e2⟩:=zwI _ _ _ _ h zzo;exact⟨e1.trans (by simp[z64]),e2⟩
theorem zlT(m:Mb)(k:Nat)(l:List Int)(hk:k<6)(hl:l.length=64)(hm:m.lv.length=384)(i:Nat):ze (zaF m k l).lv i=if k * 64<=i/\i<k * 64+64 then ze l (i - k * 64)else ze m.lv i:=by grind[zaF,ze,List.append_assoc,List.getElem?_append_left,List.getElem?_append_right]
theorem zg8{lv:List Int}(hl:lv.length=384){n:Nat}(hn:n<6):zbk lv n=true↔∀ j,j<64->ze lv (n * 64+j)=0:=by
 constructor
 .exact λh j hj=>zq3 h hj
 .intro h;unfold zbk;rw[wH];apply dD
  .simp;omega
  intro i h1 h2;have hi:i<64:=by simp_all
  have:=h i hi;rw[<-zol lv n i hi]at this;grind[ze,qA]
theorem zuJ{l:List Int}(hl:l.length=64):l=z64↔∀ j,j<64->ze l j=0:=by
 constructor
 .grind[z64,ze]
 .intro h;apply dD
  .simp[hl,z64]
  intro i h1 h2;have:=h i om;grind[ze,qA,z64]
def SameL(m m':Mb):Prop:=∃ l,m'={ m with lv:=l }
theorem SameL.refl(m:Mb):SameL m m:=⟨m.lv,rfl⟩
theorem SameL.trans{a b c:Mb}(h:SameL a b)(k:SameL b c):SameL a c:=by obtain⟨l,rfl⟩:=h;obtain⟨l',rfl⟩:=k;exact⟨l',rfl⟩
theorem SameL.set(m:Mb)(n:Nat)(l:List Int):SameL m (zaF m n l):=⟨_,rfl⟩
theorem SameL.cdl{m m':Mb}(h:SameL m m'):Sc.cdl m'=Sc.cdl m/\m'.k=m.k:=by obtain⟨l,rfl⟩:=h;exact⟨rfl,rfl⟩
theorem ztc{q:List UInt8}{n:Nat}:∀(r:Nat) (m:Mb) (s:St) (a:Nat) {y:Mb×St} {a1:Nat},zax q n r m s a= .ok y a1->r<=6->m.lv.length=384->(∀ i,win (ze m.lv i) 4095=true)->
  SameL m y.1/\y.1.lv.length=384/\(∀ i,win (ze y.1.lv i) 4095=true)/\(m.k=2->(∀ j,6 - r<=j->j<6->zbk m.lv j=true)->∀ j,j<6->zbk y.1.lv j=if 6 - r<=j then !zN (cdl m) j else zbk m.lv j)
 | 0,m,s,a,y,a1,h,hr,hl,hw=>by
  rw[zax]at h;injection h with h _;rw[<-h];exact⟨.refl _,hl,hw,λ_ _ j hj=>by rw[gC om]⟩
 | r+1,m,s,a,y,a1,h,hr,hl,hw=>by
  rw[zax]at h;split at h
  .rename_i hfl;split at h
   .rename_i hk;obtain⟨l,a2,h1,h⟩:=Rr.bind_okE h;obtain⟨e1,e2⟩:=zry h1;split at h
    .cases h
    rename_i hz;have hz':¬ ∀ j,j<64->ze l j=0:=λhh=>hz ((zuJ e1).2 hh);have at1:=zlT m (5 - r) l om e1 hl;obtain⟨g1,g2,g3,g4⟩:=ztc r _ _ _ h om (zU m (5 - r) l om e1 hl) (λi=>by
     rw[at1];split
     .exact e2 _
     .exact hw i)
    have hs:=SameL.set m (5 - r) l;have sl:=zU m (5 - r) l om e1 hl;have key:∀ j,j<6->j≠5 - r->zbk (zaF m (5 - r) l).lv j=zbk m.lv j:=λj hj hne=>by rw[gJ,zg8 sl hj,zg8 hl hj];grind
    have key0:zbk (zaF m (5 - r) l).lv (5 - r)=false:=by rw[sX];intro hh;apply hz';intro i hi;have:=(zg8 sl om).1 hh i hi;simp_all
    refine⟨hs.trans g1,g2,g3,λhk2 hzj j hj=> ?_⟩;have:=g4 (hs.cdl.2.trans hk2) (λj hj1 hj2=>by rw[key j hj2 om];exact hzj j om hj2) j hj;rw[this,hs.cdl.1];grind
   .rename_i hk;obtain⟨d,a2,h1,h⟩:=Rr.bind_okE h;obtain⟨l,a3,h2,h⟩:=Rr.bind_okE h;obtain⟨e1,e2⟩:=zry h2;have hd:win d 4095=true:=zrt h1;have at1:=zlT m (5 - r) (l.set 0 d) om (by simpa using e1) hl;obtain⟨g1,g2,g3,_⟩:=ztc r _ _ _ h om (zU m (5 - r) _ om (by simpa using e1) hl) (λi=>by
     rw[at1];split
     .rw[zjA];split
      .exact hd
      .exact e2 _
     .exact hw i)
    exact⟨(SameL.set m (5 - r) _).trans g1,g2,g3,λhk2=>absurd hk2 hk⟩
  .rename_i hfl;obtain⟨g1,g2,g3,g4⟩:=ztc r _ _ _ h om hl hw;grind
theorem zw6{q:List UInt8}{n:Nat}{m:Mb}(hf:∀ j,zN (cdl m) j=false):∀(r:Nat) (s:St) (a:Nat),zax q n r m s a= .ok (m,s) a
 | 0,s,a=>by rw[zax]
 | r+1,s,a=>by rw[zax,hf,gC sp,zw6 hf r]
def SameC(m m':Mb):Prop:=∃ c0 c1 c2 c3 c4 c5:Bool,m'={ m with ca:=c0,cb:=c1,cc:=c2,cd:=c3,ce:=c4,cf:=c5 }
theorem SameC.refl(m:Mb):SameC m m:=⟨m.ca,m.cb,m.cc,m.cd,m.ce,m.cf,rfl⟩
theorem SameC.set(m:Mb)(n:Nat)(b:Bool):SameC m (zcf m n b):=by
 unfold zcf;split
 .exact⟨b,m.cb,m.cc,m.cd,m.ce,m.cf,rfl⟩
 split
 .exact⟨m.ca,b,m.cc,m.cd,m.ce,m.cf,rfl⟩
 split
 .exact⟨m.ca,m.cb,b,m.cd,m.ce,m.cf,rfl⟩
 split
 .exact⟨m.ca,m.cb,m.cc,b,m.ce,m.cf,rfl⟩
 split
 .exact⟨m.ca,m.cb,m.cc,m.cd,b,m.cf,rfl⟩
 .exact⟨m.ca,m.cb,m.cc,m.cd,m.ce,b,rfl⟩
theorem SameC.trans{a b c:Mb}(h:SameC a b)(k:SameC b c):SameC a c:=by obtain⟨c0,c1,c2,c3,c4,c5,rfl⟩:=h;obtain⟨d0,d1,d2,d3,d4,d5,rfl⟩:=k;exact⟨d0,d1,d2,d3,d4,d5,rfl⟩
theorem zAu{q:List UInt8}{n:Nat}:∀(r:Nat) (m:Mb) (a:Nat) {y:Mb} {a1:Nat},zc9 q n r m a= .ok y a1->SameC m y/\zg7 y=true
 | 0,m,a,y,a1,h=>by
  rw[zc9]at h;split at h
  .rename_i hc;injection h with h _;rw[<-h];exact⟨.refl _,hc⟩
  .cases h
 | r+1,m,a,y,a1,h=>by rw[zc9]at h;obtain⟨b,a2,_,h⟩:=Rr.bind_okE h;obtain⟨h1,h2⟩:=zAu r _ _ h;exact⟨(SameC.set m (5 - r) b).trans h1,h2⟩
theorem zy1{c:Cx}{q:List UInt8}{n:Nat}{hl:Bool}{m:Mb}{s:St}{a:Nat}{y:Mb×St}{a1:Nat}(h:zbO c q n hl m s a= .ok y a1)(hs:1<=s.q/\s.q<=31)(hfd:m.fd=false)(hdl:m.dl=0):
  ∃(fd:Bool) (dl:Int),y.1={ m with fd:=fd,dl:=dl }/\(hl=true->(fd=true->bcx c=true)/\win dl 30=true)/\(hl=false->fd=false/\dl=0):=by
 unfold zbO at h;cases hl with
 | false=>
  rw[gC sp]at h;injection h with h _;refine⟨false,0,?_,(λe=>by cases e),λ_=>⟨rfl,rfl⟩⟩;rw[<-h];obtain⟨k,ua,ub,fp,fd,va,vb,vc,vd,ve,vf,vg,vh,sa,sb,sc,sd,dl,ca,cb,cc,cd,ce,cf,lv⟩:=m;simp_all
 | true=>
  rw[gD rfl]at h;obtain⟨m',a2,h1,h⟩:=Rr.bind_okE h;obtain⟨d,a3,_,h⟩:=Rr.bind_okE h;split at h
  .rename_i hq;injection h with h _;have hd:win d 30=true:=by simp_all[vqB,win,gB];omega
   obtain⟨fd,hm,hb⟩:∃ fd,m'={ m with fd:=fd }/\(fd=true->bcx c=true):=by
    split at h1
    .rename_i hc;obtain⟨b,a4,_,h1⟩:=Rr.bind_okE h1;grind
    .injection h1 with h1 _;refine⟨false,?_,λe=>by cases e⟩;rw[<-h1,<-hfd]
   grind
  .cases h
theorem zyX{q:List UInt8}{n:Nat}{hl:Bool}{m:Mb}{a:Nat}{y:Mb}{a1:Nat}(h:zbL q n hl m a= .ok y a1):(m.k=2->hl=true->SameC m y/\zg7 y=true)/\(m.k≠2->y=m)/\(hl=false->y=m):=by
 unfold zbL at h;split at h
 .rename_i hc;rw[gB,gY]at hc;grind[zAu]
 simp_all
theorem kd_f{c:Cx}{q:List UInt8}{n a:Nat}{x:Mb×Bool}{a1:Nat}(ht:1<=c.t/\c.t<=3)(h:zb0 c q n a= .ok x a1):
  x=(inMb,true)\/(x=(zMb,false)/\c.t≠1)\/∃ ua ub,x.1=bmP ua ub false 0 0 0 0 0 0 0 0 0 0 0 0/\c.t≠1/\(c.t=2->ua=true/\ub=false)/\(ua=true\/ub=true):=by
 unfold zb0 at h;split at h
 .injection h with h _;exact .inl h.symm
 rename_i h1;obtain⟨v,a2,_,h⟩:=Rr.bind_okE h;obtain⟨L,hL⟩:∃ L,(if c.t=2 then 3 else 7)=L:=⟨_,rfl⟩;rw[hL]at h;split at h
 .cases h
 rename_i h2;split at h
 .injection h with h _;exact .inl h.symm
 rename_i h3;subst hL;split at h
 .injection h with h _;exact .inr (.inl ⟨h.symm,h1⟩)
 rename_i h4;injection h with h _;refine .inr (.inr ⟨decide (v<=2)||decide (5<=v),decide (3<=v),by rw[<-h];rfl,h1,λh5=> ?_,?_⟩)
 .rw[gD h5]at h2 h3;constructor
  .simp;omega
  .simp;omega
 .by_cases h6:v<=2
  .left;simp[h6]
  .right;simp;omega
theorem zzl(i:Nat):win (ze zl384 i) 4095=true:=by unfold zl384 ze;rw[uH,sD];split<;>decide
theorem zl_z(j:Nat)(hj:j<6):zbk zl384 j=true:=(zg8 zW hj).2 λi hi=>by grind[zl384,ze]
theorem zzq{c:Cx}(h:vcx c=true):1<=c.t/\c.t<=3:=by simp_all[vcx,gB]
theorem zyk{c:Cx}{q:List UInt8}{n a:Nat}{s:St}{y:Mb×St}{a1:Nat}(hv:vcx c=true)(hs:1<=s.q/\s.q<=31)(h:mtk c s q n a= .ok y a1):fmS c y.1=true:=by
 unfold mtk at h;obtain⟨x,a2,hk,h⟩:=Rr.bind_okE h;unfold zj8 at h;obtain⟨y1,a3,hp,h⟩:=Rr.bind_okE h;obtain⟨y2,a4,hc,h⟩:=Rr.bind_okE h;obtain⟨m3,a5,ho,h⟩:=Rr.bind_okE h;obtain⟨y4,a6,hl,h⟩:=Rr.bind_okE h;injection h with h _;have hy:y.1=y4.1:=by rw[<-h]
 rw[hy];clear h hy;have hs2:1<=y1.2.q/\y1.2.q<=31:=by rw[(zoD hp).2];exact hs
 unfold fmS;rw[hv,uP];rcases kd_f (zzq hv) hk with rfl|⟨rfl,h1⟩|⟨ua,ub,e1,h1,h2,h3⟩
 .have hp':y1.1=inMb:=by unfold zbr at hp;rw[gC (by decide)]at hp;injection hp with hp _;rw[<-hp]
  rw[hp']at hc;obtain⟨fd,dl,e2,g1,_⟩:=zy1 hc hs2 rfl rfl;obtain⟨g2,g3⟩:=g1 rfl;have e3:m3=y2.1:=(zyX ho).2.1 (by rw[e2];show(1:Int)≠2;decide);rw[e3,e2]at hl;obtain⟨⟨l,e4⟩,w1,w2,_⟩:=ztc 6 _ _ _ hl om zW zzl;have hw:lvr l=true:=zhs λi _=>by simp_all
  rw[e4];have z1:zI { inMb with fd:=fd,dl:=dl,lv:=l }=true:=rfl;have z2:aC { inMb with fd:=fd,dl:=dl,lv:=l }=true:=rfl;have z3:fch c { inMb with fd:=fd,dl:=dl,lv:=l }=true:=by unfold fch;rw[gD (by rfl)];grind
  simp_all[zI,inMb,aC,fch,lvr,z3]
 .have hp':y1.1=zMb:=by unfold zbr at hp;rw[gC (by decide)]at hp;injection hp with hp _;rw[<-hp]
  rw[hp']at hc;obtain⟨fd,dl,e2,_,g1⟩:=zy1 hc hs2 rfl rfl;obtain⟨rfl,rfl⟩:=g1 rfl;have e2':y2.1=zMb:=e2;have e3:m3=y2.1:=(zyX ho).2.2 rfl;rw[e3,e2']at hl;have hz:∀ j,zN (cdl zMb) j=false:=λj=>by grind[zN,cdl,zMb]
  rw[zw6 hz]at hl;injection hl with hl _;rw[<-hl,gD (show zMb.k=0 from rfl),gW h1];rfl
 .rw[e1]at hp;obtain⟨fp,va,vb,vc,vd,ve,vf,vg,vh,sa,sb,sc,sd,e2,g1,g2,g3⟩:=pr_f hp;rw[e2]at hc;obtain⟨fd,dl,e3,g4,g5⟩:=zy1 hc hs2 rfl rfl;have hu:zgj c (bmP ua ub fp va vb vc vd ve vf vg vh sa sb sc sd)=false:=by show((decide (c.t=2)&& !(ua&& !ub))||(!ua&& !ub))=false;grind
  obtain⟨c0,c1,c2,c3,c4,c5,e4,hany⟩:∃ c0 c1 c2 c3 c4 c5:Bool,m3={ y2.1 with ca:=c0,cb:=c1,cc:=c2,cd:=c3,ce:=c4,cf:=c5 }/\zg7 m3=x.2:=by
   obtain⟨q1,q2,q3⟩:=zyX ho;have hk2:y2.1.k=2:=by rw[e3];rfl
   cases hx:x.2 with
   | true=>
    obtain⟨⟨c0,c1,c2,c3,c4,c5,e⟩,q5⟩:=q1 hk2 hx;simp_all
   | false=>
    have e:=q3 hx;refine⟨false,false,false,false,false,false,?_,?_⟩
    .rw[e,e3];rfl
    .rw[e,e3];rfl
  rw[e3]at e4;rw[e4]at hl hany;obtain⟨⟨l,e5⟩,w1,w2,w3⟩:=ztc 6 _ _ _ hl om zW zzl;have w4:=w3 rfl (λj _ hj=>zl_z j hj);have hw:lvr l=true:=zhs λi _=>by simp_all
  have hf:fbl [c0,c1,c2,c3,c4,c5] l=true:=zkV λj hj=>by have:=w4 j hj;rw[gD om,e5]at this;have t2:zbk l j= !zN [c0,c1,c2,c3,c4,c5] j:=this;simp_all
  rw[e5];have hany':(c0||(c1||(c2||(c3||(c4||c5)))))=x.2:=hany;show(!(decide (c.t=1)||zgj c (bmP ua ub fp va vb vc vd ve vf vg vh sa sb sc sd))&&(!((fp&& !(bcx c))||(fd&& !(bcx c)))&&(zbT c fp ua va vb vc vd sa sb&&(zbT c fp ub ve vf vg vh sc sd&&(lvr l&&(fbl [c0,c1,c2,c3,c4,c5] l&&(if(false||(c0||(c1||(c2||(c3||(c4||c5))))))=true then win dl 30 else !fd&&decide (dl=0))))))))=true;rw[hu,gW h1,g2,g3,hw,hf,dR,hany'];grind[bcx]
end Go.Proofs.YtleejngibkbjnaaGreatDoor.Sc
