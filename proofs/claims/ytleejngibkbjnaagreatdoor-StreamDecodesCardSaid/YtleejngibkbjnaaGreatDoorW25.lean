/-
  Parts of the proof. No condition.
-/
import Derived.Test.YtleejngibkbjnaaGreatDoorW23
import Derived.Test.YtleejngibkbjnaaGreatDoorW24
open Go.Proofs.YtleejngibkbjnaaGreatDoor.Pm.PV renaming int → O
open Go.IntKind renaming i64 → J
open List renaming take → qA, replicate → qB
open Nat renaming reduceAdd → qD
open Go.Proofs.Tryz
set_option linter.all false
set_option maxRecDepth 100000
set_option maxHeartbeats 32000000
namespace Go.Proofs.YtleejngibkbjnaaGreatDoor.Sc
open Pm Ty Go.RowKit
theorem zrQ{c:Cx}{q:List UInt8}{n:Nat}(hv:vcx c=true):∀(r:Nat) (s:St) (a:Nat) {z:List Mb×St} {a1:Nat},slL c q n r s a= .ok z a1->∀ m∈z.1,fmS c m=true
 | 0,s,a,z,a1,h=>by
  grind[slL]
 | r+1,s,a,z,a1,h=>by
  rw[slL]at h;obtain⟨y,a2,h1,h⟩:=Rr.bind_okE h;obtain⟨z2,a3,h2,h⟩:=Rr.bind_okE h;injection h with h _;rw[<-h];intro m hm;rcases gM.1 hm with rfl|hm
  .unfold zdH at h1;split at h1
   .rename_i hc;rw[gB]at hc;exact zyk hv (zlx hc.2).1 h1
   .cases h1
  .exact zrQ hv r _ _ h2 m hm
theorem zh6{s:Sq}{p:Pi}{b:Bool}{t:Int}{q:List UInt8}{v:Nat}{l:List Mb}{a1:Nat}(hv:vcx (cxP s p b)=true)(h:slT s p b t q= .ok (v,l) a1):l.length=wmb s/\∀ m∈l,fmS (cxP s p b) m=true:=by
 unfold slT at h;split at h
 .split at h
  .cases h
  split at h
  .cases h
  split at h
  .cases h
  obtain⟨z,a2,h1,h⟩:=Rr.bind_okE h;grind[zh7,zrQ]
 .cases h
def rwF(s:Sq)(p:Pi)(b:Bool)(pa fu fi:Fm)(A k:Nat):List Mb->Int->Nat->Fm->Fm
 | [],_,_,g=>g
 | m::r,q,X,g=>rwF s p b pa fu fi A k r (q+m.dl) (X+1) (smF A X k g (zdC (cxP s p b) s.ia s.ie p.al (q+m.dl) m pa fu fi (X:Int) (k:Int)).1)
def znq(s:Sq)(p:Pi)(b:Bool)(us:List (Int×List UInt8))(pa fu fi:Fm)(A k:Nat)(g:Fm):Fm×Bool:=
 match fnu us k with
 | none=>(g,false)
 | some u=>match slT s p b u.1 u.2 with
  | .ok x _=>(rwF s p b pa fu fi A k x.2 (x.1:Int) 0 g,true)
  | .er _ _=>(g,false)
def zbb(s:Sq)(p:Pi)(b:Bool)(us:List (Int×List UInt8))(pa fu fi:Fm)(A:Nat)(g:Fm):Nat->Fm×List Bool
 | 0=>(g,[])
 | k+1=>((znq s p b us pa fu fi A k (zbb s p b us pa fu fi A g k).1).1,(zbb s p b us pa fu fi A g k).2++[(znq s p b us pa fu fi A k (zbb s p b us pa fu fi A g k).1).2])
theorem zeH(s:Sq)(p:Pi)(b:Bool)(us:List (Int×List UInt8))(pa fu fi:Fm)(A:Nat)(g:Fm):∀ k,(zbb s p b us pa fu fi A g k).2.length=k
 | 0=>rfl
 | k+1=>by rw[zbb,gP,zeH s p b us pa fu fi A g k];rfl
theorem zhB{s:Sq}{p:Pi}{pa fu fi:Fm}{b:Bool}{A B:Nat}(h:DecOk s p pa fu fi b A B):Gok A B (zcH s p pa):=by
 have ew:=h.w;have eg:=h.g;unfold zcH;by_cases hz:pa.w=0
 .rw[gD hz,ew,eg,show(((16 * A:Nat):Int) / 16).toNat=A from om,show(((16 * B:Nat):Int) / 16).toNat=B from om];exact⟨rfl,rfl,h.ra,h.rb,by simp[flt],by simp[flt],by simp[flt]⟩
 .rw[gC hz];obtain⟨g1,g2,g3⟩:=zeO h.mp hz;obtain⟨v1,v2⟩:=zkN h.hv g1 g2 g3;by_cases h3:p.st=3
  .rw[gD h3];exact zlo h.ra h.rb g1 om (by have:=h.h3 h3;omega)
  .rw[gC h3];have:=(h.h4 h3).1;have:=h.st;exact zjS h.ra h.rb v1 om om om
theorem zhi{s:Sq}{p:Pi}{pa fu fi:Fm}{b:Bool}{A B k:Nat}(h:DecOk s p pa fu fi b A B)(hk:k<B):∀(l:List Mb) (q:Int) (X:Nat) (g:Fm),Gok A B g->X+l.length<=A->(∀ m∈l,fmS (cxP s p b) m=true)->(∀ x∈zdZ q l,1<=x/\x<=31)->Gok A B (rwF s p b pa fu fi A k l q X g)
 | [],_,_,g,hg,_,_,_=>hg
 | m::r,q,X,g,hg,hX,hf,hq=>by rw[rwF];rw[gZ]at hX;have e:=zhl h (hf m (uK ..)) p.al (hq (q+m.dl) (uK ..)) (X:=X) (Y:=k) om hk;exact zhi h hk r _ _ _ (znn hg (zhm e) om hk) om (λm hm=>hf m (uM _ hm)) (λx hx=>hq x (uM _ hx))
theorem zlt{s:Sq}{p:Pi}{pa fu fi:Fm}{b:Bool}{A B:Nat}(h:DecOk s p pa fu fi b A B):wmb s=A:=by unfold wmb;rw[h.w,zF _ _ om];omega
theorem zsd{s:Sq}{p:Pi}{pa fu fi:Fm}{b:Bool}{A B k:Nat}(h:DecOk s p pa fu fi b A B)(hk:k<B)(us:List (Int×List UInt8)){g:Fm}(hg:Gok A B g):Gok A B (znq s p b us pa fu fi A k g).1:=by
 unfold znq;split
 .exact hg
 .split
  .rename_i x a1 hs;obtain⟨v,l⟩:=x;obtain⟨e1,e2⟩:=zh6 h.vc hs;grind[zhi,zlt,zlR]
  .exact hg
theorem zdd{s:Sq}{p:Pi}{pa fu fi:Fm}{b:Bool}{A B:Nat}(h:DecOk s p pa fu fi b A B)(us:List (Int×List UInt8)){g:Fm}(hg:Gok A B g):∀ k,k<=B->Gok A B (zbb s p b us pa fu fi A g k).1
 | 0,_=>hg
 | k+1,hk=>zsd h om us (zdd h us hg k om)
def flR(B:Nat)(l:List Bool):List PV:=(l++qB (B - l.length) false).map PV.bool
theorem zpu{B:Nat}{l:List Bool}(h:l.length<=B):(flR B l).length=B:=by simp[flR];omega
theorem zv2{B k:Nat}{l:List Bool}(h:l.length=k)(hk:k<B):(flR B l).set k (.bool true)=flR B (l++[true]):=by unfold flR;subst h;rw[show B - l.length=(B - (l++[true]).length)+1 by simp;omega,wT,rQ,rQ,rQ,uC _ _ sp];simp
theorem zyO{B k:Nat}{l:List Bool}(h:l.length=k)(hk:k<B):flR B l=flR B (l++[false]):=by unfold flR;subst h;rw[show B - l.length=(B - (l++[false]).length)+1 by simp;omega,wT];simp
theorem zAm(B:Nat):flR B []=qB B (.bool false):=by simp[flR]
theorem zv3{B:Nat}{l:List Bool}(h:l.length=B):flR B l=l.map PV.bool:=by simp[flR,h]
theorem ztL(B:Nat)(l:List Bool)(n:Nat):∀ x∈flR B l,Scoped n x:=λx hx=>by obtain⟨y,_,rfl⟩:=vW.1 hx;exact .bool _
def dgH(H:za)(s:Sq)(p:Pi)(U:List (List UInt8))(us:List (Int×List UInt8))(pa fu fi g:Fm)(r:Nat)(l:List Bool):za:=H++[⟨37,0,sqc s⟩,⟨45,0,cdc p U us⟩,⟨85,0,fmc pa++(fmc fu++fmc fi)⟩,⟨29,0,[O J 0,O J 0,.slice [] 0 true,.slice [] 0 true,.slice [] 0 true]⟩,⟨29,0,fmc g⟩,⟨4,0,flR r l⟩,mpB r]
theorem zpm(H:za)(s:Sq)(p:Pi)(U:List (List UInt8))(us:List (Int×List UInt8))(pa fu fi g:Fm)(r:Nat)(l:List Bool)(h:HSc H):HSc (dgH H s p U us pa fu fi g r l):=zfi (λb hb x hx=>by
 simp only[gM,gL,uA]at hb;rcases hb with rfl|rfl|rfl|rfl|rfl|rfl|rfl
 .exact zaf _ _ x hx
 .exact zgN _ _ _ _ x hx
 .rcases uF.1 hx with hx|hx
  .exact zan _ _ _ _ _ _ _ _ _ _ _ _ x hx
  .rcases uF.1 hx with hx|hx
   .exact zan _ _ _ _ _ _ _ _ _ _ _ _ x hx
   .exact zan _ _ _ _ _ _ _ _ _ _ _ _ x hx
 .exact zan _ 0 0 [] [] [] _ _ _ _ _ _ x hx
 .exact zan _ _ _ _ _ _ _ _ _ _ _ _ x hx
 .exact ztL _ _ _ x hx
 .exact zoT _ _ x hx) h
def za9(s:Sq)(p:Pi)(us:List (Int×List UInt8))(pa fu fi:Fm)(b:Bool):(Fm×List Bool)×Int:=if zg6 s p pa fu fi b=0 then(zbb s p b us pa fu fi (s.w / 16).toNat (zcH s p pa) (zaq s p).toNat,0)else((f0,[]),zg6 s p pa fu fi b)
def zbF(r:(Fm×List Bool)×Int):PV:=if r.2=0 then .tup [.agg (fmc r.1.1),.slice (r.1.2.map PV.bool) r.1.2.length false,O J 0]else .tup [.agg [O J 0,O J 0,.slice [] 0 true,.slice [] 0 true,.slice [] 0 true],.slice [] 0 true,O J r.2]
theorem zgJ(s:Sq)(p:Pi)(U:List (List UInt8))(us:List (Int×List UInt8))(pa fu fi:Fm)(b:Bool)(hs:SqOk s)(hu:us.length<=1000000)(hul:∀ u∈us,zgD u.1/\u.2.length<=100000000)(H:za):
  CallOk prog 22 [.agg (sqc s),.agg (cdc p U us),.agg (fmc pa++(fmc fu++fmc fi)),.bool b] H (zbF (za9 s p us pa fu fi b)) H:=by
 have h1:=zab s;have h2:=zaj s hs;have h3:=zbu s hs;have c1:=zex p U us;have c2:=ze0 p U us;have c3:=zui p U us;have c4:=zuh p U us;have c5:(cdc p U us)[5]? =some (.bool p.al):=rfl;have rl:(fmc pa++(fmc fu++fmc fi)).length=15:=rfl;have rc:(fmc pa++(fmc fu++fmc fi)).all PV.cell=true:=rfl;have rt:qA 15 (fmc pa++(fmc fu++fmc fi))=fmc pa++(fmc fu++fmc fi):=rfl;have r0:qA 5 (fmc pa++(fmc fu++fmc fi))=fmc pa:=rfl;have F5:∀ g:Fm,(fmc g).all PV.cell=true:=λ_=>rfl;have F7:∀ g:Fm,(fmc g).length=5:=λ_=>rfl;have F8:∀ g:Fm,qA 5 (fmc g)=fmc g:=λ_=>rfl;have F9:∀ g:Fm,List.drop 5 (fmc g)=[]:=λ_=>rfl;have z9:List.drop 5 [PV.int .i64 0,PV.int .i64 0,PV.slice [] 0 true,PV.slice [] 0 true,PV.slice [] 0 true]=[]:=rfl;have de:=λK=>zyV s p pa fu fi b hs K;have h0:zg6 s p pa fu fi b=0->∃ A B,DecOk s p pa fu fi b A B:=DecOk.of;unfold za9;generalize zg6 s p pa fu fi b=e at de h0 |-;refine .go func22 ntmps22 results22 ?_;refine .g (nq2 h1 (nq2 c1 rc)) ?_;(repeat refine .seq ?_);refine .scope ?_;refine .m (nq2 h2 (nq2 h3 (nq2 c2 (nq2 c3 (nq2 rl rt))))) de ?_;refine .e ?_;refine .c (λh=> ?_) (λh=> ?_)
 .have he:e≠0:=by simpa using h
  rw[gC he];unfold zbF;rw[gC (by exact he)];refine .e (.v (.tup [.agg [O J 0,O J 0,.slice [] 0 true,.slice [] 0 true,.slice [] 0 true],.slice [] 0 true,O J e]) ?_);exact .base (.id (.tup (asc λx hx=>by
   simp only[gM,gL,uA]at hx;rcases hx with rfl|rfl|rfl
   .exact zn (zan _ 0 0 [] [] [] _ _ _ _ _ _)
   .exact zk (λx hx=>by cases hx)
   .exact .int _ _)))
 have he:e=0:=by simpa using h
 subst he;rw[gD rfl];obtain⟨A,B,hd⟩:=h0 rfl;refine .skip ?_;have co:=λK=>zyW s p pa hs hd.hv hd.mp K;have hcg:=zhB hd;have ro:=λK=>zl4 s p K hs;have er:=hd.r;have eA:(s.w / 16).toNat=A:=by rw[hd.w];omega
 rw[er]at ro |-;rw[eA,uV];generalize zcH s p pa=g0 at co hcg |-;have hB:=hd.rb;have rb:=λK=>zyd B K om;have zb:(qB B [PV.bool false]).flatten=flR B []:=by simp_all[zAm,clear,wT]
 refine .m (nq2 h2 (nq2 h3 (nq2 c2 (nq2 c3 (nq2 rl (nq2 r0 (nq2 F5 F7))))))) co ?_;refine .e (.us ?_);refine .m (nq2 h2 (nq2 h3 (nq2 c2 c3))) ro ?_;refine .k rb ?_;rw[zb];refine .seq ?_;refine .label ?_;refine .e (.l ?_);suffices hl1:∀ k:Nat,k<=B->PL prog _ _ [(3,.bool b),(4,.ptr H.length 0 0),(5,.ptr (H.length+1) 0 0),(6,.ptr (H.length+2) 0 0),(8,.ptr (H.length+3) 0 0),(12,.ptr (H.length+4) 0 0),(14,.msl (H.length+5) 0 0 B 1 true),(15,.mp (H.length+6) 0),(59,O J (B:Int)),(60,O J (k:Int))] (dgH H s p U us pa fu fi (zbb s p b us pa fu fi A g0 k).1 B (zbb s p b us pa fu fi A g0 k).2) _ by exact .a (hl1 0 om)
 clear ro rb co de;refine cnt B (λk hk ih=> ?_) ?_
 .have ct:=zco hk;have hgk:=zdd hd us hcg k om;have hlk:=zeH s p b us pa fu fi A g0 k;rw[zbb]at ih;generalize zbb s p b us pa fu fi A g0 k=R at ih hgk hlk |-;obtain⟨g,fl⟩:=R;simp only at ih hgk hlk |-;have hlB:=zpu (B:=B) (l:=fl) om;have cu:=fun(K:za) (hK:K[H.length+6]? =some (mpB B))=>zua p U us (H.length+6) B k K hK hk hu;have vb:∀(g':Fm) (fl':List Bool) (K:za),Vs { N:=134,H0:=H } [(3,.bool b),(4,.ptr H.length 0 0),(5,.ptr (H.length+1) 0 0),(6,.ptr (H.length+2) 0 0),(8,.ptr (H.length+3) 0 0),(12,.ptr (H.length+4) 0 0),(14,.msl (H.length+5) 0 0 B 1 true),(15,.mp (H.length+6) 0),(59,O J (B:Int)),(60,O J ((k+1:Nat):Int))] (dgH H s p U us pa fu fi g' B fl'++K) [(3,.bool b),(4,.ptr H.length 0 0),(5,.ptr (H.length+1) 0 0),(6,.ptr (H.length+2) 0 0),(8,.ptr (H.length+3) 0 0),(12,.ptr (H.length+4) 0 0),(14,.msl (H.length+5) 0 0 B 1 true),(15,.mp (H.length+6) 0),(59,O J (B:Int)),(60,O J ((k+1:Nat):Int))] (dgH H s p U us pa fu fi g' B fl'):=λg' fl' K=>by
   refine Vs.trim (zpm H s p U us pa fu fi g' B fl') (by simp[dgH]) rfl ?_;have hl:(dgH H s p U us pa fu fi g' B fl').length=H.length+7:=by simp[dgH]
   rw[hl];exact⟨.id (.bool _),.id (.ptr om),.id (.ptr om),.id (.ptr om),.id (.ptr om),.id (.ptr om),.id (.msl om),.id (.mp om),.id (.int _ _),.id (.int _ _),trivial⟩
  refine .round (.g ct ?_);refine .t (.skip ?_);refine .b (.e ?_);refine .x λK hK=> ?_;simp(maxSteps:=9^9) (disch:=omega) only[go_sem,dgH,c2,c4];refine VCx.call (cu _ (apn _ _ 6)) rfl ?_;unfold znq at ih;have hno:dgH H s p U us pa fu fi g B (fl++[false])=dgH H s p U us pa fu fi g B fl:=by unfold dgH;rw[<-zyO hlk hk]
  cases hfn:fnu us k with
  | none=>
   rw[hfn]at ih;simp only at ih;simp(maxSteps:=9^9) (disch:=omega) only[go_sem,cuV,dgH,c2,c4];refine hK _ _ ?_;clear hK K;refine .e (.t ?_);refine .exit (.e ?_);exact .a (PL.view (vb g fl [⟨49,0,[O J 0,.slice [] 0 true]⟩]) (by rw[<-hno];exact ih)) rfl (by unfold dgH;simp)
  | some u=>
   obtain⟨t,q⟩:=u;obtain⟨hmem,_⟩:=zpp hfn;have hq:=hul _ hmem;have so:=λK=>zrO s p b t q false K hs hq.1 hq.2;rw[hfn]at ih;dsimp only at ih;simp(maxSteps:=9^9) (disch:=omega) only[go_sem,cuV,dgH,c2,c4];refine hK _ _ ?_;clear hK K;refine .e (.us ?_);refine .x λK hK=> ?_;simp(maxSteps:=9^9) (disch:=omega) only[go_sem,h2,h3,c2,c3];refine VCx.call (so _) rfl ?_;cases hsl:slT s p b t q with
   | er e a1=>
    rw[hsl]at ih;dsimp only at ih;have d0:((e:Int)+1 !=0)=true:=by simp;omega
    simp(maxSteps:=9^9) (disch:=omega) only[go_sem,rvT,ecd];refine hK _ _ ?_;clear hK K;refine .g d0 ?_;refine .t (.exit ?_);refine .e ?_;exact .a (PL.view (vb g fl [⟨49,0,[O J t,.slice (bs q) q.length false]⟩]) (by rw[<-hno];exact ih)) rfl (by unfold dgH;simp)
   | ok x a1=>
    obtain⟨v,l⟩:=x;rw[hsl]at ih;dsimp only at ih;have hsb:=zlR hsl;obtain⟨e1,e2⟩:=zh6 hd.vc hsl;rw[zlt hd]at e1;have lm:=zac mbc 408 l (λx hx=>zu x (hsb.2.1 x hx));have hll:=hsb.1;clear so cu;simp(maxSteps:=9^9) (disch:=omega) only[go_sem,rvT];refine hK _ _ ?_;clear hK K;refine .e (.us ?_);refine .g (nq2 F5 (nq2 F7 F8)) ?_;refine .e (.l ?_);obtain⟨G',hG'⟩:∃ G',rwF s p b pa fu fi A k l (v:Int) 0 g=G':=⟨_,rfl⟩;rw[hG']at ih;suffices hl2:∀(j:Nat) (q1:Int) (gg:Fm),j<=l.length->Gok A B gg->(∀ x∈zdZ q1 (l.drop j),1<=x/\x<=31)->rwF s p b pa fu fi A k (l.drop j) q1 j gg=G'->PL prog _ _ [(3,.bool b),(4,.ptr H.length 0 0),(5,.ptr (H.length+1) 0 0),(6,.ptr (H.length+2) 0 0),(8,.ptr (H.length+3) 0 0),(12,.ptr (H.length+4) 0 0),(14,.msl (H.length+5) 0 0 B 1 true),(15,.mp (H.length+6) 0),(16,O J (k:Int)),(19,O J q1),(22,.ptr (H.length+8) 0 0),(59,O J (B:Int)),(60,O J (k:Int)),(85,.slice (l.flatMap mbc) l.length false),(86,O J (l.length:Int)),(87,O J (j:Int))] (dgH H s p U us pa fu fi g B fl++[⟨49,0,[O J t,.slice (bs q) q.length false]⟩,⟨29,0,fmc gg⟩]) _ by exact .a (hl2 0 v g om hgk hsb.2.2 hG') rfl (by unfold dgH;simp)
    intro j q1 gg hj hgg hbd hG;induction hd2:l.length - j using Nat.strongRecOn generalizing j q1 gg with
    | _ d2 ih2=>
     refine .round (.e ?_);refine .c (λh=> ?_) (λh=> ?_)
     .have hjl:j<l.length:=by grind
      have ha:=zbE mbc 408 l j hjl (λx hx=>zu x (hsb.2.1 x hx));have hfm:=e2 _ (uY hjl);have hlv:=hsb.2.1 _ (uY hjl);rw[vY hjl]at hbd hG;simp only[zdZ,rwF]at hbd hG;generalize l[j]=m at *;have hb1:=hbd (q1+m.dl) (uK ..);have hjA:j<A:=om;have re0:=zhl hd hfm p.al hb1 hjA hk;have r16:=zhm re0;have re:=λK=>zsf (cxP s p b) s p.al (q1+m.dl) m pa fu fi (j:Int) (k:Int) K hlv hs.ia hs.ie;have cx:=λK=>zt9 s p b K hs;generalize zdC (cxP s p b) s.ia s.ie p.al (q1+m.dl) m pa fu fi (j:Int) (k:Int)=T at re re0 r16 hG;obtain⟨gm,em⟩:=T;simp only at re re0 r16 hG;subst re0;have sm:=λK=>zr2 A B j k gg gm hgg r16 hjA hk K;have hsm:=znn hgg r16 hjA hk;generalize smF A j k gg gm=g2 at sm hsm hG;have m1:=zu m hlv;have m2:=zcC m;have m3:qA 408 (mbc m)=mbc m:=gH om;have m17:(mbc m)[17]? =some (O J m.dl):=rfl;have cl4:(cxc (cxP s p b)).length=4:=rfl;refine .skip (.b ?_);refine .g (nq2 ha (nq2 lm (nq2 m1 m2))) ?_;refine .g (nq2 m1 m17) ?_;refine .view (Vs.place 29) ?_;refine .y [H.length+10] [(25,[0])] [(25,0)] [101,111] λK hK=> ?_;simp(maxSteps:=9^9) (disch:=omega) only[go_sem,zy,dgH,h2,h3,c2,c3];refine VCj.read (λ_ _=>cx _) rfl ?_;simp(maxSteps:=9^9) (disch:=omega) only[go_sem,zy,dgH,h2,h3,c2,c3,c5,rl,rt,m1,m3];refine VCj.read (λ_ _=>re _) rfl ?_;refine sqx (nq2 F5 F7) ?_;refine hK _ _ ?_;clear hK K;refine .e (.us ?_);refine .m (nq2 F5 (nq2 F7 (nq2 F8 F9))) sm ?_;refine .e (.us ?_);refine .e ?_;have hnx:=ih2 (l.length - (j+1)) om (j+1) (q1+m.dl) g2 om hsm (λx hx=>hbd x (uM _ hx)) hG rfl;refine .view (Vs.trim (F1:=[(3,.bool b),(4,.ptr H.length 0 0),(5,.ptr (H.length+1) 0 0),(6,.ptr (H.length+2) 0 0),(8,.ptr (H.length+3) 0 0),(12,.ptr (H.length+4) 0 0),(14,.msl (H.length+5) 0 0 B 1 true),(15,.mp (H.length+6) 0),(16,O J (k:Int)),(19,O J (q1+m.dl)),(22,.ptr (H.length+8) 0 0),(59,O J (B:Int)),(60,O J (k:Int)),(85,.slice (l.flatMap mbc) l.length false),(86,O J (l.length:Int)),(87,O J ((j+1:Nat):Int))]) (H1:=dgH H s p U us pa fu fi g B fl++[⟨49,0,[O J t,.slice (bs q) q.length false]⟩,⟨29,0,fmc g2⟩]) (K:=[⟨142,0,mbc m⟩,⟨29,1,fmc gm⟩]) (λhh=>zfi (λb' hb' x hx=> ?_) (zpm H s p U us pa fu fi g B fl hh)) (by simp[dgH]) (by unfold dgH;simp) ?_) hnx
      .simp only[gM,gL,uA]at hb';rcases hb' with rfl|rfl
       .simp only[gM,gL,uA]at hx;rcases hx with rfl|rfl
        .exact .int _ _
        .exact zk (zh _ _)
       .exact zan _ _ _ _ _ _ _ _ _ _ _ _ x hx
      .have hl:(dgH H s p U us pa fu fi g B fl++[⟨49,0,[O J t,.slice (bs q) q.length false]⟩,⟨29,0,fmc g2⟩]:za).length=H.length+9:=by simp[dgH]
       rw[hl];exact⟨.id (.bool _),.id (.ptr om),.id (.ptr om),.id (.ptr om),.id (.ptr om),.id (.ptr om),.id (.msl om),.id (.mp om),.id (.int _ _),.id (.int _ _),.id (.ptr om),.id (.int _ _),.id (.int _ _),.id (zk (zfg _ _)),.id (.int _ _),.id (.int _ _),trivial⟩
     .have hjl:j=l.length:=by grind
      subst hjl;rw[wW]at hG;simp only[rwF]at hG;subst hG;refine .exit (.f (λK k=>by simp(maxSteps:=9^9) (disch:=omega) only[go_sem,dgH,F5,F7,F8,F9,hlB,zv2 hlk hk];exact k) ?_);refine .e ?_;exact .a (PL.view (vb gg (fl++[true]) [⟨49,0,[O J t,.slice (bs q) q.length false]⟩,⟨29,0,fmc gg⟩]) ih) rfl (by unfold dgH;simp)
 have hlen:=zeH s p b us pa fu fi A g0 B;generalize zbb s p b us pa fu fi A g0 B=R at hlen |-;obtain⟨g,fl⟩:=R;simp only at hlen |-;refine .round (.f (λK k=>by simp(maxSteps:=9^9) (disch:=omega) only[go_sem,zcP B];exact k) ?_);refine .u (.exit ?_);refine .g (nq2 @dgH.eq_1 (nq2 F5 (nq2 F7 (nq2 F8 z9)))) ?_;unfold zbF;rw[gD rfl];refine .w (.tup [.agg (fmc g),.msl (H.length+5) 0 0 B 1 true,O J 0]) (nq2 F7 F8) ?_;rw[<-zv3 hlen,hlen];refine .base (Fz.tupC ⟨.id (zn (zan _ _ _ _ _ _ _ _ _ _ _ _)),Fz.mslC (e:=4) (xs:=flR B fl) om (apn _ _ 5) (by rw[zpu om];omega) (FzC.refl (ztL _ _ _)),.id (.int _ _),trivial⟩)
def rwp(h A k:Nat):List (List UInt8)->Nat->List UInt8->List UInt8
 | [],_,p=>p
 | z::r,X,p=>rwp h A k r (X+1) (pst p (h * k * (h * A)+h * X) (h * A) h z h)
theorem zkS{h A B k X L:Nat}(hp:L=h * A * (h * B))(hX:X<A)(hk:k<B):∀ j,j<h->h * k * (h * A)+h * X+j * (h * A)+h<=L:=by
 have e1:h * X+h<=h * A:=by rw[<-mT];exact sN _ hX
 have e2:h * k+h<=h * B:=by rw[<-mT];exact sN _ hk
 exact rows_in hp e1 e2
theorem zkk{h A B k:Nat}(hk:k<B):∀(l:List (List UInt8)) (X:Nat) (p:List UInt8),p.length=h * A * (h * B)->X+l.length<=A->(∀ z∈l,z.length=h * h)->(rwp h A k l X p).length=p.length
 | [],_,_,_,_,_=>rfl
 | z::r,X,p,hp,hX,hz=>by rw[gZ]at hX;have e:=zad (p:=p) (a:=h * k * (h * A)+h * X) (s:=h * A) (hz z (uK ..)) h (gV _) (zkS hp om hk);rw[rwp,zkk hk r (X+1) _ (e.trans hp) om (λz hm=>hz z (uM _ hm)),e]
theorem zl3{p p' z:List UInt8}{a s h:Nat}(hz:z.length=h * h)(hs:h<=s)(hf:∀ k,k<h->a+k * s+h<=p.length)(hl:p.length=p'.length){i:Nat}(hi:byt p i=byt p' i\/∃ j,j<h/\a+j * s<=i/\i<a+j * s+h):byt (pst p a s h z h) i=byt (pst p' a s h z h) i:=by
 by_cases hh:∃ j,j<h/\a+j * s<=i/\i<a+j * s+h
 .obtain⟨j,h1,h2,h3⟩:=hh;obtain⟨c,rfl⟩:∃ c,i=a+j * s+c:=⟨i - (a+j * s),om⟩;rw[zeK hz hs h (gV _) hf j c h1 om,zeK hz hs h (gV _) (by rw[<-hl];exact hf) j c h1 om]
 .have hn:∀ j,j<h->¬(a+j * s<=i/\i<a+j * s+h):=λj h1 h2=>hh ⟨j,h1,h2⟩;rw[zdg hz h (gV _) hf hn,zdg hz h (gV _) (by rw[<-hl];exact hf) hn];simp_all
theorem zr9{h A B k:Nat}(hk:k<B):∀(l:List (List UInt8)) (X:Nat) (p p':List UInt8),p.length=h * A * (h * B)->p'.length=p.length->X+l.length<=A->(∀ z∈l,z.length=h * h)->∀ i,
  (byt p i=byt p' i\/∃ r c,r<h/\h * X<=c/\c<h * (X+l.length)/\i=h * k * (h * A)+r * (h * A)+c)->byt (rwp h A k l X p) i=byt (rwp h A k l X p') i
 | [],X,p,p',_,_,_,_,i,hi=>by
  rcases hi with h1|⟨r,c,_,h2,h3,_⟩
  .exact h1
  grind
 | z::l,X,p,p',hp,hp',hX,hz,i,hi=>by
  rw[gZ]at hX hi;have hA:h<=h * A:=sA _ om;have hf:=zkS hp (show X<A from om) hk;have e:=zad (p:=p) (a:=h * k * (h * A)+h * X) (s:=h * A) (hz z (uK ..)) h (gV _) hf;have e':=zad (p:=p') (a:=h * k * (h * A)+h * X) (s:=h * A) (hz z (uK ..)) h (gV _) (by rw[hp'];exact hf);rw[rwp,rwp];refine zr9 hk l (X+1) _ _ (e.trans hp) (by rw[e,e',hp']) om (λz hm=>hz z (uM _ hm)) i ?_;rcases hi with h1|⟨r,c,hr,h2,h3,h4⟩
  .grind[zl3]
  .by_cases hc:c<h * (X+1)
   .refine .inl (zl3 (hz z (uK ..)) hA hf hp'.symm (.inr ⟨r,hr,?_,?_⟩));all_goals grind
   .exact .inr ⟨r,c,hr,om,by rw[show X+1+l.length=X+(l.length+1)from om];exact h3,h4⟩
theorem zlW{h A B k:Nat}(hk:k<B){i:Nat}(hi:i<h * k * (h * A)\/h * k * (h * A)+h * (h * A)<=i):∀(l:List (List UInt8)) (X:Nat) (p:List UInt8),p.length=h * A * (h * B)->X+l.length<=A->(∀ z∈l,z.length=h * h)->byt (rwp h A k l X p) i=byt p i
 | [],_,_,_,_,_=>rfl
 | z::l,X,p,hp,hX,hz=>by
  rw[gZ]at hX;have hf:=zkS hp (show X<A from om) hk;have e:=zad (p:=p) (a:=h * k * (h * A)+h * X) (s:=h * A) (hz z (uK ..)) h (gV _) hf;rw[rwp,zlW hk hi l (X+1) _ (e.trans hp) om (λz hm=>hz z (uM _ hm))];refine zdg (hz z (uK ..)) h (gV _) hf λj hj hh=> ?_;have e1:h * X+h<=h * A:=by rw[<-mT];exact sN _ om
  have e2:j * (h * A)+h * A<=h * (h * A):=by rw[<-wD];exact gT _ hj
  omega
def srp(n k:Nat)(p z:List UInt8):List UInt8:=spl p (k * n) ((z.drop (k * n)).take n)
theorem zhe{n k:Nat}{p z:List UInt8}(hl:z.length=p.length)(hk:k * n+n<=p.length):(srp n k p z).length=p.length:=zfy (by simp;omega)
theorem zxY{n k:Nat}{p z:List UInt8}(hl:z.length=p.length)(hk:k * n+n<=p.length)(i:Nat):byt (srp n k p z) i=if k * n<=i/\i<k * n+n then byt z i else byt p i:=by grind[srp,zgm,zbG,zcJ]
structure PInv(n k:Nat)(P R c:List UInt8):Prop where
 l:P.length=R.length
 a:∀ i,i<k * n->byt P i=byt R i
 b:∀ i,k * n<=i->byt P i=byt c i
theorem PInv.no{n k:Nat}{P R c:List UInt8}(h:PInv n k P R c)(hl:c.length=R.length)(hk:k * n+n<=R.length):PInv n (k+1) P (srp n k R c) c:=by
 refine⟨by rw[zhe hl hk,h.l],λi hi=> ?_,λi hi=>h.b i (by rw[wD]at hi;omega)⟩;rw[wD]at hi;rw[zxY hl hk];by_cases h1:k * n<=i
 .rw[gD ⟨h1,om⟩,h.b i h1]
 .rw[gC om,h.a i om]
theorem PInv.yes{h A B k:Nat}{P R c:List UInt8}(hk:k<B)(hA:0<A)(hv:PInv (h * (h * A)) k P R c)(hp:P.length=h * A * (h * B)){l:List (List UInt8)}(hl:l.length=A)(hz:∀ z∈l,z.length=h * h):PInv (h * (h * A)) (k+1) (rwp h A k l 0 P) (rwp h A k l 0 R) c:=by
 have e0:k * (h * (h * A))=h * k * (h * A):=by grind
 have hR:R.length=h * A * (h * B):=hv.l.symm.trans hp;refine⟨by rw[zkk hk l 0 P hp om hz,zkk hk l 0 R hR om hz,hv.l],λi hi=> ?_,λi hi=> ?_⟩
 .rw[wD,e0]at hi;refine zr9 hk l 0 P R hp hv.l.symm om hz i ?_;by_cases h1:i<k * (h * (h * A))
  .exact .inl (hv.a i h1)
  .rw[e0]at h1;have hW:0<h * A:=by rcases vS (h * A)with h2|h2;all_goals simp_all
   refine .inr ⟨(i - h * k * (h * A)) / (h * A),(i - h * k * (h * A))%(h * A),?_,om,?_,?_⟩
   .rw[Nat.div_lt_iff_lt_mul hW];omega
   .simp_all[wF,rC]
   grind[Nat.div_add_mod,Nat.mul_comm]
 .rw[wD,e0]at hi;rw[zlW hk (.inr om) l 0 P hp om hz];exact hv.b i (by rw[e0];omega)
def mcL(s:Sq)(p:Pi)(b:Bool)(pa fu fi:Fm)(k:Nat):List Mb->Int->Nat->List Fm
 | [],_,_=>[]
 | m::r,q,X=>(zdC (cxP s p b) s.ia s.ie p.al (q+m.dl) m pa fu fi (X:Int) (k:Int)).1::mcL s p b pa fu fi k r (q+m.dl) (X+1)
theorem zpa(s:Sq)(p:Pi)(b:Bool)(pa fu fi:Fm)(k:Nat):∀(l:List Mb) (q:Int) (X:Nat),(mcL s p b pa fu fi k l q X).length=l.length
 | [],_,_=>rfl
 | m::r,q,X=>by rw[mcL,gZ,gZ,zpa s p b pa fu fi k r]
theorem zsZ{s:Sq}{p:Pi}{pa fu fi:Fm}{b:Bool}{A B k:Nat}(h:DecOk s p pa fu fi b A B)(hk:k<B):∀(l:List Mb) (q:Int) (X:Nat),X+l.length<=A->(∀ m∈l,fmS (cxP s p b) m=true)->(∀ x∈zdZ q l,1<=x/\x<=31)->∀ f∈mcL s p b pa fu fi k l q X,F16 f
 | [],_,_,_,_,_,f,hf=>by cases hf
 | m::r,q,X,hX,hm,hq,f,hf=>by
  rw[gZ]at hX;rw[mcL]at hf;rcases gM.1 hf with rfl|hf
  .exact zhm (zhl h (hm m (uK ..)) p.al (hq (q+m.dl) (uK ..)) om hk)
  .exact zsZ h hk r _ (X+1) om (λm h'=>hm m (uM _ h')) (λx h'=>hq x (uM _ h')) f hf
theorem zsa(s:Sq)(p:Pi)(b:Bool)(pa fu fi:Fm)(A k:Nat):∀(l:List Mb) (q:Int) (X:Nat) (g:Fm),rwF s p b pa fu fi A k l q X g=⟨g.w,g.h,rwp 16 A k ((mcL s p b pa fu fi k l q X).map Fm.y) X g.y,rwp 8 A k ((mcL s p b pa fu fi k l q X).map Fm.u) X g.u,rwp 8 A k ((mcL s p b pa fu fi k l q X).map Fm.v) X g.v⟩
 | [],_,_,_=>rfl
 | m::r,q,X,g=>by rw[rwF,zsa s p b pa fu fi A k r];rfl
def srF(A k:Nat)(g f:Fm):Fm:=⟨g.w,g.h,srp (16 * (16 * A)) k g.y f.y,srp (8 * (8 * A)) k g.u f.u,srp (8 * (8 * A)) k g.v f.v⟩
def zqd(s:Sq)(p:Pi)(b:Bool)(us:List (Int×List UInt8))(pa fu fi:Fm)(A:Nat)(pw:Bool)(c:Fm)(k:Nat)(g:Fm):Fm×Bool:=
 match fnu us k with
 | none=>(if pw then srF A k g c else g,false)
 | some u=>match slT s p b u.1 u.2 with
  | .ok x _=>(rwF s p b pa fu fi A k x.2 (x.1:Int) 0 g,true)
  | .er _ _=>(if pw then srF A k g c else g,false)
def zaO(s:Sq)(p:Pi)(b:Bool)(us:List (Int×List UInt8))(pa fu fi:Fm)(A:Nat)(pw:Bool)(c g:Fm):Nat->Fm×List Bool
 | 0=>(g,[])
 | k+1=>((zqd s p b us pa fu fi A pw c k (zaO s p b us pa fu fi A pw c g k).1).1,(zaO s p b us pa fu fi A pw c g k).2++[(zqd s p b us pa fu fi A pw c k (zaO s p b us pa fu fi A pw c g k).1).2])
theorem zlY(s:Sq)(p:Pi)(b:Bool)(us:List (Int×List UInt8))(pa fu fi:Fm)(A:Nat)(c g:Fm):∀ k,zaO s p b us pa fu fi A false c g k=zbb s p b us pa fu fi A g k
 | 0=>rfl
 | k+1=>by
  have e:∀ g',zqd s p b us pa fu fi A false c k g'=znq s p b us pa fu fi A k g':=λg'=>by rfl
  rw[zaO,zbb,zlY s p b us pa fu fi A c g k,e]
structure FInv(A k:Nat)(P R c:Fm):Prop where
 w:P.w=R.w
 h:P.h=R.h
 y:PInv (16 * (16 * A)) k P.y R.y c.y
 u:PInv (8 * (8 * A)) k P.u R.u c.u
 v:PInv (8 * (8 * A)) k P.v R.v c.v
theorem FInv.no{A B k:Nat}{P R c:Fm}(h:FInv A k P R c)(hR:Gok A B R)(hc:Gok A B c)(hk:k<B):FInv A (k+1) P (srF A k R c) c:=by
 have e1:k * (16 * (16 * A))+16 * (16 * A)<=16 * A * (16 * B):=by have:(k+1) * (16 * (16 * A))<=B * (16 * (16 * A)):=gT _ hk;grind
 have e2:k * (8 * (8 * A))+8 * (8 * A)<=8 * A * (8 * B):=by grind
 exact⟨h.w,h.h,h.y.no (hc.ly.trans hR.ly.symm) (by rw[hR.ly];exact e1),h.u.no (hc.lu.trans hR.lu.symm) (by rw[hR.lu];exact e2),h.v.no (hc.lv.trans hR.lv.symm) (by rw[hR.lv];exact e2)⟩
theorem zhf{A B k:Nat}{R c:Fm}(hR:Gok A B R)(hc:Gok A B c)(hk:k<B):Gok A B (srF A k R c):=by
 have e1:k * (16 * (16 * A))+16 * (16 * A)<=16 * A * (16 * B):=by have:(k+1) * (16 * (16 * A))<=B * (16 * (16 * A)):=gT _ hk;grind
 have e2:k * (8 * (8 * A))+8 * (8 * A)<=8 * A * (8 * B):=by grind
 exact⟨hR.w,hR.h,hR.ra,hR.rb,(zhe (hc.ly.trans hR.ly.symm) (by rw[hR.ly];exact e1)).trans hR.ly,(zhe (hc.lu.trans hR.lu.symm) (by rw[hR.lu];exact e2)).trans hR.lu,(zhe (hc.lv.trans hR.lv.symm) (by rw[hR.lv];exact e2)).trans hR.lv⟩
theorem FInv.yes{s:Sq}{p:Pi}{pa fu fi:Fm}{b:Bool}{A B k:Nat}(hd:DecOk s p pa fu fi b A B){P R c:Fm}(h:FInv A k P R c)(hP:Gok A B P)(hk:k<B){l:List Mb}{q:Int}(hl:l.length=A)(hm:∀ m∈l,fmS (cxP s p b) m=true)(hq:∀ x∈zdZ q l,1<=x/\x<=31):FInv A (k+1) (rwF s p b pa fu fi A k l q 0 P) (rwF s p b pa fu fi A k l q 0 R) c:=by
 have h16:=zsZ hd hk l q 0 om hm hq;have hn:=zpa s p b pa fu fi k l q 0;rw[zsa,zsa];generalize mcL s p b pa fu fi k l q 0=M at h16 hn;have hA:=hP.ra.1;exact⟨h.w,h.h,
  h.y.yes hk hA hP.ly (by simp;omega) (λz hz=>by obtain⟨f,hf,rfl⟩:=vW.1 hz;exact(h16 f hf).ly),
  h.u.yes hk hA hP.lu (by simp;omega) (λz hz=>by obtain⟨f,hf,rfl⟩:=vW.1 hz;exact(h16 f hf).lu),
  h.v.yes hk hA hP.lv (by simp;omega) (λz hz=>by obtain⟨f,hf,rfl⟩:=vW.1 hz;exact(h16 f hf).lv)⟩
theorem FInv.end{A B:Nat}{P R c:Fm}(h:FInv A B P R c)(hP:Gok A B P):P=R:=by
 have e1:B * (16 * (16 * A))=16 * A * (16 * B):=by grind
 have e2:B * (8 * (8 * A))=8 * A * (8 * B):=by grind
 obtain⟨w,ht,y,u,v⟩:=P;obtain⟨w',ht',y',u',v'⟩:=R;have hy:y=y':=zdQ h.y.l λi hi=>h.y.a i (by rw[e1,<-hP.ly];exact hi);have hu:u=u':=zdQ h.u.l λi hi=>h.u.a i (by rw[e2,<-hP.lu];exact hi);have hv:v=v':=zdQ h.v.l λi hi=>h.v.a i (by rw[e2,<-hP.lv];exact hi);have hw:w=w':=h.w;have hh:ht=ht':=h.h;simp_all
theorem zqc{s:Sq}{p:Pi}{pa fu fi:Fm}{b:Bool}{A B:Nat}(hd:DecOk s p pa fu fi b A B)(us:List (Int×List UInt8)):zaO s p b us pa fu fi A (decide (pa.w≠0)) (zcH s p pa) (flt A B) B=zbb s p b us pa fu fi A (zcH s p pa) B:=by
 have hc:=zhB hd;have ew:=hd.w;have eg:=hd.g;by_cases hz:pa.w=0
 .simp_all[zcH,flt,eg,zlY]
 .rw[gX (by exact hz)];have hfl:Gok A B (flt A B):=⟨rfl,rfl,hd.ra,hd.rb,by simp[flt],by simp[flt],by simp[flt]⟩;have key:∀ k,k<=B->FInv A k (zbb s p b us pa fu fi A (zcH s p pa) k).1 (zaO s p b us pa fu fi A true (zcH s p pa) (flt A B) k).1 (zcH s p pa)/\Gok A B (zaO s p b us pa fu fi A true (zcH s p pa) (flt A B) k).1/\(zaO s p b us pa fu fi A true (zcH s p pa) (flt A B) k).2=(zbb s p b us pa fu fi A (zcH s p pa) k).2:=by
   intro k;induction k with
   | zero=>
    intro _;refine⟨⟨hc.w.trans hfl.w.symm,hc.h.trans hfl.h.symm,⟨hc.ly.trans hfl.ly.symm,λi hi=>by rw[vV]at hi;omega,λ_ _=>rfl⟩,⟨hc.lu.trans hfl.lu.symm,λi hi=>by rw[vV]at hi;omega,λ_ _=>rfl⟩,⟨hc.lv.trans hfl.lv.symm,λi hi=>by rw[vV]at hi;omega,λ_ _=>rfl⟩⟩,hfl,rfl⟩
   | succ k ih=>
    intro hk;obtain⟨h1,h2,h3⟩:=ih om;have hP:=zdd hd us hc k om;rw[zbb,zaO,h3];generalize (zbb s p b us pa fu fi A (zcH s p pa) k).1=P at h1 hP;generalize (zaO s p b us pa fu fi A true (zcH s p pa) (flt A B) k).1=R at h1 h2;unfold znq zqd;cases hf:fnu us k with
    | none=>exact⟨h1.no h2 hc om,zhf h2 hc om,rfl⟩
    | some u=>
     dsimp only;cases hs:slT s p b u.1 u.2 with
     | er e a=>exact⟨h1.no h2 hc om,zhf h2 hc om,rfl⟩
     | ok x a=>obtain⟨v,l⟩:=x;obtain⟨e1,e2⟩:=zh6 hd.vc hs;rw[zlt hd]at e1;have e3:=(zlR hs).2.2;exact⟨h1.yes hd hP om e1 e2 e3,zhi hd om l _ 0 _ h2 om e2 e3,rfl⟩
  obtain⟨h1,_,h3⟩:=key B (gV _);exact Prod.ext (h1.end (zdd hd us hc B (gV _))).symm h3
theorem zoN(p:List UInt8)(a:Nat):spl p a []=p:=by simp[spl]
theorem zrN{p z:List UInt8}{a:Nat}{x:UInt8}(h:a+z.length<p.length):(spl p a z).set (a+z.length) x=spl p a (z++[x]):=by
 have hl:(p.take a).length=a:=by simp;omega
 simp_all[spl,uC,uW,gV,vK,vY,rV,vT]
theorem zpZ{z:List UInt8}{k:Nat}{x:UInt8}(h:z[k]? =some x):z.take (k+1)=z.take k++[x]:=by rw[List.take_succ,h];rfl
theorem zok{z:List UInt8}{k:Nat}(h:k<z.length):byt z k=(z[k].toNat:Int):=by simp[byt,h]
theorem zju{p q:List UInt8}{n w:Nat}:∀ h:Nat,n+h * w<=p.length->n+h * w<=q.length->∀ m,h<=m->n+m * w<=q.length->pst p n w w (ctl q n w w m) h=spl p n ((q.drop n).take (h * w))
 | 0,_,_,_,_,_=>by rw[pst,vV,mH,zoN]
 | h+1,hp,hq,m,hm,hmq=>by
  rw[vE,wK]at hp hq;have hf:∀ k,k<m->n+k * w+w<=q.length:=λk hk=>by have:(k+1) * w<=m * w:=gT _ om;grind
  have hcl:=zau q n w w m hf;have hrow:=zaZ (w:=w) hcl (show h<m from om);have hfp:∀ k,k<h+1->n+k * w+w<=p.length:=λk hk=>by have:(k+1) * w<=(h+1) * w:=gT _ om;grind
  rw[pst,zju h om om m om hmq];have l1:((q.drop n).take (h * w)).length=h * w:=by simp;omega
  have l2:((q.drop n).take ((h+1) * w)).length=h * w+w:=by grind
  have l3:=zfy (p:=p) (z:=(q.drop n).take (h * w)) (a:=n) om;apply zdQ
  .simp_all[zfy]
  intro i hi;rw[zgm om,zgm om,zgm om,hrow,l1,l2];by_cases h1:n+h * w<=i/\i<n+h * w+w
  .obtain⟨c,rfl⟩:∃ c,i=n+h * w+c:=⟨i - (n+h * w),om⟩;rw[gD h1,gD om,uW,zbG om,zcJ,ziU q n w w m hf h c om om,zbG (by rw[vE,wK];omega),zcJ];grind
  .rw[gC h1];by_cases h2:n<=i/\i<n+h * w
   .rw[gD h2,gD om,zbG om,zbG (by rw[vE,wK];omega)]
   omega
theorem ziS(p q:List UInt8)(r e TW TX TY W X Y w hg:Nat)(g f:Bool)(H:za)(hr:H[r]? =some ⟨5,e,bs p⟩)(hw:w<=64)(hgb:hg<=64)(hp:p.length<=8192)(hq:q.length<=8192)(hX:X<=64/\Y<=64/\W<=64)(hT:TX<=64/\TY<=64/\TW<=64)
  (ht:∀ k,k<hg->TY * TW+TX+k * TW+w<=p.length) (hfit:∀ k,k<hg->Y * W+X+k * W+w<=q.length):
  CallOk prog 234 [.msl r e 0 p.length 1 g,O J (TW:Int),O J (TX:Int),O J (TY:Int),.slice (bs q) q.length f,O J (W:Int),O J (X:Int),O J (Y:Int),O J (w:Int),O J (hg:Int)] H (.tup []) (H.set r ⟨5,e,bs (pst p (TY * TW+TX) TW w (ctl q (Y * W+X) W w hg) hg)⟩):=by
 have hrl:=(gA.1 hr).1;have o1:=λB=>zsR hrl B;have o3:=λB C=>zsP (H:=H) (r:=r) B C;have hzl:=zau q (Y * W+X) W w hg hfit;have hzat:=ziU q (Y * W+X) W w hg hfit;obtain⟨z,hz⟩:∃ z,ctl q (Y * W+X) W w hg=z:=⟨_,rfl⟩;rw[hz]at hzl hzat |-;obtain⟨a,ha⟩:∃ a,TY * TW+TX=a:=⟨_,rfl⟩;rw[ha]at ht |-;refine .go func234 ntmps234 results234 ?_;refine .eq rfl (zfN hr).symm ?_;refine .e (.l ?_);suffices h1:∀ j:Nat,j<=hg->PL prog _ _ [(0,.msl r e 0 p.length 1 g),(1,O J (TW:Int)),(2,O J (TX:Int)),(3,O J (TY:Int)),(4,.slice (bs q) q.length f),(5,O J (W:Int)),(6,O J (X:Int)),(7,O J (Y:Int)),(8,O J (w:Int)),(9,O J (hg:Int)),(20,O J (j:Int))] (one H r ⟨5,e,bs (pst p a TW w z j)⟩) _ by exact .a (h1 0 om)
 refine cnt hg (λj hj ih=> ?_) ?_
 .have ct:=zco hj;have hpl:=zad (p:=p) (a:=a) (s:=TW) hzl j om λk hk=>ht k om;have hrow:=zaZ (w:=w) hzl hj;rw[pst]at ih;generalize pst p a TW w z j=P at *;refine .round (.g ct ?_);refine .t (.skip ?_);refine .b (.e ?_);refine .l ?_;suffices h2:∀ i:Nat,i<=w->PL prog _ _ [(0,.msl r e 0 p.length 1 g),(1,O J (TW:Int)),(2,O J (TX:Int)),(3,O J (TY:Int)),(4,.slice (bs q) q.length f),(5,O J (W:Int)),(6,O J (X:Int)),(7,O J (Y:Int)),(8,O J (w:Int)),(9,O J (hg:Int)),(20,O J (j:Int)),(21,O J (i:Int))] (one H r ⟨5,e,bs (spl P (a+j * TW) ((z.drop (j * w)).take i))⟩) _ by exact .a (h2 0 om) rfl (by rw[mH,zoN])
  refine cnt w (λi hi ih2=> ?_) ?_
  .have ct:=zco hi;have ft:=hfit j hj;have tt:=ht j hj;have b2:(j+1) * w<=hg * w:=gT _ om;rw[vE,wK]at b2;have hk:j * w+i<z.length:=om;have hb:=hzat j i hj hi;rw[zok hk,zok om]at hb;have hb:z[j * w+i]=q[Y * W+X+j * W+i]:=UInt8.toNat_inj.1 om;have hzi:(z.drop (j * w))[i]? =some q[Y * W+X+j * W+i]:=by grind
   rw[zpZ hzi]at ih2;have hti:((z.drop (j * w)).take i).length=i:=by grind
   have sn:=zrN (p:=P) (z:=(z.drop (j * w)).take i) (a:=a+j * TW) (x:=q[Y * W+X+j * W+i]) om;rw[hti]at sn;have sl:=zfy (p:=P) (z:=(z.drop (j * w)).take i) (a:=a+j * TW) om;rw[hpl]at sl;generalize spl P (a+j * TW) ((z.drop (j * w)).take i)=S at *;have fs:(bs S).set (a+j * TW+i) (.int .u8 (byt q (Y * W+X+j * W+i)))=bs (spl P (a+j * TW) ((z.drop (j * w)).take i++[q[Y * W+X+j * W+i]])):=by grind[zok,ziZ]
   have y0:(Y:Int)+(j:Int)=((Y+j:Nat):Int):=om;have e2:((Y+j:Nat):Int) * (W:Int)=((Y * W+j * W:Nat):Int):=by grind
   have e3:((Y * W+j * W:Nat):Int)+(X:Int)+(i:Int)=((Y * W+X+j * W+i:Nat):Int):=om;have y1:(TY:Int)+(j:Int)=((TY+j:Nat):Int):=om;have e4:((TY+j:Nat):Int) * (TW:Int)=((TY * TW+j * TW:Nat):Int):=by grind
   have e5:((TY * TW+j * TW:Nat):Int)+(TX:Int)+(i:Int)=((a+j * TW+i:Nat):Int):=om;have b3:TY * TW+j * TW<=8192:=om;have b4:Y * W+j * W<=8192:=om;refine .round (.g ct ?_);refine .t (.skip ?_);refine .b (.f (λK k=>by simp(disch:=omega) only[go_sem,o1,o3,y0,y1,e2,e3,e4,e5,zak,zd,sl,fs];exact k) ?_);refine .e ?_;exact .a ih2
  .refine .round (.f (λK k=>by simp(disch:=omega) only[go_sem,zcP w];exact k) ?_);refine .u (.exit ?_);refine .e ?_;exact .a ih
 refine .round (.f (λK k=>by simp(disch:=omega) only[go_sem,zcP hg];exact k) ?_);refine .u (.exit ?_);refine sI _ (uI rfl ?_);exact .now
theorem ziu(W1 x1 y1 W2 x2 y2 w1 h1:Nat)(ht hf:Int)(y u v p q r:List UInt8)(K0:za)(hw:w1<=32)(hh:h1<=32)(b1:x1<=32/\y1<=32/\W1<=32)(b2:x2<=32/\y2<=32/\W2<=32)
  (ly:y.length<=8192) (lu:u.length<=8192) (lv:v.length<=8192) (lp:p.length<=8192) (lq:q.length<=8192) (lr:r.length<=8192)
  (ty:∀ k,k<2 * h1->2 * y1 * (2 * W1)+2 * x1+k * (2 * W1)+2 * w1<=y.length) (fy:∀ k,k<2 * h1->2 * y2 * (2 * W2)+2 * x2+k * (2 * W2)+2 * w1<=p.length)
  (tu:∀ k,k<h1->y1 * W1+x1+k * W1+w1<=u.length) (fu:∀ k,k<h1->y2 * W2+x2+k * W2+w1<=q.length)
  (tv:∀ k,k<h1->y1 * W1+x1+k * W1+w1<=v.length) (fv:∀ k,k<h1->y2 * W2+x2+k * W2+w1<=r.length):
  CallOk prog 180 [.agg [O J ((2 * W1:Nat):Int),O J ht,.msl K0.length 1 0 y.length 1 true,.msl (K0.length+1) 1 0 u.length 1 true,.msl (K0.length+2) 1 0 v.length 1 true],O J ((2 * x1:Nat):Int),O J ((2 * y1:Nat):Int),.agg (fmc ⟨((2 * W2:Nat):Int),hf,p,q,r⟩),O J ((2 * x2:Nat):Int),O J ((2 * y2:Nat):Int),O J ((2 * w1:Nat):Int),O J ((2 * h1:Nat):Int)]
   (K0++[cpB y,cpB u,cpB v]) (.tup []) (K0++[cpB (pst y (2 * y1 * (2 * W1)+2 * x1) (2 * W1) (2 * w1) (ctl p (2 * y2 * (2 * W2)+2 * x2) (2 * W2) (2 * w1) (2 * h1)) (2 * h1)),cpB (pst u (y1 * W1+x1) W1 w1 (ctl q (y2 * W2+x2) W2 w1 h1) h1),cpB (pst v (y1 * W1+x1) W1 w1 (ctl r (y2 * W2+x2) W2 w1 h1) h1)]):=by
 have hv:∀ n:Nat,((2 * n:Nat):Int).tdiv 2=(n:Int):=λn=>by simp_all
 have c1:=λL hL=>ziS y p K0.length 1 (2 * W1) (2 * x1) (2 * y1) (2 * W2) (2 * x2) (2 * y2) (2 * w1) (2 * h1) true false L hL om om ly lp om om ty fy;have c2:=λL hL=>ziS u q (K0.length+1) 1 W1 x1 y1 W2 x2 y2 w1 h1 true false L hL om om lu lq om om tu fu;have c3:=λL hL=>ziS v r (K0.length+2) 1 W1 x1 y1 W2 x2 y2 w1 h1 true false L hL om om lv lr om om tv fv;generalize pst y (2 * y1 * (2 * W1)+2 * x1) (2 * W1) (2 * w1) (ctl p (2 * y2 * (2 * W2)+2 * x2) (2 * W2) (2 * w1) (2 * h1)) (2 * h1)=P1 at c1 |-;generalize pst u (y1 * W1+x1) W1 w1 (ctl q (y2 * W2+x2) W2 w1 h1) h1=P2 at c2 |-;generalize pst v (y1 * W1+x1) W1 w1 (ctl r (y2 * W2+x2) W2 w1 h1) h1=P3 at c3 |-;simp only[fmc];have d1:=hv W1;have d2:=hv x1;have d3:=hv y1;have d4:=hv W2;have d5:=hv x2;have d6:=hv y2;have d7:=hv w1;have d8:=hv h1;refine .body (F0:=[(0,.agg [O J ((2 * W1:Nat):Int),O J ht,.msl K0.length 1 0 y.length 1 true,.msl (K0.length+1) 1 0 u.length 1 true,.msl (K0.length+2) 1 0 v.length 1 true]),(1,O J ((2 * x1:Nat):Int)),(2,O J ((2 * y1:Nat):Int)),(3,.agg [O J ((2 * W2:Nat):Int),O J hf,.slice (bs p) p.length false,.slice (bs q) q.length false,.slice (bs r) r.length false]),(4,O J ((2 * x2:Nat):Int)),(5,O J ((2 * y2:Nat):Int)),(6,O J ((2 * w1:Nat):Int)),(7,O J ((2 * h1:Nat):Int))]) func180 rfl ntmps180 results180 rfl kr rfl ?_;refine .e (.f (λK k=>by simp(disch:=omega) only[go_sem];refine VCx.call (c1 _ (hp0 _ _ _)) rfl ?_;simp(disch:=omega) only[go_sem];exact k) ?_);refine .f (λK k=>by simp(disch:=omega) only[go_sem,d1,d2,d3,d4,d5,d6,d7,d8];refine VCx.call (c2 _ (hp1 _ _ _ _)) rfl ?_;simp(disch:=omega) only[go_sem,d1,d2,d3,d4,d5,d6,d7,d8];exact k) ?_;refine .f (λK k=>by simp(disch:=omega) only[go_sem,d1,d2,d3,d4,d5,d6,d7,d8];refine VCx.call (c3 _ (hp2 _ _ _ _ _)) rfl ?_;simp(disch:=omega) only[go_sem,d1,d2,d3,d4,d5,d6,d7,d8];exact k) ?_;refine sI _ (uI rfl ?_);refine .cut (A:=K0++[cpB P1,cpB P2,cpB P3]) (gU _ [_,_,_] [_,_]).symm sp (zqB sp λb hb x hx=> ?_) (.id (.tup (asc λx hx=>by cases hx)));simp only[gM,gL,uA]at hb;rcases hb with rfl|rfl|rfl<;>exact zh _ _ x hx
theorem zjL(w ht:Int)(y u v:List UInt8)(K0:za)(hy:1<=y.length/\y.length<=100000)(hu:1<=u.length/\u.length<=100000)(hv:1<=v.length/\v.length<=100000):
  CallOk prog 179 [.agg (fmc ⟨w,ht,y,u,v⟩)] (K0++[plc,plc,plc]) (.agg [O J w,O J ht,.msl K0.length 1 0 y.length 1 true,.msl (K0.length+1) 1 0 u.length 1 true,.msl (K0.length+2) 1 0 v.length 1 true]) (K0++[cpB y,cpB u,cpB v]):=by
 have ly:=zd y;have lu:=zd u;have lv:=zd v;have ty:qA y.length (bs y)=bs y:=gH om;have tu:qA u.length (bs u)=bs u:=gH om;have tv:qA v.length (bs v)=bs v:=gH om;refine .body (F0:=[(0,.agg [O J w,O J ht,.slice (bs y) y.length false,.slice (bs u) u.length false,.slice (bs v) v.length false])]) func179 rfl ntmps179 results179 rfl kr rfl ?_;refine .g @plc.eq_1 ?_;refine .y [K0.length,K0.length+1,K0.length+2,K0.length+3] [(1,[3]),(4,[3]),(8,[3]),(12,[3]),(15,[3]),(16,[3]),(17,[3]),(6,[0]),(10,[1]),(14,[2])] [(6,0),(10,1),(14,2)] [] λK hK=> ?_;simp(disch:=omega) only[go_sem,zy,plc,ly,lu,lv,ty,tu,tv,List.getElem?_nil];refine hK _ _ ?_;refine .e (.v (.agg [O J w,O J ht,.msl K0.length 1 0 y.length 1 true,.msl (K0.length+1) 1 0 u.length 1 true,.msl (K0.length+2) 1 0 v.length 1 true]) ?_);refine .cut (A:=K0++[cpB y,cpB u,cpB v]) (gU _ [_,_,_] [_,_]).symm sp (zqB sp λb hb x hx=> ?_) (.id (zn λx hx=> ?_))
 .simp only[gM,gL,uA]at hb;rcases hb with rfl|rfl|rfl<;>exact zh _ _ x hx
 .simp only[gM,gL,uA]at hx;rcases hx with rfl|rfl|rfl|rfl|rfl
  .exact .int _ _
  .exact .int _ _
  .exact .msl (by simp only[gP,gZ,uS];omega)
  .exact .msl (by simp only[gP,gZ,uS];omega)
  .exact .msl (by simp only[gP,gZ,uS];omega)
theorem zk7{p:List UInt8}{w r:Nat}(h:p.length=r * w):ctl p 0 w w r=p:=by
 have hf:∀ k,k<r->0+k * w+w<=p.length:=λk hk=>by have:(k+1) * w<=r * w:=gT _ om;grind
 have hl:=zau p 0 w w r hf;apply zdQ om;intro i hi;rw[hl]at hi;rcases vS w with hw|hw
 .simp_all
 have h1:i / w<r:=Nat.div_lt_of_lt_mul (by rw[dC];exact hi);have h2:=ziU p 0 w w r hf (i / w) (i%w) h1 (rC _ hw);simp_all[dC,wF,Nat.div_add_mod]
theorem zno(A B X Y:Nat)(f m:Fm)(hf:Gok A B f)(hm:F16 m)(hX:X<A)(hY:Y<B)(H:za):
  CallOk prog 112 [.agg (fmc f),O J (X:Int),O J (Y:Int),.agg (fmc m)] H (.tup [.agg (fmc (smF A X Y f m)),O J 0]) H:=by
 have ho:=λK=>zfX f (X:Int) (Y:Int) K;rw[hf.has hX hY]at ho;have so:=λK=>zgn m 16 16 K;have hmv:=hm.fvd;unfold fvd at hmv;rw[gB]at hmv;have hsz:zlN m 16 16=true:=by unfold zlN;rw[hmv.1,hm.w,hm.h];rfl
 rw[hsz]at so;obtain⟨q1,q2,q3⟩:=zkf hf hm hX hY;obtain⟨w,ht,y,u,v⟩:=f;obtain⟨w',ht',y',u',v'⟩:=m;obtain⟨hw,hh,ra,rb,ly,lu,lv⟩:=hf;obtain⟨hw',hh',ly',lu',lv'⟩:=hm;simp only at hw hh ly lu lv hw' hh' ly' lu' lv';subst hw hh hw' hh';have nb1:16 * A * (16 * B)<=64 * 64:=uT om om;have nb2:8 * A * (8 * B)<=32 * 32:=uT om om;have nb3:0<16 * A * (16 * B):=dS om om;have nb4:0<8 * A * (8 * B):=dS om om;have m1:∀ n:Nat,2 * (8 * n)=16 * n:=λn=>om;have fc:=zjL ((16 * A:Nat):Int) ((16 * B:Nat):Int) y u v (H++[⟨29,0,fmc ⟨((16 * A:Nat):Int),((16 * B:Nat):Int),y,u,v⟩⟩,⟨29,0,fmc ⟨16,16,y',u',v'⟩⟩,⟨29,0,[O J 0,O J 0,.slice [] 0 true,.slice [] 0 true,.slice [] 0 true]⟩]) om om om;have pc:=ziu (8 * A) (8 * X) (8 * Y) 8 0 0 8 8 ((16 * B:Nat):Int) 16 y u v y' u' v' (H++[⟨29,0,[O J ((16 * A:Nat):Int),O J ((16 * B:Nat):Int),.msl (H.length+3) 1 0 y.length 1 true,.msl (H.length+4) 1 0 u.length 1 true,.msl (H.length+5) 1 0 v.length 1 true]⟩,⟨29,0,fmc ⟨16,16,y',u',v'⟩⟩,⟨29,0,[O J 0,O J 0,.slice [] 0 true,.slice [] 0 true,.slice [] 0 true]⟩]) om om om om om om om om om om
  (by rw[m1,m1,m1];exact rows_in ly om om) (rows_in (W:=16) (R:=16) om om om)
  (rows_in lu om om) (rows_in (W:=8) (R:=8) om om om)
  (rows_in lv om om) (rows_in (W:=8) (R:=8) om om om)
 have x1:(16:Int) * (X:Int)=((16 * X:Nat):Int):=om;have x2:(16:Int) * (Y:Int)=((16 * Y:Nat):Int):=om;have i16:((16:Nat):Int)=16:=rfl;have i0:((0:Nat):Int)=0:=rfl;simp only[m1,Nat.reduceMul,qD,dU,vV,vQ,i16,i0,zk7 (show y'.length=16 * 16 from om),zk7 (show u'.length=8 * 8 from om),zk7 (show v'.length=8 * 8 from om)]at pc;have hres:fmc (smF A X Y ⟨((16 * A:Nat):Int),((16 * B:Nat):Int),y,u,v⟩ ⟨16,16,y',u',v'⟩)=[O J ((16 * A:Nat):Int),O J ((16 * B:Nat):Int),.slice (bs (pst y (16 * Y * (16 * A)+16 * X) (16 * A) 16 y' 16)) y.length false,.slice (bs (pst u (8 * Y * (8 * A)+8 * X) (8 * A) 8 u' 8)) u.length false,.slice (bs (pst v (8 * Y * (8 * A)+8 * X) (8 * A) 8 v' 8)) v.length false]:=by unfold fmc;rw[q1,q2,q3];rfl
 rw[hres];have k1:(pst y (16 * Y * (16 * A)+16 * X) (16 * A) 16 y' 16).length=y.length:=q1;have k2:(pst u (8 * Y * (8 * A)+8 * X) (8 * A) 8 u' 8).length=u.length:=q2;have k3:(pst v (8 * Y * (8 * A)+8 * X) (8 * A) 8 v' 8).length=v.length:=q3;clear hres q1 q2 q3 hmv;generalize pst y (16 * Y * (16 * A)+16 * X) (16 * A) 16 y' 16=PY at pc k1 |-;generalize pst u (8 * Y * (8 * A)+8 * X) (8 * A) 8 u' 8=PU at pc k2 |-;generalize pst v (8 * Y * (8 * A)+8 * X) (8 * A) 8 v' 8=PV1 at pc k3 |-;simp only[fmc,plc,cpB,hl3,gU,uZ,vC,vT,qD]at ho so fc pc |-;refine .body (F0:=[(0,.agg [O J ((16 * A:Nat):Int),O J ((16 * B:Nat):Int),.slice (bs y) y.length false,.slice (bs u) u.length false,.slice (bs v) v.length false]),(1,O J (X:Int)),(2,O J (Y:Int)),(3,.agg [O J 16,O J 16,.slice (bs y') y'.length false,.slice (bs u') u'.length false,.slice (bs v') v'.length false])]) func112 rfl ntmps112 results112 rfl kr rfl ?_;refine .e (.m2 trivial ho so ?_);refine .us (.view (Vs.place 5) ?_);refine .view (Vs.place 5) ?_;refine .view (Vs.place 5) ?_;refine .f (λK k=>by simp(disch:=omega) only[go_sem];refine VCx.call (fc) rfl ?_;simp(disch:=omega) only[go_sem];exact k) ?_;refine .f (λK k=>by simp(disch:=omega) only[go_sem,x1,x2];refine VCx.call (pc) rfl ?_;simp(disch:=omega) only[go_sem,x1,x2];exact k) ?_;refine .e (.v (.tup [.agg [O J ((16 * A:Nat):Int),O J ((16 * B:Nat):Int),.msl (H.length+3) 1 0 y.length 1 true,.msl (H.length+4) 1 0 u.length 1 true,.msl (H.length+5) 1 0 v.length 1 true],O J 0]) ?_);refine .base (Fz.tupC ⟨Fz.aggC ⟨.id (.int _ _),.id (.int _ _),Fz.mslC (e:=5) (xs:=bs PY) om (apn _ _ 3) (by rw[zd];omega) (FzC.refl (zh _ _)),Fz.mslC (e:=5) (xs:=bs PU) om (apn _ _ 4) (by rw[zd];omega) (FzC.refl (zh _ _)),Fz.mslC (e:=5) (xs:=bs PV1) om (apn _ _ 5) (by rw[zd];omega) (FzC.refl (zh _ _)),trivial⟩,.id (.int _ _),trivial⟩)
theorem zkd{p z:List UInt8}{h A B k:Nat}(hp:p.length=h * A * (h * B))(hz:z.length=h * A * (h * B))(hk:k<B):pst p (h * k * (h * A)+0) (h * A) (h * A) (ctl z (h * k * (h * A)+0) (h * A) (h * A) h) h=srp (h * (h * A)) k p z:=by
 have e:h * k * (h * A)=k * (h * (h * A)):=by grind
 have hb:h * k * (h * A)+h * (h * A)<=h * A * (h * B):=by have:(k+1) * (h * (h * A))<=B * (h * (h * A)):=gT _ hk;grind
 rw[vQ,zju h om om h (gV _) om,e];rfl
theorem zlS(A B k:Nat)(f m:Fm)(hf:Gok A B f)(hm:Gok A B m)(hk:k<B)(H:za):
  CallOk prog 110 [.agg (fmc f),O J (k:Int),.agg (fmc m)] H (.tup [.agg (fmc (srF A k f m)),O J 0]) H:=by
 have ho:=λK=>zfX f ((0:Nat):Int) (k:Int) K;rw[hf.has (show 0<A by have:=hf.ra;omega) hk]at ho;have so:=λK=>zgn m f.w f.h K;have hmv:=hm.fvd;unfold fvd at hmv;rw[gB]at hmv;have hsz:zlN m f.w f.h=true:=by unfold zlN;rw[hmv.1,hm.w,hm.h,hf.w,hf.h];simp
 rw[hsz]at so;obtain⟨_,_,_,_,q1,q2,q3⟩:=zhf hf hm hk;obtain⟨w,ht,y,u,v⟩:=f;obtain⟨w',ht',y',u',v'⟩:=m;obtain⟨hw,hh,ra,rb,ly,lu,lv⟩:=hf;obtain⟨hw',hh',ra',rb',ly',lu',lv'⟩:=hm;simp only at hw hh ly lu lv hw' hh' ly' lu' lv' so;subst hw hh hw' hh';have nb1:16 * A * (16 * B)<=64 * 64:=uT om om;have nb2:8 * A * (8 * B)<=32 * 32:=uT om om;have nb3:0<16 * A * (16 * B):=dS om om;have nb4:0<8 * A * (8 * B):=dS om om;have m1:∀ n:Nat,2 * (8 * n)=16 * n:=λn=>om;have r16:∀{L:Nat},L=16 * A * (16 * B)->∀ j,j<16->16 * k * (16 * A)+0+j * (16 * A)+16 * A<=L:=λhL=>rows_in hL om om;have r8:∀{L:Nat},L=8 * A * (8 * B)->∀ j,j<8->8 * k * (8 * A)+0+j * (8 * A)+8 * A<=L:=λhL=>rows_in hL om om;have fc:=zjL ((16 * A:Nat):Int) ((16 * B:Nat):Int) y u v (H++[⟨29,0,fmc ⟨((16 * A:Nat):Int),((16 * B:Nat):Int),y,u,v⟩⟩,⟨29,0,fmc ⟨((16 * A:Nat):Int),((16 * B:Nat):Int),y',u',v'⟩⟩,⟨29,0,[O J 0,O J 0,.slice [] 0 true,.slice [] 0 true,.slice [] 0 true]⟩]) om om om;have pc:=ziu (8 * A) 0 (8 * k) (8 * A) 0 (8 * k) (8 * A) 8 ((16 * B:Nat):Int) ((16 * B:Nat):Int) y u v y' u' v' (H++[⟨29,0,[O J ((16 * A:Nat):Int),O J ((16 * B:Nat):Int),.msl (H.length+3) 1 0 y.length 1 true,.msl (H.length+4) 1 0 u.length 1 true,.msl (H.length+5) 1 0 v.length 1 true]⟩,⟨29,0,fmc ⟨((16 * A:Nat):Int),((16 * B:Nat):Int),y',u',v'⟩⟩,⟨29,0,[O J 0,O J 0,.slice [] 0 true,.slice [] 0 true,.slice [] 0 true]⟩]) om om om om om om om om om om
  (by rw[m1,m1];exact r16 ly) (by rw[m1,m1];exact r16 ly') (r8 lu) (r8 lu') (r8 lv) (r8 lv')
 have x2:(16:Int) * (k:Int)=((16 * k:Nat):Int):=om;have i16:((16:Nat):Int)=16:=rfl;have i0:((0:Nat):Int)=0:=rfl;simp only[m1,Nat.reduceMul,dU]at pc;rw[zkd ly ly' hk,zkd lu lu' hk,zkd lv lv' hk]at pc;simp only[i16,i0]at pc;simp only[i0]at ho;have hres:fmc (srF A k ⟨((16 * A:Nat):Int),((16 * B:Nat):Int),y,u,v⟩ ⟨((16 * A:Nat):Int),((16 * B:Nat):Int),y',u',v'⟩)=[O J ((16 * A:Nat):Int),O J ((16 * B:Nat):Int),.slice (bs (srp (16 * (16 * A)) k y y')) y.length false,.slice (bs (srp (8 * (8 * A)) k u u')) u.length false,.slice (bs (srp (8 * (8 * A)) k v v')) v.length false]:=by unfold fmc;rw[q1,q2,q3,ly,lu,lv];rfl
 rw[hres];have k1:(srp (16 * (16 * A)) k y y').length=y.length:=q1.trans ly.symm;have k2:(srp (8 * (8 * A)) k u u').length=u.length:=q2.trans lu.symm;have k3:(srp (8 * (8 * A)) k v v').length=v.length:=q3.trans lv.symm;clear hres q1 q2 q3 hmv;generalize srp (16 * (16 * A)) k y y'=PY at pc k1 |-;generalize srp (8 * (8 * A)) k u u'=PU at pc k2 |-;generalize srp (8 * (8 * A)) k v v'=PV1 at pc k3 |-;simp only[fmc,plc,cpB,hl3,gU,uZ,vC,vT,qD]at ho so fc pc |-;refine .body (F0:=[(0,.agg [O J ((16 * A:Nat):Int),O J ((16 * B:Nat):Int),.slice (bs y) y.length false,.slice (bs u) u.length false,.slice (bs v) v.length false]),(1,O J (k:Int)),(2,.agg [O J ((16 * A:Nat):Int),O J ((16 * B:Nat):Int),.slice (bs y') y'.length false,.slice (bs u') u'.length false,.slice (bs v') v'.length false])]) func110 rfl ntmps110 results110 rfl kr rfl ?_;refine .e (.m2 trivial ho so ?_);refine .us (.view (Vs.place 5) ?_);refine .view (Vs.place 5) ?_;refine .view (Vs.place 5) ?_;refine .f (λK k=>by simp(disch:=omega) only[go_sem];refine VCx.call (fc) rfl ?_;simp(disch:=omega) only[go_sem];exact k) ?_;refine .f (λK k=>by simp(disch:=omega) only[go_sem,x2];refine VCx.call (pc) rfl ?_;simp(disch:=omega) only[go_sem,x2];exact k) ?_;refine .e (.v (.tup [.agg [O J ((16 * A:Nat):Int),O J ((16 * B:Nat):Int),.msl (H.length+3) 1 0 y.length 1 true,.msl (H.length+4) 1 0 u.length 1 true,.msl (H.length+5) 1 0 v.length 1 true],O J 0]) ?_);refine .base (Fz.tupC ⟨Fz.aggC ⟨.id (.int _ _),.id (.int _ _),Fz.mslC (e:=5) (xs:=bs PY) om (apn _ _ 3) (by rw[zd];omega) (FzC.refl (zh _ _)),Fz.mslC (e:=5) (xs:=bs PU) om (apn _ _ 4) (by rw[zd];omega) (FzC.refl (zh _ _)),Fz.mslC (e:=5) (xs:=bs PV1) om (apn _ _ 5) (by rw[zd];omega) (FzC.refl (zh _ _)),trivial⟩,.id (.int _ _),trivial⟩)
end Go.Proofs.YtleejngibkbjnaaGreatDoor.Sc
