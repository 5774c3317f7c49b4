/-
  Parts of the proof. No condition.
-/
import Derived.Test.YtdajpjenhcobkaaGreatDoorX25
import Derived.Test.YtdajpjenhcobkaaGreatDoorX27
open List renaming mem_cons_self → qA, mem_cons_of_mem → qB, length_cons → qE, mem_cons → qF, not_mem_nil → qG, replicate_succ → qJ, mem_map → qL, map_append → qM, replicate → qN, take → qO
open Nat renaming le_refl → qD, succ_mul → qH, mul_le_mul_right → qI, mul_le_mul_left → qK, zero_mul → qP, mul_succ → qQ
set_option linter.all false
set_option maxRecDepth 100000
set_option maxHeartbeats 32000000
namespace Go.Proofs.YtdajpjenhcobkaaGreatDoor.Sc
open Pm Ty Go.RowKit
theorem zp6{c:Cx}{q:List UInt8}{n:Nat}(hv:vcx c=true):∀(r:Nat) (s:St) (a:Nat) {z:List Mb×St} {a1:Nat},slL c q n r s a= .ok z a1->∀ m∈z.1,fmS c m=true
 | 0,s,a,z,a1,h=>by
  rw[slL]at h;injection h with h _;rw[<-h];intro m hm;cases hm
 | r+1,s,a,z,a1,h=>by
  rw[slL]at h;obtain⟨y,a2,h1,h⟩:=Rr.bind_okE h;obtain⟨z2,a3,h2,h⟩:=Rr.bind_okE h;injection h with h _;rw[<-h];intro m hm;rcases qF.1 hm with rfl|hm
  .unfold zdp at h1;split at h1
   .rename_i hc;rw[Bool.and_eq_true]at hc;exact zvV hv (zkr hc.2).1 h1
   .cases h1
  .exact zp6 hv r _ _ h2 m hm
theorem zhu{s:Sq}{p:Pi}{b:Bool}{t:Int}{q:List UInt8}{v:Nat}{l:List Mb}{a1:Nat}(hv:vcx (cxP s p b)=true)(h:slT s p b t q= .ok (v,l) a1):l.length=wmb s/\∀ m∈l,fmS (cxP s p b) m=true:=by
 unfold slT at h;split at h
 .split at h
  .cases h
  split at h
  .cases h
  split at h
  .cases h
  obtain⟨z,a2,h1,h⟩:=Rr.bind_okE h;split at h
  .injection h with h _;injection h with h3 h4;subst h4;exact⟨(zhv _ _ _ h1).1,zp6 hv _ _ _ h1⟩
  .cases h
 .cases h
def rwF(s:Sq)(p:Pi)(b:Bool)(pa fu fi:Fm)(A k:Nat):List Mb->Int->Nat->Fm->Fm
 | [],_,_,g=>g
 | m::r,q,X,g=>rwF s p b pa fu fi A k r (q+m.dl) (X+1) (smF A X k g (zdk (cxP s p b) s.ia s.ie p.al (q+m.dl) m pa fu fi (X:Int) (k:Int)).1)
def zl6(s:Sq)(p:Pi)(b:Bool)(us:List (Int×List UInt8))(pa fu fi:Fm)(A k:Nat)(g:Fm):Fm×Bool:=
 match fnu us k with
 | none=>(g,false)
 | some u=>match slT s p b u.1 u.2 with
  | .ok x _=>(rwF s p b pa fu fi A k x.2 (x.1:Int) 0 g,true)
  | .er _ _=>(g,false)
def zbf(s:Sq)(p:Pi)(b:Bool)(us:List (Int×List UInt8))(pa fu fi:Fm)(A:Nat)(g:Fm):Nat->Fm×List Bool
 | 0=>(g,[])
 | k+1=>((zl6 s p b us pa fu fi A k (zbf s p b us pa fu fi A g k).1).1,(zbf s p b us pa fu fi A g k).2++[(zl6 s p b us pa fu fi A k (zbf s p b us pa fu fi A g k).1).2])
theorem zec(s:Sq)(p:Pi)(b:Bool)(us:List (Int×List UInt8))(pa fu fi:Fm)(A:Nat)(g:Fm):∀ k,(zbf s p b us pa fu fi A g k).2.length=k
 | 0=>rfl
 | k+1=>by rw[zbf,List.length_append,zec s p b us pa fu fi A g k];rfl
theorem zg1{s:Sq}{p:Pi}{pa fu fi:Fm}{b:Bool}{A B:Nat}(h:DecOk s p pa fu fi b A B):Gok A B (zcw s p pa):=by
 have ew:=h.w;have eg:=h.g;unfold zcw;by_cases hz:pa.w=0
 .rw[if_pos hz,ew,eg,show(((16 * A:Nat):Int) / 16).toNat=A from om,show(((16 * B:Nat):Int) / 16).toNat=B from om];exact⟨rfl,rfl,h.ra,h.rb,by simp[flt],by simp[flt],by simp[flt]⟩
 .rw[if_neg hz];obtain⟨g1,g2,g3⟩:=zej h.mp hz;obtain⟨v1,v2⟩:=zjV h.hv g1 g2 g3;by_cases h3:p.st=3
  .rw[if_pos h3];exact zkl h.ra h.rb g1 om (by have:=h.h3 h3;omega)
  .rw[if_neg h3];have:=(h.h4 h3).1;have:=h.st;exact zi0 h.ra h.rb v1 om om om
theorem zgK{s:Sq}{p:Pi}{pa fu fi:Fm}{b:Bool}{A B k:Nat}(h:DecOk s p pa fu fi b A B)(hk:k<B):∀(l:List Mb) (q:Int) (X:Nat) (g:Fm),Gok A B g->X+l.length<=A->(∀ m∈l,fmS (cxP s p b) m=true)->(∀ x∈zdJ q l,1<=x/\x<=31)->Gok A B (rwF s p b pa fu fi A k l q X g)
 | [],_,_,g,hg,_,_,_=>hg
 | m::r,q,X,g,hg,hX,hf,hq=>by rw[rwF];rw[qE]at hX;have e:=zgN h (hf m (qA ..)) p.al (hq (q+m.dl) (qA ..)) (X:=X) (Y:=k) om hk;exact zgK h hk r _ _ _ (zl2 hg (zgO e) om hk) om (λm hm=>hf m (qB _ hm)) (λx hx=>hq x (qB _ hx))
theorem zkp{s:Sq}{p:Pi}{pa fu fi:Fm}{b:Bool}{A B:Nat}(h:DecOk s p pa fu fi b A B):wmb s=A:=by unfold wmb;rw[h.w,zE _ _ om];omega
theorem zqp{s:Sq}{p:Pi}{pa fu fi:Fm}{b:Bool}{A B k:Nat}(h:DecOk s p pa fu fi b A B)(hk:k<B)(us:List (Int×List UInt8)){g:Fm}(hg:Gok A B g):Gok A B (zl6 s p b us pa fu fi A k g).1:=by
 unfold zl6;split
 .exact hg
 .split
  .rename_i x a1 hs;obtain⟨v,l⟩:=x;obtain⟨e1,e2⟩:=zhu h.vc hs;exact zgK h hk l _ 0 g hg (by rw[e1,zkp h];omega) e2 (zkL hs).2.2
  .exact hg
theorem zcY{s:Sq}{p:Pi}{pa fu fi:Fm}{b:Bool}{A B:Nat}(h:DecOk s p pa fu fi b A B)(us:List (Int×List UInt8)){g:Fm}(hg:Gok A B g):∀ k,k<=B->Gok A B (zbf s p b us pa fu fi A g k).1
 | 0,_=>hg
 | k+1,hk=>zqp h om us (zcY h us hg k om)
def flR(B:Nat)(l:List Bool):List PV:=(l++qN (B - l.length) false).map PV.bool
theorem znU{B:Nat}{l:List Bool}(h:l.length<=B):(flR B l).length=B:=by simp[flR];omega
theorem ztY{B k:Nat}{l:List Bool}(h:l.length=k)(hk:k<B):(flR B l).set k (.bool true)=flR B (l++[true]):=by unfold flR;subst h;rw[show B - l.length=(B - (l++[true]).length)+1 by simp;omega,qJ,qM,qM,qM,List.set_append_right _ _ sp];simp
theorem zwr{B k:Nat}{l:List Bool}(h:l.length=k)(hk:k<B):flR B l=flR B (l++[false]):=by unfold flR;subst h;rw[show B - l.length=(B - (l++[false]).length)+1 by simp;omega,qJ];simp
theorem zxJ(B:Nat):flR B []=qN B (.bool false):=by simp[flR]
theorem ztZ{B:Nat}{l:List Bool}(h:l.length=B):flR B l=l.map PV.bool:=by simp[flR,h]
theorem zrV(B:Nat)(l:List Bool)(n:Nat):∀ x∈flR B l,Scoped n x:=λx hx=>by obtain⟨y,_,rfl⟩:=qL.1 hx;exact .bool _
def dgH(H:za)(s:Sq)(p:Pi)(U:List (List UInt8))(us:List (Int×List UInt8))(pa fu fi g:Fm)(r:Nat)(l:List Bool):za:=H++[⟨26,0,sqc s⟩,⟨37,0,cdc p U us⟩,⟨58,0,fmc pa++(fmc fu++fmc fi)⟩,⟨30,0,[.int .i64 0,.int .i64 0,.slice [] 0 true,.slice [] 0 true,.slice [] 0 true]⟩,⟨30,0,fmc g⟩,⟨4,0,flR r l⟩,mpB r]
theorem znN(H:za)(s:Sq)(p:Pi)(U:List (List UInt8))(us:List (Int×List UInt8))(pa fu fi g:Fm)(r:Nat)(l:List Bool)(h:HSc H):HSc (dgH H s p U us pa fu fi g r l):=zh0 (λb hb x hx=>by
 simp only[qF,qG,or_false]at hb;rcases hb with rfl|rfl|rfl|rfl|rfl|rfl|rfl
 .exact zbE _ _ x hx
 .exact zid _ _ _ _ x hx
 .rcases List.mem_append.1 hx with hx|hx
  .exact zas _ _ _ _ _ _ _ _ _ _ _ _ x hx
  .rcases List.mem_append.1 hx with hx|hx
   .exact zas _ _ _ _ _ _ _ _ _ _ _ _ x hx
   .exact zas _ _ _ _ _ _ _ _ _ _ _ _ x hx
 .exact zas _ 0 0 [] [] [] _ _ _ _ _ _ x hx
 .exact zas _ _ _ _ _ _ _ _ _ _ _ _ x hx
 .exact zrV _ _ _ x hx
 .exact znp _ _ x hx) h
def zbd(s:Sq)(p:Pi)(us:List (Int×List UInt8))(pa fu fi:Fm)(b:Bool):(Fm×List Bool)×Int:=if zgz s p pa fu fi b=0 then(zbf s p b us pa fu fi (s.w / 16).toNat (zcw s p pa) (zaq s p).toNat,0)else((f0,[]),zgz s p pa fu fi b)
def zbw(r:(Fm×List Bool)×Int):PV:=if r.2=0 then .tup [.agg (fmc r.1.1),.slice (r.1.2.map PV.bool) r.1.2.length false,.int .i64 0]else .tup [.agg [.int .i64 0,.int .i64 0,.slice [] 0 true,.slice [] 0 true,.slice [] 0 true],.slice [] 0 true,.int .i64 r.2]
theorem zf8(s:Sq)(p:Pi)(U:List (List UInt8))(us:List (Int×List UInt8))(pa fu fi:Fm)(b:Bool)(hs:SqOk s)(hu:us.length<=1000000)(hul:∀ u∈us,zex u.1/\u.2.length<=100000000)(H:za):
  CallOk Tryz.prog 14 [.agg (sqc s),.agg (cdc p U us),.agg (fmc pa++(fmc fu++fmc fi)),.bool b] H (zbw (zbd s p us pa fu fi b)) H:=by
 have h1:=zah s;have h2:=zax s hs;have h3:=zbD s hs;have c1:=zd7 p U us;have c2:=zeu p U us;have c3:=zsj p U us;have c4:=zsi p U us;have c5:(cdc p U us)[5]? =some (.bool p.al):=rfl;have rl:(fmc pa++(fmc fu++fmc fi)).length=15:=rfl;have rc:(fmc pa++(fmc fu++fmc fi)).all PV.cell=true:=rfl;have rt:qO 15 (fmc pa++(fmc fu++fmc fi))=fmc pa++(fmc fu++fmc fi):=rfl;have r0:qO 5 (fmc pa++(fmc fu++fmc fi))=fmc pa:=rfl;have F5:∀ g:Fm,(fmc g).all PV.cell=true:=λ_=>rfl;have F7:∀ g:Fm,(fmc g).length=5:=λ_=>rfl;have F8:∀ g:Fm,qO 5 (fmc g)=fmc g:=λ_=>rfl;have F9:∀ g:Fm,List.drop 5 (fmc g)=[]:=λ_=>rfl;have z9:List.drop 5 [PV.int .i64 0,PV.int .i64 0,PV.slice [] 0 true,PV.slice [] 0 true,PV.slice [] 0 true]=[]:=rfl;have de:=λK=>zww s p pa fu fi b hs K;have h0:zgz s p pa fu fi b=0->∃ A B,DecOk s p pa fu fi b A B:=DecOk.of;unfold zbd;generalize zgz s p pa fu fi b=e at de h0 |-;refine .go Tryz.func14 Tryz.ntmps14 Tryz.results14 ?_;refine .g (nq2 h1 (nq2 c1 rc)) ?_;(repeat refine .seq ?_);refine .scope ?_;refine .m (nq2 h2 (nq2 h3 (nq2 c2 (nq2 c3 (nq2 rl rt))))) de ?_;refine .e ?_;refine .c (λh=> ?_) (λh=> ?_)
 .have he:e≠0:=by simpa using h
  rw[if_neg he];unfold zbw;rw[if_neg (by exact he)];refine .e ?_;refine .v (.tup [.agg [.int .i64 0,.int .i64 0,.slice [] 0 true,.slice [] 0 true,.slice [] 0 true],.slice [] 0 true,.int .i64 e]) ?_;exact .base (.id (.tup (asc λx hx=>by
   simp only[qF,qG,or_false]at hx;rcases hx with rfl|rfl|rfl
   .exact zq (zas _ 0 0 [] [] [] _ _ _ _ _ _)
   .exact zr (λx hx=>by cases hx)
   .exact .int _ _)))
 have he:e=0:=by simpa using h
 subst he;rw[if_pos rfl];obtain⟨A,B,hd⟩:=h0 rfl;refine .skip ?_;have co:=λK=>zwx s p pa hs hd.hv hd.mp K;have hcg:=zg1 hd;have ro:=λK=>zkX s p K hs;have er:=hd.r;have eA:(s.w / 16).toNat=A:=by rw[hd.w];omega
 rw[er]at ro |-;rw[eA,Int.toNat_natCast];generalize zcw s p pa=g0 at co hcg |-;have hB:=hd.rb;have rb:=λK=>zvM B K om;have zb:(qN B [PV.bool false]).flatten=flR B []:=by
  rw[zxJ];clear hd er ro rb hB hcg;induction B with
  | zero=>rfl
  | succ n ih=>simp[qJ]
 refine .m (nq2 h2 (nq2 h3 (nq2 c2 (nq2 c3 (nq2 rl (nq2 r0 (nq2 F5 F7))))))) co ?_;refine .e ?_;refine .us ?_;refine .m (nq2 h2 (nq2 h3 (nq2 c2 c3))) ro ?_;refine .k rb ?_;rw[zb];refine .seq ?_;refine .label ?_;refine .e ?_;refine .l ?_;suffices hl1:∀ k:Nat,k<=B->PL Tryz.prog _ _ [(3,.bool b),(4,.ptr H.length 0 0),(5,.ptr (H.length+1) 0 0),(6,.ptr (H.length+2) 0 0),(8,.ptr (H.length+3) 0 0),(12,.ptr (H.length+4) 0 0),(14,.msl (H.length+5) 0 0 B 1 true),(15,.mp (H.length+6) 0),(59,.int .i64 (B:Int)),(60,.int .i64 (k:Int))] (dgH H s p U us pa fu fi (zbf s p b us pa fu fi A g0 k).1 B (zbf s p b us pa fu fi A g0 k).2) _ by exact .at [3,4,5,6,8,12,14,15,59,60] (hl1 0 om) rfl rfl
 clear ro rb co de;refine cnt B (λk hk ih=> ?_) ?_
 .have ct:=zc4 hk;have hgk:=zcY hd us hcg k om;have hlk:=zec s p b us pa fu fi A g0 k;rw[zbf]at ih;generalize zbf s p b us pa fu fi A g0 k=R at ih hgk hlk |-;obtain⟨g,fl⟩:=R;simp only at ih hgk hlk |-;have hlB:=znU (B:=B) (l:=fl) om;have cu:=fun(K:za) (hK:K[H.length+6]? =some (mpB B))=>zsd p U us (H.length+6) B k K hK hk hu;have vb:∀(g':Fm) (fl':List Bool) (K:za),Vs { N:=134,H0:=H } [(3,.bool b),(4,.ptr H.length 0 0),(5,.ptr (H.length+1) 0 0),(6,.ptr (H.length+2) 0 0),(8,.ptr (H.length+3) 0 0),(12,.ptr (H.length+4) 0 0),(14,.msl (H.length+5) 0 0 B 1 true),(15,.mp (H.length+6) 0),(59,.int .i64 (B:Int)),(60,.int .i64 ((k+1:Nat):Int))] (dgH H s p U us pa fu fi g' B fl'++K) [(3,.bool b),(4,.ptr H.length 0 0),(5,.ptr (H.length+1) 0 0),(6,.ptr (H.length+2) 0 0),(8,.ptr (H.length+3) 0 0),(12,.ptr (H.length+4) 0 0),(14,.msl (H.length+5) 0 0 B 1 true),(15,.mp (H.length+6) 0),(59,.int .i64 (B:Int)),(60,.int .i64 ((k+1:Nat):Int))] (dgH H s p U us pa fu fi g' B fl'):=λg' fl' K=>by
   refine Vs.trim (znN H s p U us pa fu fi g' B fl') (by simp[dgH]) rfl ?_;have hl:(dgH H s p U us pa fu fi g' B fl').length=H.length+7:=by simp[dgH]
   rw[hl];exact⟨.id (.bool _),.id (.ptr om),.id (.ptr om),.id (.ptr om),.id (.ptr om),.id (.ptr om),.id (.msl om),.id (.mp om),.id (.int _ _),.id (.int _ _),trivial⟩
  refine .round ?_;refine .g ct ?_;refine .t ?_;refine .skip ?_;refine .b ?_;refine .e ?_;(repeat refine .seq ?_);refine .rg rfl λK hK=> ?_;simp(maxSteps:=3000000) (disch:=omega) only[go_sem,dgH,c2,c4];refine VCx.call (cu _ (apn _ _ 6)) rfl ?_;unfold zl6 at ih;have hno:dgH H s p U us pa fu fi g B (fl++[false])=dgH H s p U us pa fu fi g B fl:=by unfold dgH;rw[<-zwr hlk hk]
  cases hfn:fnu us k with
  | none=>
   rw[hfn]at ih;simp only at ih;simp(maxSteps:=3000000) (disch:=omega) only[go_sem,cuV,dgH,c2,c4];refine hK _ _ ?_;clear hK K;refine .e ?_;refine .t ?_;refine .exit ?_;refine .e ?_;exact .at [3,4,5,6,8,12,14,15,59,60] (PL.view (vb g fl [⟨55,0,[.int .i64 0,.slice [] 0 true]⟩]) (by rw[<-hno];exact ih)) rfl (by unfold dgH;simp)
  | some u=>
   obtain⟨t,q⟩:=u;obtain⟨hmem,_⟩:=znQ hfn;have hq:=hul _ hmem;have so:=λK=>zp4 s p b t q false K hs hq.1 hq.2;rw[hfn]at ih;dsimp only at ih;simp(maxSteps:=3000000) (disch:=omega) only[go_sem,cuV,dgH,c2,c4];refine hK _ _ ?_;clear hK K;refine .e ?_;refine .us ?_;(repeat refine .seq ?_);refine .rg rfl λK hK=> ?_;simp(maxSteps:=3000000) (disch:=omega) only[go_sem,h2,h3,c2,c3];refine VCx.call (so _) rfl ?_;cases hsl:slT s p b t q with
   | er e a1=>
    rw[hsl]at ih;dsimp only at ih;have d0:((e:Int)+1 !=0)=true:=by simp;omega
    simp(maxSteps:=3000000) (disch:=omega) only[go_sem,rvT,ecd];refine hK _ _ ?_;clear hK K;refine .g d0 ?_;refine .t ?_;refine .exit ?_;refine .e ?_;exact .at [3,4,5,6,8,12,14,15,59,60] (PL.view (vb g fl [⟨55,0,[.int .i64 t,.slice (bs q) q.length false]⟩]) (by rw[<-hno];exact ih)) rfl (by unfold dgH;simp)
   | ok x a1=>
    obtain⟨v,l⟩:=x;rw[hsl]at ih;dsimp only at ih;have hsb:=zkL hsl;obtain⟨e1,e2⟩:=zhu hd.vc hsl;rw[zkp hd]at e1;have lm:=zaH mbc 408 l (λx hx=>zu x (hsb.2.1 x hx));have hll:=hsb.1;clear so cu;simp(maxSteps:=3000000) (disch:=omega) only[go_sem,rvT];refine hK _ _ ?_;clear hK K;refine .e ?_;refine .us ?_;refine .g (nq2 F5 (nq2 F7 F8)) ?_;refine .e ?_;refine .l ?_;obtain⟨G',hG'⟩:∃ G',rwF s p b pa fu fi A k l (v:Int) 0 g=G':=⟨_,rfl⟩;rw[hG']at ih;suffices hl2:∀(j:Nat) (q1:Int) (gg:Fm),j<=l.length->Gok A B gg->(∀ x∈zdJ q1 (l.drop j),1<=x/\x<=31)->rwF s p b pa fu fi A k (l.drop j) q1 j gg=G'->PL Tryz.prog _ _ [(3,.bool b),(4,.ptr H.length 0 0),(5,.ptr (H.length+1) 0 0),(6,.ptr (H.length+2) 0 0),(8,.ptr (H.length+3) 0 0),(12,.ptr (H.length+4) 0 0),(14,.msl (H.length+5) 0 0 B 1 true),(15,.mp (H.length+6) 0),(16,.int .i64 (k:Int)),(19,.int .i64 q1),(22,.ptr (H.length+8) 0 0),(59,.int .i64 (B:Int)),(60,.int .i64 (k:Int)),(85,.slice (l.flatMap mbc) l.length false),(86,.int .i64 (l.length:Int)),(87,.int .i64 (j:Int))] (dgH H s p U us pa fu fi g B fl++[⟨55,0,[.int .i64 t,.slice (bs q) q.length false]⟩,⟨30,0,fmc gg⟩]) _ by exact .at [3,4,5,6,8,12,14,15,16,19,22,59,60,85,86,87] (hl2 0 v g om hgk hsb.2.2 hG') rfl (by unfold dgH;simp)
    intro j q1 gg hj hgg hbd hG;induction hd2:l.length - j using Nat.strongRecOn generalizing j q1 gg with
    | _ d2 ih2=>
     refine .round ?_;refine .e ?_;refine .c (λh=> ?_) (λh=> ?_)
     .have hjl:j<l.length:=ot h;have ha:=zdt mbc 408 l j hjl (λx hx=>zu x (hsb.2.1 x hx));have hfm:=e2 _ (List.getElem_mem hjl);have hlv:=hsb.2.1 _ (List.getElem_mem hjl);rw[List.drop_eq_getElem_cons hjl]at hbd hG;simp only[zdJ,rwF]at hbd hG;generalize l[j]=m at *;have hb1:=hbd (q1+m.dl) (qA ..);have hjA:j<A:=om;have re0:=zgN hd hfm p.al hb1 hjA hk;have r16:=zgO re0;have re:=λK=>zqs (cxP s p b) s p.al (q1+m.dl) m pa fu fi (j:Int) (k:Int) K hlv hs.ia hs.ie;have cx:=λK=>zsc s p b K hs;generalize zdk (cxP s p b) s.ia s.ie p.al (q1+m.dl) m pa fu fi (j:Int) (k:Int)=T at re re0 r16 hG;obtain⟨gm,em⟩:=T;simp only at re re0 r16 hG;subst re0;have sm:=λK=>zqe A B j k gg gm hgg r16 hjA hk K;have hsm:=zl2 hgg r16 hjA hk;generalize smF A j k gg gm=g2 at sm hsm hG;have m1:=zu m hlv;have m2:=zcu m;have m3:qO 408 (mbc m)=mbc m:=List.take_of_length_le om;have m17:(mbc m)[17]? =some (.int .i64 m.dl):=rfl;have cl4:(cxc (cxP s p b)).length=4:=rfl;refine .skip ?_;refine .b ?_;refine .g (nq2 ha (nq2 lm (nq2 m1 m2))) ?_;refine .g (nq2 m1 m17) ?_;refine .view (Vs.place 30) ?_;(repeat refine .seq ?_);refine .drawi [H.length+10] [(25,[0])] [(25,0)] [101,111] mix kr (by simp<;>omega) λK hK=> ?_;simp(maxSteps:=3000000) (disch:=omega) only[go_sem,zD,dgH,h2,h3,c2,c3];refine VCj.read (λ_ _=>cx _) rfl ?_;simp(maxSteps:=3000000) (disch:=omega) only[go_sem,zD,dgH,h2,h3,c2,c3,c5,rl,rt,m1,m3];refine VCj.read (λ_ _=>re _) rfl ?_;refine sqx (nq2 F5 F7) ?_;refine hK _ _ ?_;clear hK K;refine .e ?_;refine .us ?_;refine .m (nq2 F5 (nq2 F7 (nq2 F8 F9))) sm ?_;refine .e ?_;refine .us ?_;refine .e ?_;have hnx:=ih2 (l.length - (j+1)) om (j+1) (q1+m.dl) g2 om hsm (λx hx=>hbd x (qB _ hx)) hG rfl;refine .view (Vs.trim (F1:=[(3,.bool b),(4,.ptr H.length 0 0),(5,.ptr (H.length+1) 0 0),(6,.ptr (H.length+2) 0 0),(8,.ptr (H.length+3) 0 0),(12,.ptr (H.length+4) 0 0),(14,.msl (H.length+5) 0 0 B 1 true),(15,.mp (H.length+6) 0),(16,.int .i64 (k:Int)),(19,.int .i64 (q1+m.dl)),(22,.ptr (H.length+8) 0 0),(59,.int .i64 (B:Int)),(60,.int .i64 (k:Int)),(85,.slice (l.flatMap mbc) l.length false),(86,.int .i64 (l.length:Int)),(87,.int .i64 ((j+1:Nat):Int))]) (H1:=dgH H s p U us pa fu fi g B fl++[⟨55,0,[.int .i64 t,.slice (bs q) q.length false]⟩,⟨30,0,fmc g2⟩]) (K:=[⟨109,0,mbc m⟩,⟨30,1,fmc gm⟩]) (λhh=>zh0 (λb' hb' x hx=> ?_) (znN H s p U us pa fu fi g B fl hh)) (by simp[dgH]) (by unfold dgH;simp) ?_) hnx
      .simp only[qF,qG,or_false]at hb';rcases hb' with rfl|rfl
       .simp only[qF,qG,or_false]at hx;rcases hx with rfl|rfl
        .exact .int _ _
        .exact zr (zh _ _)
       .exact zas _ _ _ _ _ _ _ _ _ _ _ _ x hx
      .have hl:(dgH H s p U us pa fu fi g B fl++[⟨55,0,[.int .i64 t,.slice (bs q) q.length false]⟩,⟨30,0,fmc g2⟩]:za).length=H.length+9:=by simp[dgH]
       rw[hl];exact⟨.id (.bool _),.id (.ptr om),.id (.ptr om),.id (.ptr om),.id (.ptr om),.id (.ptr om),.id (.msl om),.id (.mp om),.id (.int _ _),.id (.int _ _),.id (.ptr om),.id (.int _ _),.id (.int _ _),.id (zr (zeN _ _)),.id (.int _ _),.id (.int _ _),trivial⟩
     .have hjl:j=l.length:=ofF h;subst hjl;rw[List.drop_length]at hG;simp only[rwF]at hG;subst hG;refine .exit ?_;refine .f (λK k=>by simp(maxSteps:=3000000) (disch:=omega) only[go_sem,dgH,F5,F7,F8,F9,hlB,ztY hlk hk];exact k) ?_;refine .e ?_;exact .at [3,4,5,6,8,12,14,15,59,60] (PL.view (vb gg (fl++[true]) [⟨55,0,[.int .i64 t,.slice (bs q) q.length false]⟩,⟨30,0,fmc gg⟩]) ih) rfl (by unfold dgH;simp)
 have hlen:=zec s p b us pa fu fi A g0 B;generalize zbf s p b us pa fu fi A g0 B=R at hlen |-;obtain⟨g,fl⟩:=R;simp only at hlen |-;refine .round ?_;refine .f (λK k=>by simp(maxSteps:=3000000) (disch:=omega) only[go_sem,zdK B];exact k) ?_;refine .u ?_;refine .exit ?_;refine .f (λK k=>by simp(maxSteps:=3000000) (disch:=omega) only[go_sem,dgH,F5,F7,F8,z9];exact k) ?_;unfold zbw;rw[if_pos rfl];refine .w (.tup [.agg (fmc g),.msl (H.length+5) 0 0 B 1 true,.int .i64 0]) (nq2 F7 F8) ?_;rw[<-ztZ hlen,hlen];refine .base (Fz.tupC ⟨.id (zq (zas _ _ _ _ _ _ _ _ _ _ _ _)),Fz.mslC (e:=4) (xs:=flR B fl) om (apn _ _ 5) (by rw[znU om];omega) (FzC.refl (zrV _ _ _)),.id (.int _ _),trivial⟩)
def rwp(h A k:Nat):List (List UInt8)->Nat->List UInt8->List UInt8
 | [],_,p=>p
 | z::r,X,p=>rwp h A k r (X+1) (pst p (h * k * (h * A)+h * X) (h * A) h z h)
theorem zj1{h A B k X L:Nat}(hp:L=h * A * (h * B))(hX:X<A)(hk:k<B):∀ j,j<h->h * k * (h * A)+h * X+j * (h * A)+h<=L:=by
 have e1:h * X+h<=h * A:=by rw[<-qQ];exact qK _ hX
 have e2:h * k+h<=h * B:=by rw[<-qQ];exact qK _ hk
 exact rows_in hp e1 e2
theorem zjq{h A B k:Nat}(hk:k<B):∀(l:List (List UInt8)) (X:Nat) (p:List UInt8),p.length=h * A * (h * B)->X+l.length<=A->(∀ z∈l,z.length=h * h)->(rwp h A k l X p).length=p.length
 | [],_,_,_,_,_=>rfl
 | z::r,X,p,hp,hX,hz=>by rw[qE]at hX;have e:=zY (p:=p) (a:=h * k * (h * A)+h * X) (s:=h * A) (hz z (qA ..)) h (qD _) (zj1 hp om hk);rw[rwp,zjq hk r (X+1) _ (e.trans hp) om (λz hm=>hz z (qB _ hm)),e]
theorem zkW{p p' z:List UInt8}{a s h:Nat}(hz:z.length=h * h)(hs:h<=s)(hf:∀ k,k<h->a+k * s+h<=p.length)(hl:p.length=p'.length){i:Nat}(hi:byt p i=byt p' i\/∃ j,j<h/\a+j * s<=i/\i<a+j * s+h):byt (pst p a s h z h) i=byt (pst p' a s h z h) i:=by
 by_cases hh:∃ j,j<h/\a+j * s<=i/\i<a+j * s+h
 .obtain⟨j,h1,h2,h3⟩:=hh;obtain⟨c,rfl⟩:∃ c,i=a+j * s+c:=⟨i - (a+j * s),om⟩;rw[zeg hz hs h (qD _) hf j c h1 om,zeg hz hs h (qD _) (by rw[<-hl];exact hf) j c h1 om]
 .have hn:∀ j,j<h->¬(a+j * s<=i/\i<a+j * s+h):=λj h1 h2=>hh ⟨j,h1,h2⟩;rw[zc1 hz h (qD _) hf hn,zc1 hz h (qD _) (by rw[<-hl];exact hf) hn];simp_all
theorem zql{h A B k:Nat}(hk:k<B):∀(l:List (List UInt8)) (X:Nat) (p p':List UInt8),p.length=h * A * (h * B)->p'.length=p.length->X+l.length<=A->(∀ z∈l,z.length=h * h)->∀ i,
  (byt p i=byt p' i\/∃ r c,r<h/\h * X<=c/\c<h * (X+l.length)/\i=h * k * (h * A)+r * (h * A)+c)->byt (rwp h A k l X p) i=byt (rwp h A k l X p') i
 | [],X,p,p',_,_,_,_,i,hi=>by
  rcases hi with h1|⟨r,c,_,h2,h3,_⟩
  .exact h1
  grind
 | z::l,X,p,p',hp,hp',hX,hz,i,hi=>by
  rw[qE]at hX hi;have hA:h<=h * A:=Nat.le_mul_of_pos_right _ om;have hf:=zj1 hp (show X<A from om) hk;have e:=zY (p:=p) (a:=h * k * (h * A)+h * X) (s:=h * A) (hz z (qA ..)) h (qD _) hf;have e':=zY (p:=p') (a:=h * k * (h * A)+h * X) (s:=h * A) (hz z (qA ..)) h (qD _) (by rw[hp'];exact hf);rw[rwp,rwp];refine zql hk l (X+1) _ _ (e.trans hp) (by rw[e,e',hp']) om (λz hm=>hz z (qB _ hm)) i ?_;rcases hi with h1|⟨r,c,hr,h2,h3,h4⟩
  .grind[zkW]
  .by_cases hc:c<h * (X+1)
   .refine .inl (zkW (hz z (qA ..)) hA hf hp'.symm (.inr ⟨r,hr,?_,?_⟩));all_goals grind
   .exact .inr ⟨r,c,hr,om,by rw[show X+1+l.length=X+(l.length+1)from om];exact h3,h4⟩
theorem zkQ{h A B k:Nat}(hk:k<B){i:Nat}(hi:i<h * k * (h * A)\/h * k * (h * A)+h * (h * A)<=i):∀(l:List (List UInt8)) (X:Nat) (p:List UInt8),p.length=h * A * (h * B)->X+l.length<=A->(∀ z∈l,z.length=h * h)->byt (rwp h A k l X p) i=byt p i
 | [],_,_,_,_,_=>rfl
 | z::l,X,p,hp,hX,hz=>by
  rw[qE]at hX;have hf:=zj1 hp (show X<A from om) hk;have e:=zY (p:=p) (a:=h * k * (h * A)+h * X) (s:=h * A) (hz z (qA ..)) h (qD _) hf;rw[rwp,zkQ hk hi l (X+1) _ (e.trans hp) om (λz hm=>hz z (qB _ hm))];refine zc1 (hz z (qA ..)) h (qD _) hf λj hj hh=> ?_;have e1:h * X+h<=h * A:=by rw[<-qQ];exact qK _ om
  have e2:j * (h * A)+h * A<=h * (h * A):=by rw[<-qH];exact qI _ hj
  omega
def srp(n k:Nat)(p z:List UInt8):List UInt8:=spl p (k * n) ((z.drop (k * n)).take n)
theorem zgH{n k:Nat}{p z:List UInt8}(hl:z.length=p.length)(hk:k * n+n<=p.length):(srp n k p z).length=p.length:=zea (by simp;omega)
theorem zvz{n k:Nat}{p z:List UInt8}(hl:z.length=p.length)(hk:k * n+n<=p.length)(i:Nat):byt (srp n k p z) i=if k * n<=i/\i<k * n+n then byt z i else byt p i:=by grind[srp,zfM,zbj,zb6]
structure PInv(n k:Nat)(P R c:List UInt8):Prop where
 l:P.length=R.length
 a:∀ i,i<k * n->byt P i=byt R i
 b:∀ i,k * n<=i->byt P i=byt c i
theorem PInv.no{n k:Nat}{P R c:List UInt8}(h:PInv n k P R c)(hl:c.length=R.length)(hk:k * n+n<=R.length):PInv n (k+1) P (srp n k R c) c:=by
 refine⟨by rw[zgH hl hk,h.l],λi hi=> ?_,λi hi=>h.b i (by rw[qH]at hi;omega)⟩;rw[qH]at hi;rw[zvz hl hk];by_cases h1:k * n<=i
 .rw[if_pos ⟨h1,om⟩,h.b i h1]
 .rw[if_neg om,h.a i om]
theorem PInv.yes{h A B k:Nat}{P R c:List UInt8}(hk:k<B)(hA:0<A)(hv:PInv (h * (h * A)) k P R c)(hp:P.length=h * A * (h * B)){l:List (List UInt8)}(hl:l.length=A)(hz:∀ z∈l,z.length=h * h):PInv (h * (h * A)) (k+1) (rwp h A k l 0 P) (rwp h A k l 0 R) c:=by
 have e0:k * (h * (h * A))=h * k * (h * A):=by grind
 have hR:R.length=h * A * (h * B):=hv.l.symm.trans hp;refine⟨by rw[zjq hk l 0 P hp om hz,zjq hk l 0 R hR om hz,hv.l],λi hi=> ?_,λi hi=> ?_⟩
 .rw[qH,e0]at hi;refine zql hk l 0 P R hp hv.l.symm om hz i ?_;by_cases h1:i<k * (h * (h * A))
  .exact .inl (hv.a i h1)
  .rw[e0]at h1;have hW:0<h * A:=by rcases Nat.eq_zero_or_pos (h * A)with h2|h2;all_goals simp_all
   refine .inr ⟨(i - h * k * (h * A)) / (h * A),(i - h * k * (h * A))%(h * A),?_,om,?_,?_⟩
   .rw[Nat.div_lt_iff_lt_mul hW];omega
   .simp_all[Nat.zero_add,Nat.mod_lt]
   grind[Nat.div_add_mod,Nat.mul_comm]
 .rw[qH,e0]at hi;rw[zkQ hk (.inr om) l 0 P hp om hz];exact hv.b i (by rw[e0];omega)
def mcL(s:Sq)(p:Pi)(b:Bool)(pa fu fi:Fm)(k:Nat):List Mb->Int->Nat->List Fm
 | [],_,_=>[]
 | m::r,q,X=>(zdk (cxP s p b) s.ia s.ie p.al (q+m.dl) m pa fu fi (X:Int) (k:Int)).1::mcL s p b pa fu fi k r (q+m.dl) (X+1)
theorem znD(s:Sq)(p:Pi)(b:Bool)(pa fu fi:Fm)(k:Nat):∀(l:List Mb) (q:Int) (X:Nat),(mcL s p b pa fu fi k l q X).length=l.length
 | [],_,_=>rfl
 | m::r,q,X=>by rw[mcL,qE,qE,znD s p b pa fu fi k r]
theorem zrg{s:Sq}{p:Pi}{pa fu fi:Fm}{b:Bool}{A B k:Nat}(h:DecOk s p pa fu fi b A B)(hk:k<B):∀(l:List Mb) (q:Int) (X:Nat),X+l.length<=A->(∀ m∈l,fmS (cxP s p b) m=true)->(∀ x∈zdJ q l,1<=x/\x<=31)->∀ f∈mcL s p b pa fu fi k l q X,F16 f
 | [],_,_,_,_,_,f,hf=>by cases hf
 | m::r,q,X,hX,hm,hq,f,hf=>by
  rw[qE]at hX;rw[mcL]at hf;rcases qF.1 hf with rfl|hf
  .exact zgO (zgN h (hm m (qA ..)) p.al (hq (q+m.dl) (qA ..)) om hk)
  .exact zrg h hk r _ (X+1) om (λm h'=>hm m (qB _ h')) (λx h'=>hq x (qB _ h')) f hf
theorem zqm(s:Sq)(p:Pi)(b:Bool)(pa fu fi:Fm)(A k:Nat):∀(l:List Mb) (q:Int) (X:Nat) (g:Fm),rwF s p b pa fu fi A k l q X g=⟨g.w,g.h,rwp 16 A k ((mcL s p b pa fu fi k l q X).map Fm.y) X g.y,rwp 8 A k ((mcL s p b pa fu fi k l q X).map Fm.u) X g.u,rwp 8 A k ((mcL s p b pa fu fi k l q X).map Fm.v) X g.v⟩
 | [],_,_,_=>rfl
 | m::r,q,X,g=>by rw[rwF,zqm s p b pa fu fi A k r];rfl
def srF(A k:Nat)(g f:Fm):Fm:=⟨g.w,g.h,srp (16 * (16 * A)) k g.y f.y,srp (8 * (8 * A)) k g.u f.u,srp (8 * (8 * A)) k g.v f.v⟩
def zox(s:Sq)(p:Pi)(b:Bool)(us:List (Int×List UInt8))(pa fu fi:Fm)(A:Nat)(pw:Bool)(c:Fm)(k:Nat)(g:Fm):Fm×Bool:=
 match fnu us k with
 | none=>(if pw then srF A k g c else g,false)
 | some u=>match slT s p b u.1 u.2 with
  | .ok x _=>(rwF s p b pa fu fi A k x.2 (x.1:Int) 0 g,true)
  | .er _ _=>(if pw then srF A k g c else g,false)
def zaV(s:Sq)(p:Pi)(b:Bool)(us:List (Int×List UInt8))(pa fu fi:Fm)(A:Nat)(pw:Bool)(c g:Fm):Nat->Fm×List Bool
 | 0=>(g,[])
 | k+1=>((zox s p b us pa fu fi A pw c k (zaV s p b us pa fu fi A pw c g k).1).1,(zaV s p b us pa fu fi A pw c g k).2++[(zox s p b us pa fu fi A pw c k (zaV s p b us pa fu fi A pw c g k).1).2])
theorem zkR(s:Sq)(p:Pi)(b:Bool)(us:List (Int×List UInt8))(pa fu fi:Fm)(A:Nat)(c g:Fm):∀ k,zaV s p b us pa fu fi A false c g k=zbf s p b us pa fu fi A g k
 | 0=>rfl
 | k+1=>by
  have e:∀ g',zox s p b us pa fu fi A false c k g'=zl6 s p b us pa fu fi A k g':=λg'=>by rfl
  rw[zaV,zbf,zkR s p b us pa fu fi A c g k,e]
structure FInv(A k:Nat)(P R c:Fm):Prop where
 w:P.w=R.w
 h:P.h=R.h
 y:PInv (16 * (16 * A)) k P.y R.y c.y
 u:PInv (8 * (8 * A)) k P.u R.u c.u
 v:PInv (8 * (8 * A)) k P.v R.v c.v
theorem FInv.no{A B k:Nat}{P R c:Fm}(h:FInv A k P R c)(hR:Gok A B R)(hc:Gok A B c)(hk:k<B):FInv A (k+1) P (srF A k R c) c:=by
 have e1:k * (16 * (16 * A))+16 * (16 * A)<=16 * A * (16 * B):=by have:(k+1) * (16 * (16 * A))<=B * (16 * (16 * A)):=qI _ hk;grind
 have e2:k * (8 * (8 * A))+8 * (8 * A)<=8 * A * (8 * B):=by grind
 exact⟨h.w,h.h,h.y.no (hc.ly.trans hR.ly.symm) (by rw[hR.ly];exact e1),h.u.no (hc.lu.trans hR.lu.symm) (by rw[hR.lu];exact e2),h.v.no (hc.lv.trans hR.lv.symm) (by rw[hR.lv];exact e2)⟩
theorem zgI{A B k:Nat}{R c:Fm}(hR:Gok A B R)(hc:Gok A B c)(hk:k<B):Gok A B (srF A k R c):=by
 have e1:k * (16 * (16 * A))+16 * (16 * A)<=16 * A * (16 * B):=by have:(k+1) * (16 * (16 * A))<=B * (16 * (16 * A)):=qI _ hk;grind
 have e2:k * (8 * (8 * A))+8 * (8 * A)<=8 * A * (8 * B):=by grind
 exact⟨hR.w,hR.h,hR.ra,hR.rb,(zgH (hc.ly.trans hR.ly.symm) (by rw[hR.ly];exact e1)).trans hR.ly,(zgH (hc.lu.trans hR.lu.symm) (by rw[hR.lu];exact e2)).trans hR.lu,(zgH (hc.lv.trans hR.lv.symm) (by rw[hR.lv];exact e2)).trans hR.lv⟩
theorem FInv.yes{s:Sq}{p:Pi}{pa fu fi:Fm}{b:Bool}{A B k:Nat}(hd:DecOk s p pa fu fi b A B){P R c:Fm}(h:FInv A k P R c)(hP:Gok A B P)(hk:k<B){l:List Mb}{q:Int}(hl:l.length=A)(hm:∀ m∈l,fmS (cxP s p b) m=true)(hq:∀ x∈zdJ q l,1<=x/\x<=31):FInv A (k+1) (rwF s p b pa fu fi A k l q 0 P) (rwF s p b pa fu fi A k l q 0 R) c:=by
 have h16:=zrg hd hk l q 0 om hm hq;have hn:=znD s p b pa fu fi k l q 0;rw[zqm,zqm];generalize mcL s p b pa fu fi k l q 0=M at h16 hn;have hA:=hP.ra.1;exact⟨h.w,h.h,
  h.y.yes hk hA hP.ly (by simp;omega) (λz hz=>by obtain⟨f,hf,rfl⟩:=qL.1 hz;exact(h16 f hf).ly),
  h.u.yes hk hA hP.lu (by simp;omega) (λz hz=>by obtain⟨f,hf,rfl⟩:=qL.1 hz;exact(h16 f hf).lu),
  h.v.yes hk hA hP.lv (by simp;omega) (λz hz=>by obtain⟨f,hf,rfl⟩:=qL.1 hz;exact(h16 f hf).lv)⟩
theorem FInv.end{A B:Nat}{P R c:Fm}(h:FInv A B P R c)(hP:Gok A B P):P=R:=by
 have e1:B * (16 * (16 * A))=16 * A * (16 * B):=by grind
 have e2:B * (8 * (8 * A))=8 * A * (8 * B):=by grind
 obtain⟨w,ht,y,u,v⟩:=P;obtain⟨w',ht',y',u',v'⟩:=R;have hy:y=y':=zdx h.y.l λi hi=>h.y.a i (by rw[e1,<-hP.ly];exact hi);have hu:u=u':=zdx h.u.l λi hi=>h.u.a i (by rw[e2,<-hP.lu];exact hi);have hv:v=v':=zdx h.v.l λi hi=>h.v.a i (by rw[e2,<-hP.lv];exact hi);have hw:w=w':=h.w;have hh:ht=ht':=h.h;simp_all
theorem zow{s:Sq}{p:Pi}{pa fu fi:Fm}{b:Bool}{A B:Nat}(hd:DecOk s p pa fu fi b A B)(us:List (Int×List UInt8)):zaV s p b us pa fu fi A (decide (pa.w≠0)) (zcw s p pa) (flt A B) B=zbf s p b us pa fu fi A (zcw s p pa) B:=by
 have hc:=zg1 hd;have ew:=hd.w;have eg:=hd.g;by_cases hz:pa.w=0
 .simp_all[zcw,flt,eg,zkR]
 .rw[decide_eq_true (by exact hz)];have hfl:Gok A B (flt A B):=⟨rfl,rfl,hd.ra,hd.rb,by simp[flt],by simp[flt],by simp[flt]⟩;have key:∀ k,k<=B->FInv A k (zbf s p b us pa fu fi A (zcw s p pa) k).1 (zaV s p b us pa fu fi A true (zcw s p pa) (flt A B) k).1 (zcw s p pa)/\Gok A B (zaV s p b us pa fu fi A true (zcw s p pa) (flt A B) k).1/\(zaV s p b us pa fu fi A true (zcw s p pa) (flt A B) k).2=(zbf s p b us pa fu fi A (zcw s p pa) k).2:=by
   intro k;induction k with
   | zero=>
    intro _;refine⟨⟨hc.w.trans hfl.w.symm,hc.h.trans hfl.h.symm,⟨hc.ly.trans hfl.ly.symm,λi hi=>by rw[qP]at hi;omega,λ_ _=>rfl⟩,⟨hc.lu.trans hfl.lu.symm,λi hi=>by rw[qP]at hi;omega,λ_ _=>rfl⟩,⟨hc.lv.trans hfl.lv.symm,λi hi=>by rw[qP]at hi;omega,λ_ _=>rfl⟩⟩,hfl,rfl⟩
   | succ k ih=>
    intro hk;obtain⟨h1,h2,h3⟩:=ih om;have hP:=zcY hd us hc k om;rw[zbf,zaV,h3];generalize (zbf s p b us pa fu fi A (zcw s p pa) k).1=P at h1 hP;generalize (zaV s p b us pa fu fi A true (zcw s p pa) (flt A B) k).1=R at h1 h2;unfold zl6 zox;cases hf:fnu us k with
    | none=>exact⟨h1.no h2 hc om,zgI h2 hc om,rfl⟩
    | some u=>
     dsimp only;cases hs:slT s p b u.1 u.2 with
     | er e a=>exact⟨h1.no h2 hc om,zgI h2 hc om,rfl⟩
     | ok x a=>obtain⟨v,l⟩:=x;obtain⟨e1,e2⟩:=zhu hd.vc hs;rw[zkp hd]at e1;have e3:=(zkL hs).2.2;exact⟨h1.yes hd hP om e1 e2 e3,zgK hd om l _ 0 _ h2 om e2 e3,rfl⟩
  obtain⟨h1,_,h3⟩:=key B (qD _);exact Prod.ext (h1.end (zcY hd us hc B (qD _))).symm h3
end Go.Proofs.YtdajpjenhcobkaaGreatDoor.Sc
