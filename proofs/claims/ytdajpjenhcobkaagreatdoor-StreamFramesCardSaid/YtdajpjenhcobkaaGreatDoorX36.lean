/-
  Parts of the proof. No condition.
-/
import Derived.Test.YtdajpjenhcobkaaGreatDoorX32
import Derived.Test.YtdajpjenhcobkaaGreatDoorX35
open Bool renaming eq_iff_iff → qB
open Int renaming tdiv_eq_ediv_of_nonneg → qI
open List renaming append_nil → qA, take → qE, not_mem_nil → qG, drop_eq_getElem_cons → qH, mem_cons → qJ, drop → qK
open Nat renaming beq → qF
open Go.Proofs.Tryz renaming prog → qD
set_option linter.all false
set_option maxRecDepth 100000
set_option maxHeartbeats 32000000
namespace Go.Proofs.YtdajpjenhcobkaaGreatDoor.Sc
open Pm Ty Go.RowKit
theorem zeJ(f:Fm)(w h:Int)(H:za):CallOk qD 46 [.agg (fmc f),.int .i64 w,.int .i64 h] H (.bool (mOr f w h)) H:=by have so:=λK=>zfN f w h K;have hm:mOr f w h=(decide (f.w=0)||zkH f w h):=rfl;rw[hm];generalize zkH f w h=r at so |-;obtain⟨fw,fh,y,u,v⟩:=f;simp only[fmc]at so |-;refine .body (F0:=[(0,.agg [.int .i64 fw,.int .i64 fh,.slice (bs y) y.length false,.slice (bs u) u.length false,.slice (bs v) v.length false]),(1,.int .i64 w),(2,.int .i64 h)]) Tryz.func46 rfl Tryz.ntmps46 Tryz.results46 rfl kr rfl ?_;refine .e ?_;(repeat refine .seq ?_);refine .rg rfl λK hK=> ?_;simp(maxSteps:=3000000) (disch:=omega) only[go_sem];(repeat'(first|((first|refine zg ?_ ?_|refine And.intro ?_ ?_)<;>intro h<;>(try simp only[nqb]at h)<;>simp(maxSteps:=3000000) (disch:=omega) only[go_sem,h])|((first|refine VCx.call (so _) rfl ?_);simp(maxSteps:=3000000) (disch:=omega) only[go_sem])));all_goals(refine hK _ _ ?_;clear hK;(refine .ret ⟨_,rfl,?_⟩;first|refine .inl ⟨?_,rfl⟩|refine .base (.id' ?_ (.bool _))|refine .base (.id' ?_ (.int _ _)));(simp_all[slot,qF]<;>first|rfl|omega|(rw[qB];simp;done)|(rw[qB];simp;omega)))
def pcF(p:Pi)(pa:Fm):Fm:=if p.st≠3/\0<pa.w then fieldOf pa (p.st - 1)else pa
theorem zuP{f:Fm}{w h:Int}(hm:mOr f w h=true)(hz:f.w≠0):0<f.w:=by have:=(zej hm hz).1;unfold fmd at this;rw[Bool.and_eq_true]at this;have:=zbc this.1;omega
theorem zxx{s:Sq}{p:Pi}{pa:Fm}(hm:mOr pa s.w s.h=true):decide (0<(pcF p pa).w)=decide (pa.w≠0):=by
 unfold pcF;by_cases hz:pa.w=0
 .simp_all
 .have:=zuP hm hz;rw[decide_eq_true hz];split
  .exact decide_eq_true (by unfold fieldOf fld;show 0<((2 * (pa.w / 2).toNat:Nat):Int);have h2:=(zej hm hz).1;unfold fmd at h2;rw[Bool.and_eq_true]at h2;have:=zbc h2.1;omega)
  simp_all
theorem ztu{s:Sq}{p:Pi}{pa:Fm}(hm:mOr pa s.w s.h=true)(hz:pa.w≠0):pcF p pa=zcw s p pa:=by grind[zuP,pcF,zcw]
theorem zkS(s:Sq)(p:Pi)(b:Bool)(us:List (Int×List UInt8))(pa fu fi:Fm)(A:Nat)(pw:Bool)(c:Fm)(k:Nat)(g:Fm):
  zox s p b us pa fu fi A pw c k g=match zlC s p b us k with|none=>(if pw then srF A k g c else g,false)|some x=>(rwF s p b pa fu fi A k x.2.1 (x.1:Int) 0 g,true):=by
 unfold zox zlC;cases fnu us k with
 | none=>rfl
 | some u=>
  dsimp only;rw[zp1];cases slT s p b u.1 u.2 with
  | er e a=>rfl
  | ok x a=>rfl
theorem zsg{s:Sq}{p:Pi}{b:Bool}{us:List (Int×List UInt8)}{k v:Nat}{D:List Mb}{qs:List Int}(h:zlC s p b us k=some (v,D,qs)):∃ t q a,slT s p b t q= .ok (v,D) a/\qs=zdJ (v:Int) D:=by
 unfold zlC at h;split at h
 .cases h
 .rename_i u _;rw[zp1]at h;cases hs:slT s p b u.1 u.2 with
  | er e a=>rw[hs]at h;cases h
  | ok x a=>grind[Rr.bind,Option.some.injEq,Prod.mk.injEq]
def zb9(l:List Bool):List PV:=l.map PV.bool
theorem zlF(l:List Bool):(zb9 l).length=l.length:=by simp[zb9]
theorem ziW(l:List Bool)(b:Bool):zb9 (l++[b])=zb9 l++[.bool b]:=by simp[zb9]
theorem zn6(n:Nat)(l:List Bool):∀ x∈zb9 l,Scoped n x:=λx hx=>by obtain⟨y,_,rfl⟩:=List.mem_map.1 hx;exact .bool _
theorem zfR(s:Sq)(p:Pi)(b:Bool)(us:List (Int×List UInt8))(pa fu fi:Fm)(A:Nat)(pw:Bool)(c g:Fm):∀ k,(zaV s p b us pa fu fi A pw c g k).2.length=k
 | 0=>rfl
 | k+1=>by rw[zaV,List.length_append,zfR s p b us pa fu fi A pw c g k];rfl
theorem ziE{s:Sq}{p:Pi}{pa fu fi:Fm}{b:Bool}{A B:Nat}(h:DecOk s p pa fu fi b A B)(us:List (Int×List UInt8))(pw:Bool){c g:Fm}(hc:Gok A B c)(hg:Gok A B g):∀ k,k<=B->Gok A B (zaV s p b us pa fu fi A pw c g k).1
 | 0,_=>hg
 | k+1,hk=>by
  have ih:=ziE h us pw hc hg k om;rw[zaV];dsimp only;generalize (zaV s p b us pa fu fi A pw c g k).1=f at ih |-;rw[zkS];cases hn:zlC s p b us k with
  | none=>
   grind[zgI]
  | some x=>obtain⟨v,D,qs⟩:=x;dsimp only;obtain⟨t,q,a,hs,_⟩:=zsg hn;obtain⟨e1,e2⟩:=zhu h.vc hs;grind[zgK,zkp,zkL]
theorem ztV{A B:Nat}(hA:1<=A/\A<=4)(hB:1<=B/\B<=4):Gok A B (flt A B):=⟨rfl,rfl,hA,hB,by simp[flt],by simp[flt],by simp[flt]⟩
def dxH(H:za)(s:Sq)(p:Pi)(U:List (List UInt8))(us:List (Int×List UInt8))(pa fu fi pc g:Fm)(l:List Bool):za:=H++[⟨26,0,sqc s⟩,⟨37,0,cdc p U us⟩,⟨58,0,fmc pa++(fmc fu++fmc fi)⟩,⟨30,0,[.int .i64 0,.int .i64 0,.slice [] 0 true,.slice [] 0 true,.slice [] 0 true]⟩,⟨33,0,pic p⟩,⟨30,1,fmc pc⟩,⟨30,0,fmc g⟩,⟨4,(zb9 l).length,zb9 l⟩]
theorem znM(H:za)(s:Sq)(p:Pi)(U:List (List UInt8))(us:List (Int×List UInt8))(pa fu fi pc g:Fm)(l:List Bool)(h:HSc H):HSc (dxH H s p U us pa fu fi pc g l):=zh0 (λb hb x hx=>by
 simp only[qJ,qG,or_false]at hb;rcases hb with rfl|rfl|rfl|rfl|rfl|rfl|rfl|rfl
 .exact zbE _ _ x hx
 .exact zid _ _ _ _ x hx
 .rcases List.mem_append.1 hx with hx|hx
  .exact zas _ _ _ _ _ _ _ _ _ _ _ _ x hx
  .rcases List.mem_append.1 hx with hx|hx
   .exact zas _ _ _ _ _ _ _ _ _ _ _ _ x hx
   .exact zas _ _ _ _ _ _ _ _ _ _ _ _ x hx
 .exact zas _ 0 0 [] [] [] _ _ _ _ _ _ x hx
 .exact znv _ _ x hx
 .exact zas _ _ _ _ _ _ _ _ _ _ _ _ x hx
 .exact zas _ _ _ _ _ _ _ _ _ _ _ _ x hx
 .exact zn6 _ _ x hx) h
theorem zeT(s:Sq)(p:Pi)(U:List (List UInt8))(us:List (Int×List UInt8))(pa fu fi:Fm)(b:Bool)(hs:SqOk s)(hu:us.length<=1000000)(hul:∀ u∈us,zex u.1/\u.2.length<=100000000)(H:za):
  CallOk qD 19 [.agg (sqc s),.agg (cdc p U us),.agg (fmc pa++(fmc fu++fmc fi)),.bool b] H (zbw (zbd s p us pa fu fi b)) H:=by
 have h1:=zah s;have h2:=zax s hs;have h3:=zbD s hs;have h4:(sqc s)[0]? =some (.int .i64 s.w):=rfl;have h5:(sqc s)[1]? =some (.int .i64 s.h):=rfl;have c1:=zd7 p U us;have c2:=zeu p U us;have c3:=zsj p U us;have p6:(pic p).length=6:=rfl;have p7:(pic p).all PV.cell=true:=rfl;have t6:qE 6 (pic p)=pic p:=rfl;have ty:(pic p)[0]? =some (.int .i64 p.ty):=rfl;have ps:(pic p)[1]? =some (.int .i64 p.st):=rfl;have pal:(pic p)[5]? =some (.bool p.al):=rfl;have rl:(fmc pa++(fmc fu++fmc fi)).length=15:=rfl;have rc:(fmc pa++(fmc fu++fmc fi)).all PV.cell=true:=rfl;have rt:qE 15 (fmc pa++(fmc fu++fmc fi))=fmc pa++(fmc fu++fmc fi):=rfl;have r0:qE 5 (fmc pa++(fmc fu++fmc fi))=fmc pa:=rfl;have r1:qE 5 (qK 5 (fmc pa++(fmc fu++fmc fi)))=fmc fu:=rfl;have r2:qE 5 (qK 10 (fmc pa++(fmc fu++fmc fi)))=fmc fi:=rfl;have w0:(fmc pa++(fmc fu++fmc fi))[0]? =some (.int .i64 pa.w):=rfl;have w1:(fmc pa++(fmc fu++fmc fi))[5]? =some (.int .i64 fu.w):=rfl;have w2:(fmc pa++(fmc fu++fmc fi))[10]? =some (.int .i64 fi.w):=rfl;have F5:∀ g:Fm,(fmc g).all PV.cell=true:=λ_=>rfl;have F7:∀ g:Fm,(fmc g).length=5:=λ_=>rfl;have F8:∀ g:Fm,qE 5 (fmc g)=fmc g:=λ_=>rfl;have F9:∀ g:Fm,qK 5 (fmc g)=[]:=λ_=>rfl;have z9:qK 5 [PV.int .i64 0,PV.int .i64 0,PV.slice [] 0 true,PV.slice [] 0 true,PV.slice [] 0 true]=[]:=rfl;have fo:=λK=>zli s p b K hs;have z0:=λK=>zeJ pa s.w s.h K;have z1:=λK=>zeJ fu s.w s.h K;have z2:=λK=>zeJ fi s.w (s.h.tdiv 2) K;have h0:zgz s p pa fu fi b=0->∃ A B,DecOk s p pa fu fi b A B:=DecOk.of;unfold zbd;have hE:zgz s p pa fu fi b=if(zci s p b&&(mOr pa s.w s.h&&(mOr fu s.w s.h&&mOr fi s.w (s.h.tdiv 2))))=true then(if((!decide (p.ty=1)&&decide (pa.w=0))||((decide (p.ty=3)&&decide (fu.w=0))||(decide (p.ty=2)&&(b&&decide (fi.w=0)))))=true then 6 else 0)else 1:=rfl
 generalize zgz s p pa fu fi b=e at h0 hE |-;have bad:∀(e:Int) (K:za),Fin H (.tup [.agg [.int .i64 0,.int .i64 0,.slice [] 0 true,.slice [] 0 true,.slice [] 0 true],.slice [] 0 true,.int .i64 e]) H (.tup [.agg [.int .i64 0,.int .i64 0,.slice [] 0 true,.slice [] 0 true,.slice [] 0 true],.slice [] 0 true,.int .i64 e]) (H++K):=λe K=>Fin.base (.id (.tup (asc λx hx=>by
   simp only[qJ,qG,or_false]at hx;rcases hx with rfl|rfl|rfl
   .exact zq (zas _ 0 0 [] [] [] _ _ _ _ _ _)
   .exact zr (λx hx=>by cases hx)
   .exact .int _ _)))
 refine .go Tryz.func19 Tryz.ntmps19 Tryz.results19 ?_;refine .g (nq2 h1 (nq2 c1 rc)) ?_;refine .g (nq2 c2 (nq2 c3 (nq2 p6 (nq2 p7 t6)))) ?_;(repeat refine .seq ?_);have hwd:IntKind.i64.wrap (s.h.tdiv 2)=s.h.tdiv 2:=by
  have:=hs.h;refine w64 _ ?_;rcases Int.le_total 0 s.h with h|h
  .rw[qI h];omega
  .have e:s.h.tdiv 2= -((-s.h).tdiv 2):=by simp_all
   simp_all[qI];omega
 generalize hc1:(zci s p b&&(mOr pa s.w s.h&&(mOr fu s.w s.h&&mOr fi s.w (s.h.tdiv 2))))=B1 at hE;refine .rgv (P:=qD) [3,4,5,6,8,9,10,11] 59 (.bool (!B1)) ?_ ?_ ?_
 .rfl
 .generalize zci s p b=q1 at *;generalize mOr pa s.w s.h=q2 at *;generalize mOr fu s.w s.h=q3 at *;generalize mOr fi s.w (s.h.tdiv 2)=q4 at *;have wd:IntKind.i64.wrap (s.h.tdiv 2)=s.h.tdiv 2:=hwd;simp(maxSteps:=3000000) (disch:=omega) only[go_sem,h2,h3,h4,h5,p6,t6,rl,r0,r1,r2];(repeat'(first|((first|refine zg ?_ ?_|refine And.intro ?_ ?_)<;>intro h<;>(try simp only[nqb]at h)<;>simp(maxSteps:=3000000) (disch:=omega) only[go_sem,h2,h3,h4,h5,p6,t6,rl,r0,r1,r2,wd,h])|((first|refine VCx.call (fo _) rfl ?_|refine VCx.call (z0 _) rfl ?_|refine VCx.call (z1 _) rfl ?_|refine VCx.call (z2 _) rfl ?_);simp(maxSteps:=3000000) (disch:=omega) only[go_sem,h2,h3,h4,h5,p6,t6,rl,r0,r1,r2,wd])));all_goals(subst hc1;(simp_all[kp,slot,qF]<;>first|rfl|omega|(rw[qB];simp;done)|(rw[qB];simp;omega)))
 clear fo z0 z1 z2;cases B1 with
 | false=>
  rw[if_neg sp]at hE;subst hE;refine .t ?_;refine .e ?_;have n1:¬((1:Int)=0):=by decide
  rw[if_neg n1];unfold zbw;rw[if_neg (by exact n1)];refine .v (.tup [.agg [.int .i64 0,.int .i64 0,.slice [] 0 true,.slice [] 0 true,.slice [] 0 true],.slice [] 0 true,.int .i64 1]) ?_;exact bad _ _
 | true=>
 rw[if_pos rfl]at hE;refine .us ?_;(repeat refine .seq ?_);generalize hc2:((!decide (p.ty=1)&&decide (pa.w=0))||((decide (p.ty=3)&&decide (fu.w=0))||(decide (p.ty=2)&&(b&&decide (fi.w=0)))))=B2 at hE;refine .rgv (P:=qD) [3,4,5,6,8,9,10,11] 94 (.bool B2) ?_ ?_ ?_
 .rfl
 .generalize p.ty=q1 at *;generalize pa.w=q2 at *;generalize fu.w=q3 at *;generalize fi.w=q4 at *;simp(maxSteps:=3000000) (disch:=omega) only[go_sem,p6,ty,rl,w0,w1,w2];(repeat'((first|refine zg ?_ ?_|refine zB ?_ ?_|refine zal ?_ ?_|refine VOh_cond ?_ ?_|refine zak ?_ ?_|refine And.intro ?_ ?_)<;>intro h<;>(try simp only[nqb]at h)<;>simp(maxSteps:=3000000) (disch:=omega) only[go_sem,p6,ty,rl,w0,w1,w2,h]));all_goals(subst hc2;(simp_all[kp,slot,qF]<;>first|rfl|omega|(rw[qB];simp;done)|(rw[qB];simp;omega)))
 cases B2 with
 | true=>
  rw[if_pos rfl]at hE;subst hE;refine .t ?_;refine .e ?_;have n1:¬((6:Int)=0):=by decide
  rw[if_neg n1];unfold zbw;rw[if_neg (by exact n1)];refine .v (.tup [.agg [.int .i64 0,.int .i64 0,.slice [] 0 true,.slice [] 0 true,.slice [] 0 true],.slice [] 0 true,.int .i64 6]) ?_;exact bad _ _
 | false=>
 rw[if_neg sp]at hE;subst hE;obtain⟨A,B,hd⟩:=h0 rfl;clear h0 hc1 hc2 bad;rw[if_pos rfl];refine .us ?_;have hw:=hd.w;have hst:=hd.st;have c4:=zsi p U us;have hcg:=zg1 hd;have hs0:(sqc s)[0]? =some (.int .i64 ((16 * A:Nat):Int)):=by rw[h4,hw]
 (repeat refine .seq ?_);refine .view (Vs.place 30) ?_;refine .eq rfl (show _=H++[⟨26,0,sqc s⟩,⟨37,0,cdc p U us⟩,⟨58,0,fmc pa++(fmc fu++fmc fi)⟩,⟨30,0,[.int .i64 0,.int .i64 0,.slice [] 0 true,.slice [] 0 true,.slice [] 0 true]⟩,⟨33,0,pic p⟩,⟨30,0,[]⟩] by simp) ?_;(repeat refine .seq ?_);refine .drawi [H.length+5] [(13,[0])] [(13,0)] [] mix kr (by simp<;>omega) λK hK=> ?_;refine sqx (nq2 h2 (nq2 h5 (nq2 rl (nq2 r0 (nq2 F5 (nq2 F7 z9)))))) ?_;refine hK _ _ ?_;clear hK K;suffices hm:PW qD _ _ [(3,.bool b),(4,.ptr H.length 0 0),(5,.ptr (H.length+1) 0 0),(6,.ptr (H.length+2) 0 0),(8,.ptr (H.length+3) 0 0),(11,.ptr (H.length+4) 0 0),(12,.int .i64 ((16 * B:Nat):Int)),(13,.ptr (H.length+5) 1 0)] (H++[⟨26,0,sqc s⟩,⟨37,0,cdc p U us⟩,⟨58,0,fmc pa++(fmc fu++fmc fi)⟩,⟨30,0,[.int .i64 0,.int .i64 0,.slice [] 0 true,.slice [] 0 true,.slice [] 0 true]⟩,⟨33,0,pic p⟩,⟨30,1,fmc (pcF p pa)⟩]) _ by
  by_cases hst3:p.st=3
  .have d1:(p.st !=3)=false:=by simp[hst3]
   have e1:=hd.h3 hst3;have e2:pcF p pa=pa:=if_neg (λh=>h.1 hst3);rw[e2]at hm;refine .g (nq2 p6 (nq2 ps d1)) ?_;refine .us ?_;exact .at [3,4,5,6,8,11,12,13] hm (by rw[<-e1];rfl) rfl
  .have d1:(p.st !=3)=true:=by simp_all
   obtain⟨e1,_⟩:=hd.h4 hst3;have e5:(sqc s)[1]? =some (.int .i64 ((32 * B:Nat):Int)):=by rw[h5,e1]
   have e7:IntKind.i64.wrap ((16 * B:Nat):Int)=((16 * B:Nat):Int):=w64 _ (by have:=hd.rb;omega);have e6:((32 * B:Nat):Int).tdiv 2=((16 * B:Nat):Int):=by rw[zE _ _ om];omega
   refine .g (nq2 p6 (nq2 ps d1)) ?_;refine .t ?_;refine .g (nq2 h2 (nq2 e5 (nq2 e6 e7))) ?_;by_cases hz:0<pa.w
   .have d2:decide (0<pa.w)=true:=decide_eq_true hz;have e2:pcF p pa=fieldOf pa (p.st - 1):=if_pos ⟨hst3,hz⟩;rw[e2]at hm;obtain⟨g1,g2,g3⟩:=zej hd.mp om;obtain⟨v1,v2⟩:=zjV hd.hv g1 g2 g3;have ep:pcx (cxP s p b)=p.st - 1:=by simp_all[pcx,cxP];omega
    have cx:=λK=>zj9 s p b K hs;have px:=λK=>zfa (cxP s p b) K;rw[ep]at px;have fr:=λK=>zmO pa (p.st - 1) v1 (v2 hst3) om K;generalize fieldOf pa (p.st - 1)=gf at fr hm;have w5:(fmc pa)[0]? =some (.int .i64 pa.w):=rfl;refine .g (nq2 F7 (nq2 w5 d2)) ?_;refine .t ?_;(repeat refine .seq ?_);(repeat refine .seq ?_);refine .drawi [H.length+5] [(13,[0])] [] [114,115,116] mix kr (by simp<;>omega) λK hK=> ?_;refine sqx (nq2 h2 (nq2 h3 (nq2 p6 (nq2 t6 (nq2 F5 (nq2 F7 F8)))))) ?_;refine VCj.read (λ_ _=>cx _) rfl ?_;refine sqz ?_;refine VCj.read (λ_ _=>px _) rfl ?_;refine sqz ?_;refine VCj.read (λ_ _=>fr _) rfl ?_;simp(maxSteps:=3000000) (disch:=omega) only[go_sem,F5,F7,F8,F9,qA];refine hK _ _ ?_;clear hK K;exact .at [3,4,5,6,8,11,12,13] hm rfl rfl
   .have d2:decide (0<pa.w)=false:=decide_eq_false hz;have e2:pcF p pa=pa:=if_neg (λh=>hz h.2);rw[e2]at hm;have w5:(fmc pa)[0]? =some (.int .i64 pa.w):=rfl;refine .g (nq2 F7 (nq2 w5 d2)) ?_;refine .us ?_;exact .at [3,4,5,6,8,11,12,13] hm rfl rfl
 have hpw:=zxx (p:=p) hd.mp;have hpc:decide (pa.w≠0)=true->pcF p pa=zcw s p pa:=λh=>ztu hd.mp (of_decide_eq_true h);have hrs:=zow hd us;have eA:(s.w / 16).toNat=A:=om;have er:=hd.r;rw[er,eA,Int.toNat_natCast,<-hrs];clear hrs;generalize decide (pa.w≠0)=pw at hpw hpc |-;generalize zcw s p pa=cc at hpc hcg |-;generalize pcF p pa=pc at hpw hpc |-;have fl:=λK=>zo6 A B hd.ra hd.rb K;refine .m (nq2 h2 (nq2 hs0 (nq2 F5 F7))) fl ?_;clear fl;refine .e ?_;refine .view (Vs.ghost 15 4 1 rfl) ?_;refine .e ?_;refine .l ?_;have ro:=λK=>ziK s p K hs;rw[er]at ro;have hB:=hd.rb;suffices hl1:∀ k:Nat,k<=B->PL qD _ _ [(3,.bool b),(4,.ptr H.length 0 0),(5,.ptr (H.length+1) 0 0),(6,.ptr (H.length+2) 0 0),(8,.ptr (H.length+3) 0 0),(11,.ptr (H.length+4) 0 0),(13,.ptr (H.length+5) 1 0),(14,.ptr (H.length+6) 0 0),(15,.msl (H.length+7) (zb9 (zaV s p b us pa fu fi A pw cc (flt A B) k).2).length 0 k 1 true),(16,.int .i64 (k:Int))] (dxH H s p U us pa fu fi pc (zaV s p b us pa fu fi A pw cc (flt A B) k).1 (zaV s p b us pa fu fi A pw cc (flt A B) k).2) _ by exact .at [3,4,5,6,8,11,13,14,15,16] (hl1 0 om) (by simp[kp,slot,qF,zaV,zb9]) (by simp[dxH,zaV,zb9])
 refine cnt B (λk hk ih=> ?_) ?_
 .have ct:=zc4 hk;have hgk:=ziE hd us pw hcg (ztV hd.ra hd.rb) k om;have hlk:=zfR s p b us pa fu fi A pw cc (flt A B) k;rw[zaV]at ih;generalize zaV s p b us pa fu fi A pw cc (flt A B) k=R at ih hgk hlk |-;obtain⟨g,fl⟩:=R;simp only at ih hgk hlk |-;rw[zkS]at ih;have bl:=zlF fl;have co:=λK=>zmR s p U us b k K hs om hu hul;have vb:∀(g':Fm) (fl':List Bool) (K:za),Vs ⟨200,H⟩ [(3,.bool b),(4,.ptr H.length 0 0),(5,.ptr (H.length+1) 0 0),(6,.ptr (H.length+2) 0 0),(8,.ptr (H.length+3) 0 0),(11,.ptr (H.length+4) 0 0),(13,.ptr (H.length+5) 1 0),(14,.ptr (H.length+6) 0 0),(15,.msl (H.length+7) (zb9 fl').length 0 (k+1) 1 true),(16,.int .i64 ((k+1:Nat):Int))] (dxH H s p U us pa fu fi pc g' fl'++K)
    [(3,.bool b),(4,.ptr H.length 0 0),(5,.ptr (H.length+1) 0 0),(6,.ptr (H.length+2) 0 0),(8,.ptr (H.length+3) 0 0),(11,.ptr (H.length+4) 0 0),(13,.ptr (H.length+5) 1 0),(14,.ptr (H.length+6) 0 0),(15,.msl (H.length+7) (zb9 fl').length 0 (k+1) 1 true),(16,.int .i64 ((k+1:Nat):Int))] (dxH H s p U us pa fu fi pc g' fl'):=λg' fl' K=>by
   refine Vs.trim (znM H s p U us pa fu fi pc g' fl') (by simp[dxH]) rfl ?_;have hl:(dxH H s p U us pa fu fi pc g' fl').length=H.length+8:=by simp[dxH]
   rw[hl];exact⟨.id (.bool _),.id (.ptr om),.id (.ptr om),.id (.ptr om),.id (.ptr om),.id (.ptr om),.id (.ptr om),.id (.ptr om),.id (.msl om),.id (.int _ _),trivial⟩
  refine .round ?_;refine .f (λK k=>by simp(maxSteps:=3000000) (disch:=omega) only[go_sem,dxH,h2,h3,p6,t6];refine VCx.call (ro _) rfl ?_;simp(maxSteps:=3000000) (disch:=omega) only[go_sem,ct];exact k) ?_;refine .t ?_;refine .skip ?_;refine .b ?_;cases hn:zlC s p b us k with
  | none=>
   rw[hn]at ih co;dsimp only at ih;simp only[cnV,ag0]at co;refine .m (nq2 h2 (nq2 h3 (nq2 c2 c4))) co ?_;refine .g bl ?_;have w5:(fmc pc)[0]? =some (.int .i64 pc.w):=rfl;have hbs:zb9 (fl++[false])=zb9 fl++[.bool false]:=ziW _ _;have hbl:(zb9 (fl++[false])).length=fl.length+1:=by simp[zb9]
   cases pw with
   | false=>
    rw[if_neg sp]at ih;refine .g (nq2 F7 (nq2 w5 hpw)) ?_;refine .us ?_;refine .e ?_;refine .l ?_;refine .round ?_;refine .e ?_;refine .u ?_;refine .exit ?_;refine .e ?_;exact .at [3,4,5,6,8,11,13,14,15,16] (PL.view (vb g (fl++[false]) [⟨130,0,[.int .i64 0,.slice [] 0 true,.slice [] 0 true]⟩]) ih) (by simp[kp,slot,qF,hbl,bl,hlk]) (by simp[dxH,hbs])
   | true=>
    rw[if_pos rfl]at ih;have sr:=λK=>zkM A B k g pc hgk (by rw[hpc rfl];exact hcg) hk K;have e0:srF A k g pc=srF A k g cc:=by rw[hpc rfl]
    rw[e0]at sr;generalize srF A k g cc=g2 at sr ih;refine .g (nq2 F7 (nq2 w5 hpw)) ?_;refine .t ?_;refine .f (λK k=>by simp(maxSteps:=3000000) (disch:=omega) only[go_sem,F5,F7,F8,F9,qA];refine VCx.call (sr _) rfl ?_;simp(maxSteps:=3000000) (disch:=omega) only[go_sem,F5,F7,F8,F9,qA];exact k) ?_;refine .e ?_;refine .l ?_;refine .round ?_;refine .e ?_;refine .u ?_;refine .exit ?_;refine .e ?_;exact .at [3,4,5,6,8,11,13,14,15,16] (PL.view (vb g2 (fl++[false]) [⟨130,0,[.int .i64 0,.slice [] 0 true,.slice [] 0 true]⟩]) ih) (by simp[kp,slot,qF,hbl,bl,hlk]) (by simp[dxH,hbs])
  | some x=>
   obtain⟨v,D,qs⟩:=x;rw[hn]at ih co;dsimp only at ih;simp only[cnV,agS]at co;obtain⟨t,q,a,hsl,hqs⟩:=zsg hn;have hsb:=zkL hsl;obtain⟨e1,e2⟩:=zhu hd.vc hsl;rw[zkp hd]at e1;have lm:=zaH mbc 408 D (λx hx=>zu x (hsb.2.1 x hx));have hll:=hsb.1;have ql:=zl9 qs;have hql:qs.length=D.length:=by rw[hqs,zkI]
   refine .m (nq2 h2 (nq2 h3 (nq2 c2 c4))) co ?_;clear co hsl hn;refine .g bl ?_;have hbs:zb9 (fl++[true])=zb9 fl++[.bool true]:=ziW _ _;have hbl:(zb9 (fl++[true])).length=fl.length+1:=by simp[zb9]
   refine .e ?_;refine .us ?_;refine .e ?_;refine .l ?_;obtain⟨G',hG'⟩:∃ G',rwF s p b pa fu fi A k D (v:Int) 0 g=G':=⟨_,rfl⟩;rw[hG']at ih;suffices hl2:∀(j:Nat) (q1:Int) (gg:Fm),j<=D.length->Gok A B gg->(∀ x∈zdJ q1 (D.drop j),1<=x/\x<=31)->qs.drop j=zdJ q1 (D.drop j)->rwF s p b pa fu fi A k (D.drop j) q1 j gg=G'->PL qD _ _ [(3,.bool b),(4,.ptr H.length 0 0),(5,.ptr (H.length+1) 0 0),(6,.ptr (H.length+2) 0 0),(8,.ptr (H.length+3) 0 0),(11,.ptr (H.length+4) 0 0),(13,.ptr (H.length+5) 1 0),(14,.ptr (H.length+6) 0 0),(15,.msl (H.length+7) (zb9 (fl++[true])).length 0 (k+1) 1 true),(16,.int .i64 (k:Int)),(17,.ptr (H.length+8) 0 0),(18,.bool true),(19,.int .i64 (j:Int))] (dxH H s p U us pa fu fi pc gg (fl++[true])++[⟨130,0,[.int .i64 (v:Int),.slice (D.flatMap mbc) D.length false,.slice (qC qs) qs.length false]⟩]) _ by exact .at [3,4,5,6,8,11,13,14,15,16,17,18,19] (hl2 0 v g om hgk hsb.2.2 hqs hG') (by simp[kp,slot,qF,hbl,bl,hlk]) (by simp[dxH,hbs])
   intro j q1 gg hj hgg hbd hqd hG;induction hd2:D.length - j using Nat.strongRecOn generalizing j q1 gg with
   | _ d2 ih2=>
    by_cases hjl:j<D.length
    .have dj:decide ((j:Int)<(D.length:Int))=true:=decide_eq_true om;have ha:=zdt mbc 408 D j hjl (λx hx=>zu x (hsb.2.1 x hx));have hfm:=e2 _ (List.getElem_mem hjl);have hlv:=hsb.2.1 _ (List.getElem_mem hjl);have hqa:=zxq qs j om;rw[qH hjl]at hbd hG hqd;rw[qH (show j<qs.length from om)]at hqd;simp only[zdJ,rwF,List.cons.injEq]at hbd hG hqd;obtain⟨hq1,hqd⟩:=hqd;rw[hq1]at hqa;clear hq1;generalize D[j]=m at *;have hb1:=hbd (q1+m.dl) (List.mem_cons_self ..);have hjA:j<A:=om;have re0:=zgN hd hfm p.al hb1 hjA hk;have r16:=zgO re0;have re:=λK=>zoz (cxP s p b) s p.al (q1+m.dl) m pa fu fi (j:Int) (k:Int) K hlv hs.ia hs.ie;have cx:=λK=>zj9 s p b K hs;generalize zdk (cxP s p b) s.ia s.ie p.al (q1+m.dl) m pa fu fi (j:Int) (k:Int)=T at re re0 r16 hG;obtain⟨gm,em⟩:=T;simp only at re re0 r16 hG;subst re0;have sm:=λK=>zl3 A B j k gg gm hgg r16 hjA hk K;have hsm:=zl2 hgg r16 hjA hk;generalize smF A j k gg gm=g2 at sm hsm hG;have m1:=zu m hlv;have m2:=zcu m;have m3:qE 408 (mbc m)=mbc m:=List.take_of_length_le om;have cl4:(cxc (cxP s p b)).length=4:=rfl;refine .round ?_;refine .f (λK k=>by simp(maxSteps:=3000000) (disch:=omega) only[go_sem,dxH,dj];exact k) ?_;refine .t ?_;refine .skip ?_;refine .b ?_;(repeat refine .seq ?_);refine .view (Vs.place 30) ?_;(repeat refine .seq ?_);refine .drawi [H.length+9] [(20,[0])] [(20,0)] [170,187] mix kr (by simp<;>omega) λK hK=> ?_;simp(maxSteps:=3000000) (disch:=omega) only[go_sem,zD,h2,h3,p6,t6,pal];refine VCj.read (λ_ _=>cx _) rfl ?_;simp(maxSteps:=3000000) (disch:=omega) only[go_sem,zD,h2,h3,p6,pal,hqa,ql,ha,lm,m1,m3,rl,rt];refine VCj.read (λ_ _=>re _) rfl ?_;refine sqx (nq2 F5 (nq2 F7 z9)) ?_;refine hK _ _ ?_;clear hK K;refine .f (λK k=>by simp(maxSteps:=3000000) (disch:=omega) only[go_sem,F5,F7,F8,F9,qA];refine VCx.call (sm _) rfl ?_;simp(maxSteps:=3000000) (disch:=omega) only[go_sem,F5,F7,F8,F9,qA];exact k) ?_;refine .e ?_;have hnx:=ih2 (D.length - (j+1)) om (j+1) (q1+m.dl) g2 om hsm (λx hx=>hbd x (List.mem_cons_of_mem _ hx)) hqd hG rfl;refine .keep [3,4,5,6,8,11,13,14,15,16,17,18,19] ?_;refine .view (Vs.trim (F1:=[(3,.bool b),(4,.ptr H.length 0 0),(5,.ptr (H.length+1) 0 0),(6,.ptr (H.length+2) 0 0),(8,.ptr (H.length+3) 0 0),(11,.ptr (H.length+4) 0 0),(13,.ptr (H.length+5) 1 0),(14,.ptr (H.length+6) 0 0),(15,.msl (H.length+7) (zb9 (fl++[true])).length 0 (k+1) 1 true),(16,.int .i64 (k:Int)),(17,.ptr (H.length+8) 0 0),(18,.bool true),(19,.int .i64 ((j+1:Nat):Int))]) (H1:=dxH H s p U us pa fu fi pc g2 (fl++[true])++[⟨130,0,[.int .i64 (v:Int),.slice (D.flatMap mbc) D.length false,.slice (qC qs) qs.length false]⟩]) (K:=[⟨30,1,fmc gm⟩]) (λhh=>zh0 (λb' hb' x hx=> ?_) (znM H s p U us pa fu fi pc g2 (fl++[true]) hh)) (by simp[dxH]) (by unfold dxH;simp) ?_) hnx
     .obtain rfl:=List.mem_singleton.1 hb';simp only[qJ,qG,or_false]at hx;rcases hx with rfl|rfl|rfl
      .exact .int _ _
      .exact zr (zeN _ _)
      .exact zr (znr _ _)
     .have hl:(dxH H s p U us pa fu fi pc g2 (fl++[true])++[⟨130,0,[.int .i64 (v:Int),.slice (D.flatMap mbc) D.length false,.slice (qC qs) qs.length false]⟩]:za).length=H.length+9:=by simp[dxH]
      rw[hl];exact⟨.id (.bool _),.id (.ptr om),.id (.ptr om),.id (.ptr om),.id (.ptr om),.id (.ptr om),.id (.ptr om),.id (.ptr om),.id (.msl om),.id (.int _ _),.id (.ptr om),.id (.bool _),.id (.int _ _),trivial⟩
    .have hje:j=D.length:=om;have dj:decide ((j:Int)<(D.length:Int))=false:=decide_eq_false om;rw[hje,List.drop_length]at hG;simp only[rwF]at hG;subst hG;refine .round ?_;refine .f (λK k=>by simp(maxSteps:=3000000) (disch:=omega) only[go_sem,dxH,dj];exact k) ?_;refine .u ?_;refine .exit ?_;refine .e ?_;exact .at [3,4,5,6,8,11,13,14,15,16] (PL.view (vb gg (fl++[true]) [⟨130,0,[.int .i64 (v:Int),.slice (D.flatMap mbc) D.length false,.slice (qC qs) qs.length false]⟩]) ih) rfl (by simp[dxH])
 .have hlB:=zfR s p b us pa fu fi A pw cc (flt A B) B;generalize zaV s p b us pa fu fi A pw cc (flt A B) B=R at hlB |-;obtain⟨g,fl⟩:=R;simp only at hlB |-;refine .round ?_;refine .f (λK k=>by simp(maxSteps:=3000000) (disch:=omega) only[go_sem,dxH,h2,h3,p6,t6];refine VCx.call (ro _) rfl ?_;simp(maxSteps:=3000000) (disch:=omega) only[go_sem,zdK B];exact k) ?_;refine .u ?_;refine .exit ?_;refine .f (λK k=>by simp(maxSteps:=3000000) (disch:=omega) only[go_sem,F5,F7,F8,z9,qA];exact k) ?_;unfold zbw;rw[if_pos rfl];refine .w (.tup [.agg (fmc g),.msl (H.length+7) (zb9 fl).length 0 B 1 true,.int .i64 0]) (nq2 F7 F8) ?_;dsimp only;rw[hlB];refine .base (Fz.tupC ⟨.id (zq (zas _ _ _ _ _ _ _ _ _ _ _ _)),Fz.mslC (e:=4) (xs:=zb9 fl) om (apn _ _ 7) (by rw[zlF,hlB,Nat.mul_one]) (FzC.refl (zn6 _ _)),.id (.int _ _),trivial⟩)
end Go.Proofs.YtdajpjenhcobkaaGreatDoor.Sc
