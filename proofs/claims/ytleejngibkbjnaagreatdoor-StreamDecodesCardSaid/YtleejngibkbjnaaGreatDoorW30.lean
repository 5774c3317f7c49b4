/-
  Parts of the proof. No condition.
-/
import Derived.Test.YtleejngibkbjnaaGreatDoorW25
import Derived.Test.YtleejngibkbjnaaGreatDoorW26
import Derived.Test.YtleejngibkbjnaaGreatDoorW29
open Go.Proofs.YtleejngibkbjnaaGreatDoor.Pm.PV renaming int → O
open Go.IntKind renaming i64 → J
open List renaming take → qA, drop → qD
open Nat renaming beq → qB
open Go.Proofs.Tryz
set_option linter.all false
set_option maxRecDepth 100000
set_option maxHeartbeats 32000000
namespace Go.Proofs.YtleejngibkbjnaaGreatDoor.Sc
open Pm Ty Go.RowKit
theorem zfe(f:Fm)(w h:Int)(H:za):CallOk prog 103 [.agg (fmc f),O J w,O J h] H (.bool (mOr f w h)) H:=by have so:=λK=>zgn f w h K;have hm:mOr f w h=(decide (f.w=0)||zlN f w h):=rfl;rw[hm];generalize zlN f w h=r at so |-;obtain⟨fw,fh,y,u,v⟩:=f;simp only[fmc]at so |-;refine .body (F0:=[(0,.agg [O J fw,O J fh,.slice (bs y) y.length false,.slice (bs u) u.length false,.slice (bs v) v.length false]),(1,O J w),(2,O J h)]) func103 rfl ntmps103 results103 rfl kr rfl ?_;refine .e (.x λK hK=> ?_);simp(maxSteps:=9^9) (disch:=omega) only[go_sem];(repeat'(first|((first|refine zg ?_ ?_|refine uI ?_ ?_)<;>intro h<;>(try simp only[nqb]at h)<;>simp(maxSteps:=9^9) (disch:=omega) only[go_sem,h])|((first|refine VCx.call (so _) rfl ?_);simp(maxSteps:=9^9) (disch:=omega) only[go_sem])));all_goals(refine hK _ _ ?_;clear hK;(refine .ret ⟨_,rfl,?_⟩;first|refine .inl ⟨?_,rfl⟩|refine .base (.id' ?_ (.bool _))|refine .base (.id' ?_ (.int _ _)));(simp_all[slot,qB]<;>first|rfl|omega|(rw[gJ];simp;done)|(rw[gJ];simp;omega)))
def pcF(p:Pi)(pa:Fm):Fm:=if p.st≠3/\0<pa.w then zo pa (p.st - 1)else pa
theorem zw5{f:Fm}{w h:Int}(hm:mOr f w h=true)(hz:f.w≠0):0<f.w:=by have:=(zeO hm hz).1;unfold fmd at this;rw[gB]at this;have:=za8 this.1;omega
theorem zz7{s:Sq}{p:Pi}{pa:Fm}(hm:mOr pa s.w s.h=true):decide (0<(pcF p pa).w)=decide (pa.w≠0):=by
 unfold pcF;by_cases hz:pa.w=0
 .simp_all
 .have:=zw5 hm hz;rw[gX hz];split
  .exact gX (by unfold zo fld;show 0<((2 * (pa.w / 2).toNat:Nat):Int);have h2:=(zeO hm hz).1;unfold fmd at h2;rw[gB]at h2;have:=za8 h2.1;omega)
  simp_all
theorem zvz{s:Sq}{p:Pi}{pa:Fm}(hm:mOr pa s.w s.h=true)(hz:pa.w≠0):pcF p pa=zcH s p pa:=by grind[zw5,pcF,zcH]
theorem zlZ(s:Sq)(p:Pi)(b:Bool)(us:List (Int×List UInt8))(pa fu fi:Fm)(A:Nat)(pw:Bool)(c:Fm)(k:Nat)(g:Fm):
  zqd s p b us pa fu fi A pw c k g=match zmV s p b us k with|none=>(if pw then srF A k g c else g,false)|some x=>(rwF s p b pa fu fi A k x.2.1 (x.1:Int) 0 g,true):=by
 unfold zqd zmV;cases fnu us k with
 | none=>rfl
 | some u=>
  dsimp only;rw[zrL];cases slT s p b u.1 u.2 with
  | er e a=>rfl
  | ok x a=>rfl
theorem zud{s:Sq}{p:Pi}{b:Bool}{us:List (Int×List UInt8)}{k v:Nat}{D:List Mb}{qs:List Int}(h:zmV s p b us k=some (v,D,qs)):∃ t q a,slT s p b t q= .ok (v,D) a/\qs=zdZ (v:Int) D:=by
 unfold zmV at h;split at h
 .cases h
 .rename_i u _;rw[zrL]at h;cases hs:slT s p b u.1 u.2 with
  | er e a=>rw[hs]at h;cases h
  | ok x a=>grind[Rr.bind,Option.some.injEq,Prod.mk.injEq]
def zce(l:List Bool):List PV:=l.map PV.bool
theorem zmY(l:List Bool):(zce l).length=l.length:=by simp[zce]
theorem zjM(l:List Bool)(b:Bool):zce (l++[b])=zce l++[.bool b]:=by simp[zce]
theorem zpK(n:Nat)(l:List Bool):∀ x∈zce l,Scoped n x:=λx hx=>by obtain⟨y,_,rfl⟩:=vW.1 hx;exact .bool _
theorem zgr(s:Sq)(p:Pi)(b:Bool)(us:List (Int×List UInt8))(pa fu fi:Fm)(A:Nat)(pw:Bool)(c g:Fm):∀ k,(zaO s p b us pa fu fi A pw c g k).2.length=k
 | 0=>rfl
 | k+1=>by rw[zaO,gP,zgr s p b us pa fu fi A pw c g k];rfl
theorem zjr{s:Sq}{p:Pi}{pa fu fi:Fm}{b:Bool}{A B:Nat}(h:DecOk s p pa fu fi b A B)(us:List (Int×List UInt8))(pw:Bool){c g:Fm}(hc:Gok A B c)(hg:Gok A B g):∀ k,k<=B->Gok A B (zaO s p b us pa fu fi A pw c g k).1
 | 0,_=>hg
 | k+1,hk=>by
  have ih:=zjr h us pw hc hg k om;rw[zaO];dsimp only;generalize (zaO s p b us pa fu fi A pw c g k).1=f at ih |-;rw[zlZ];cases hn:zmV s p b us k with
  | none=>
   grind[zhf]
  | some x=>obtain⟨v,D,qs⟩:=x;dsimp only;obtain⟨t,q,a,hs,_⟩:=zud hn;obtain⟨e1,e2⟩:=zh6 h.vc hs;grind[zhi,zlt,zlR]
theorem zvZ{A B:Nat}(hA:1<=A/\A<=4)(hB:1<=B/\B<=4):Gok A B (flt A B):=⟨rfl,rfl,hA,hB,by simp[flt],by simp[flt],by simp[flt]⟩
def dxH(H:za)(s:Sq)(p:Pi)(U:List (List UInt8))(us:List (Int×List UInt8))(pa fu fi pc g:Fm)(l:List Bool):za:=H++[⟨37,0,sqc s⟩,⟨45,0,cdc p U us⟩,⟨85,0,fmc pa++(fmc fu++fmc fi)⟩,⟨29,0,[O J 0,O J 0,.slice [] 0 true,.slice [] 0 true,.slice [] 0 true]⟩,⟨41,0,pic p⟩,⟨29,1,fmc pc⟩,⟨29,0,fmc g⟩,⟨4,(zce l).length,zce l⟩]
theorem zpl(H:za)(s:Sq)(p:Pi)(U:List (List UInt8))(us:List (Int×List UInt8))(pa fu fi pc g:Fm)(l:List Bool)(h:HSc H):HSc (dxH H s p U us pa fu fi pc g l):=zfi (λb hb x hx=>by
 simp only[gM,gL,uA]at hb;rcases hb with rfl|rfl|rfl|rfl|rfl|rfl|rfl|rfl
 .exact zaf _ _ x hx
 .exact zgN _ _ _ _ x hx
 .rcases uF.1 hx with hx|hx
  .exact zan _ _ _ _ _ _ _ _ _ _ _ _ x hx
  .rcases uF.1 hx with hx|hx
   .exact zan _ _ _ _ _ _ _ _ _ _ _ _ x hx
   .exact zan _ _ _ _ _ _ _ _ _ _ _ _ x hx
 .exact zan _ 0 0 [] [] [] _ _ _ _ _ _ x hx
 .exact zkx _ _ x hx
 .exact zan _ _ _ _ _ _ _ _ _ _ _ _ x hx
 .exact zan _ _ _ _ _ _ _ _ _ _ _ _ x hx
 .exact zpK _ _ x hx) h
theorem zfn(s:Sq)(p:Pi)(U:List (List UInt8))(us:List (Int×List UInt8))(pa fu fi:Fm)(b:Bool)(hs:SqOk s)(hu:us.length<=1000000)(hul:∀ u∈us,zgD u.1/\u.2.length<=100000000)(H:za):
  CallOk prog 57 [.agg (sqc s),.agg (cdc p U us),.agg (fmc pa++(fmc fu++fmc fi)),.bool b] H (zbF (za9 s p us pa fu fi b)) H:=by
 have h1:=zab s;have h2:=zaj s hs;have h3:=zbu s hs;have h4:(sqc s)[0]? =some (O J s.w):=rfl;have h5:(sqc s)[1]? =some (O J s.h):=rfl;have c1:=zex p U us;have c2:=ze0 p U us;have c3:=zui p U us;have p6:(pic p).length=6:=rfl;have p7:(pic p).all PV.cell=true:=rfl;have t6:qA 6 (pic p)=pic p:=rfl;have ty:(pic p)[0]? =some (O J p.ty):=rfl;have ps:(pic p)[1]? =some (O J p.st):=rfl;have pal:(pic p)[5]? =some (.bool p.al):=rfl;have rl:(fmc pa++(fmc fu++fmc fi)).length=15:=rfl;have rc:(fmc pa++(fmc fu++fmc fi)).all PV.cell=true:=rfl;have rt:qA 15 (fmc pa++(fmc fu++fmc fi))=fmc pa++(fmc fu++fmc fi):=rfl;have r0:qA 5 (fmc pa++(fmc fu++fmc fi))=fmc pa:=rfl;have r1:qA 5 (qD 5 (fmc pa++(fmc fu++fmc fi)))=fmc fu:=rfl;have r2:qA 5 (qD 10 (fmc pa++(fmc fu++fmc fi)))=fmc fi:=rfl;have w0:(fmc pa++(fmc fu++fmc fi))[0]? =some (O J pa.w):=rfl;have w1:(fmc pa++(fmc fu++fmc fi))[5]? =some (O J fu.w):=rfl;have w2:(fmc pa++(fmc fu++fmc fi))[10]? =some (O J fi.w):=rfl;have F5:∀ g:Fm,(fmc g).all PV.cell=true:=λ_=>rfl;have F7:∀ g:Fm,(fmc g).length=5:=λ_=>rfl;have F8:∀ g:Fm,qA 5 (fmc g)=fmc g:=λ_=>rfl;have F9:∀ g:Fm,qD 5 (fmc g)=[]:=λ_=>rfl;have z9:qD 5 [PV.int .i64 0,PV.int .i64 0,PV.slice [] 0 true,PV.slice [] 0 true,PV.slice [] 0 true]=[]:=rfl;have fo:=λK=>zmu s p b K hs;have z0:=λK=>zfe pa s.w s.h K;have z1:=λK=>zfe fu s.w s.h K;have z2:=λK=>zfe fi s.w (s.h.tdiv 2) K;have h0:zg6 s p pa fu fi b=0->∃ A B,DecOk s p pa fu fi b A B:=DecOk.of;unfold za9;have hE:zg6 s p pa fu fi b=if(zcq s p b&&(mOr pa s.w s.h&&(mOr fu s.w s.h&&mOr fi s.w (s.h.tdiv 2))))=true then(if((!decide (p.ty=1)&&decide (pa.w=0))||((decide (p.ty=3)&&decide (fu.w=0))||(decide (p.ty=2)&&(b&&decide (fi.w=0)))))=true then 6 else 0)else 1:=rfl
 generalize zg6 s p pa fu fi b=e at h0 hE |-;have bad:∀(e:Int) (K:za),Fin H (.tup [.agg [O J 0,O J 0,.slice [] 0 true,.slice [] 0 true,.slice [] 0 true],.slice [] 0 true,O J e]) H (.tup [.agg [O J 0,O J 0,.slice [] 0 true,.slice [] 0 true,.slice [] 0 true],.slice [] 0 true,O J e]) (H++K):=λe K=>Fin.base (.id (.tup (asc λx hx=>by
   simp only[gM,gL,uA]at hx;rcases hx with rfl|rfl|rfl
   .exact zn (zan _ 0 0 [] [] [] _ _ _ _ _ _)
   .exact zk (λx hx=>by cases hx)
   .exact .int _ _)))
 refine .go func57 ntmps57 results57 ?_;refine .g (nq2 h1 (nq2 c1 rc)) ?_;refine .g (nq2 c2 (nq2 c3 (nq2 p6 (nq2 p7 t6)))) ?_;(repeat refine .seq ?_);have hwd:IntKind.i64.wrap (s.h.tdiv 2)=s.h.tdiv 2:=by
  have:=hs.h;refine w64 _ ?_;rcases Int.le_total 0 s.h with h|h
  .rw[wQ h];omega
  .have e:s.h.tdiv 2= -((-s.h).tdiv 2):=by simp_all
   simp_all[wQ];omega
 generalize hc1:(zcq s p b&&(mOr pa s.w s.h&&(mOr fu s.w s.h&&mOr fi s.w (s.h.tdiv 2))))=B1 at hE;refine .rgv (P:=prog) [3,4,5,6,8,9,10,11] 59 (.bool (!B1)) ?_ ?_ ?_
 .rfl
 .generalize zcq s p b=q1 at *;generalize mOr pa s.w s.h=q2 at *;generalize mOr fu s.w s.h=q3 at *;generalize mOr fi s.w (s.h.tdiv 2)=q4 at *;have wd:IntKind.i64.wrap (s.h.tdiv 2)=s.h.tdiv 2:=hwd;simp(maxSteps:=9^9) (disch:=omega) only[go_sem,h2,h3,h4,h5,p6,t6,rl,r0,r1,r2];(repeat'(first|((first|refine zg ?_ ?_|refine uI ?_ ?_)<;>intro h<;>(try simp only[nqb]at h)<;>simp(maxSteps:=9^9) (disch:=omega) only[go_sem,h2,h3,h4,h5,p6,t6,rl,r0,r1,r2,wd,h])|((first|refine VCx.call (fo _) rfl ?_|refine VCx.call (z0 _) rfl ?_|refine VCx.call (z1 _) rfl ?_|refine VCx.call (z2 _) rfl ?_);simp(maxSteps:=9^9) (disch:=omega) only[go_sem,h2,h3,h4,h5,p6,t6,rl,r0,r1,r2,wd])));all_goals(subst hc1;(simp_all[kp,slot,qB]<;>first|rfl|omega|(rw[gJ];simp;done)|(rw[gJ];simp;omega)))
 clear fo z0 z1 z2;cases B1 with
 | false=>
  rw[gC sp]at hE;subst hE;refine .t (.e ?_);have n1:¬((1:Int)=0):=by decide
  rw[gC n1];unfold zbF;rw[gC (by exact n1)];refine .v (.tup [.agg [O J 0,O J 0,.slice [] 0 true,.slice [] 0 true,.slice [] 0 true],.slice [] 0 true,O J 1]) ?_;exact bad _ _
 | true=>
 rw[gD rfl]at hE;refine .us ?_;(repeat refine .seq ?_);generalize hc2:((!decide (p.ty=1)&&decide (pa.w=0))||((decide (p.ty=3)&&decide (fu.w=0))||(decide (p.ty=2)&&(b&&decide (fi.w=0)))))=B2 at hE;refine .rgv (P:=prog) [3,4,5,6,8,9,10,11] 94 (.bool B2) ?_ ?_ ?_
 .rfl
 .generalize p.ty=q1 at *;generalize pa.w=q2 at *;generalize fu.w=q3 at *;generalize fi.w=q4 at *;simp(maxSteps:=9^9) (disch:=omega) only[go_sem,p6,ty,rl,w0,w1,w2];(repeat'((first|refine zg ?_ ?_|refine zr ?_ ?_|refine VOg_cond ?_ ?_|refine VOh_cond ?_ ?_|refine zV ?_ ?_|refine uI ?_ ?_)<;>intro h<;>(try simp only[nqb]at h)<;>simp(maxSteps:=9^9) (disch:=omega) only[go_sem,p6,ty,rl,w0,w1,w2,h]));all_goals(subst hc2;(simp_all[kp,slot,qB]<;>first|rfl|omega|(rw[gJ];simp;done)|(rw[gJ];simp;omega)))
 cases B2 with
 | true=>
  rw[gD rfl]at hE;subst hE;refine .t (.e ?_);have n1:¬((6:Int)=0):=by decide
  rw[gC n1];unfold zbF;rw[gC (by exact n1)];refine .v (.tup [.agg [O J 0,O J 0,.slice [] 0 true,.slice [] 0 true,.slice [] 0 true],.slice [] 0 true,O J 6]) ?_;exact bad _ _
 | false=>
 rw[gC sp]at hE;subst hE;obtain⟨A,B,hd⟩:=h0 rfl;clear h0 hc1 hc2 bad;rw[gD rfl];refine .us ?_;have hw:=hd.w;have hst:=hd.st;have c4:=zuh p U us;have hcg:=zhB hd;have hs0:(sqc s)[0]? =some (O J ((16 * A:Nat):Int)):=by rw[h4,hw]
 (repeat refine .seq ?_);refine .view (Vs.place 29) ?_;refine .eq rfl (show _=H++[⟨37,0,sqc s⟩,⟨45,0,cdc p U us⟩,⟨85,0,fmc pa++(fmc fu++fmc fi)⟩,⟨29,0,[O J 0,O J 0,.slice [] 0 true,.slice [] 0 true,.slice [] 0 true]⟩,⟨41,0,pic p⟩,⟨29,0,[]⟩] by simp) ?_;refine .y [H.length+5] [(13,[0])] [(13,0)] [] λK hK=> ?_;refine sqx (nq2 h2 (nq2 h5 (nq2 rl (nq2 r0 (nq2 F5 (nq2 F7 z9)))))) ?_;refine hK _ _ ?_;clear hK K;suffices hm:PW prog _ _ [(3,.bool b),(4,.ptr H.length 0 0),(5,.ptr (H.length+1) 0 0),(6,.ptr (H.length+2) 0 0),(8,.ptr (H.length+3) 0 0),(11,.ptr (H.length+4) 0 0),(12,O J ((16 * B:Nat):Int)),(13,.ptr (H.length+5) 1 0)] (H++[⟨37,0,sqc s⟩,⟨45,0,cdc p U us⟩,⟨85,0,fmc pa++(fmc fu++fmc fi)⟩,⟨29,0,[O J 0,O J 0,.slice [] 0 true,.slice [] 0 true,.slice [] 0 true]⟩,⟨41,0,pic p⟩,⟨29,1,fmc (pcF p pa)⟩]) _ by
  by_cases hst3:p.st=3
  .have d1:(p.st !=3)=false:=by simp[hst3]
   have e1:=hd.h3 hst3;have e2:pcF p pa=pa:=gC (λh=>h.1 hst3);rw[e2]at hm;refine .g (nq2 p6 (nq2 ps d1)) ?_;refine .us ?_;exact .a hm (by rw[<-e1];rfl) rfl
  .have d1:(p.st !=3)=true:=by simp_all
   obtain⟨e1,_⟩:=hd.h4 hst3;have e5:(sqc s)[1]? =some (O J ((32 * B:Nat):Int)):=by rw[h5,e1]
   have e7:IntKind.i64.wrap ((16 * B:Nat):Int)=((16 * B:Nat):Int):=w64 _ (by have:=hd.rb;omega);have e6:((32 * B:Nat):Int).tdiv 2=((16 * B:Nat):Int):=by grind
   refine .g (nq2 p6 (nq2 ps d1)) ?_;refine .t (.g (nq2 h2 (nq2 e5 (nq2 e6 e7))) ?_);by_cases hz:0<pa.w
   .have d2:decide (0<pa.w)=true:=gX hz;have e2:pcF p pa=zo pa (p.st - 1):=gD ⟨hst3,hz⟩;rw[e2]at hm;obtain⟨g1,g2,g3⟩:=zeO hd.mp om;obtain⟨v1,v2⟩:=zkN hd.hv g1 g2 g3;have ep:pcx (cxP s p b)=p.st - 1:=by simp_all[pcx,cxP];omega
    have cx:=λK=>zk6 s p b K hs;have px:=λK=>zfK (cxP s p b) K;rw[ep]at px;have fr:=λK=>zn9 pa (p.st - 1) v1 (v2 hst3) om K;generalize zo pa (p.st - 1)=gf at fr hm;have w5:(fmc pa)[0]? =some (O J pa.w):=rfl;refine .g (nq2 F7 (nq2 w5 d2)) ?_;refine .t ?_;(repeat refine .seq ?_);refine .y [H.length+5] [(13,[0])] [] [114,115,116] λK hK=> ?_;refine sqx (nq2 h2 (nq2 h3 (nq2 p6 (nq2 t6 (nq2 F5 (nq2 F7 F8)))))) ?_;refine VCj.read (λ_ _=>cx _) rfl ?_;refine sqz ?_;refine VCj.read (λ_ _=>px _) rfl ?_;refine sqz ?_;refine VCj.read (λ_ _=>fr _) rfl ?_;simp(maxSteps:=9^9) (disch:=omega) only[go_sem,F5,F7,F8,F9,gQ];refine hK _ _ ?_;clear hK K;exact .a hm
   .have d2:decide (0<pa.w)=false:=gW hz;have e2:pcF p pa=pa:=gC (λh=>hz h.2);rw[e2]at hm;have w5:(fmc pa)[0]? =some (O J pa.w):=rfl;refine .g (nq2 F7 (nq2 w5 d2)) ?_;refine .us ?_;exact .a hm
 have hpw:=zz7 (p:=p) hd.mp;have hpc:decide (pa.w≠0)=true->pcF p pa=zcH s p pa:=λh=>zvz hd.mp (vF h);have hrs:=zqc hd us;have eA:(s.w / 16).toNat=A:=om;have er:=hd.r;rw[er,eA,uV,<-hrs];clear hrs;generalize decide (pa.w≠0)=pw at hpw hpc |-;generalize zcH s p pa=cc at hpc hcg |-;generalize pcF p pa=pc at hpw hpc |-;have fl:=λK=>zqI A B hd.ra hd.rb K;refine .m (nq2 h2 (nq2 hs0 (nq2 F5 F7))) fl ?_;clear fl;refine .e (.view (Vs.ghost 15 4 1 rfl) ?_);refine .e (.l ?_);have ro:=λK=>zjw s p K hs;rw[er]at ro;have hB:=hd.rb;suffices hl1:∀ k:Nat,k<=B->PL prog _ _ [(3,.bool b),(4,.ptr H.length 0 0),(5,.ptr (H.length+1) 0 0),(6,.ptr (H.length+2) 0 0),(8,.ptr (H.length+3) 0 0),(11,.ptr (H.length+4) 0 0),(13,.ptr (H.length+5) 1 0),(14,.ptr (H.length+6) 0 0),(15,.msl (H.length+7) (zce (zaO s p b us pa fu fi A pw cc (flt A B) k).2).length 0 k 1 true),(16,O J (k:Int))] (dxH H s p U us pa fu fi pc (zaO s p b us pa fu fi A pw cc (flt A B) k).1 (zaO s p b us pa fu fi A pw cc (flt A B) k).2) _ by exact .a (hl1 0 om) (by simp[kp,slot,qB,zaO,zce]) (by simp[dxH,zaO,zce])
 refine cnt B (λk hk ih=> ?_) ?_
 .have ct:=zco hk;have hgk:=zjr hd us pw hcg (zvZ hd.ra hd.rb) k om;have hlk:=zgr s p b us pa fu fi A pw cc (flt A B) k;rw[zaO]at ih;generalize zaO s p b us pa fu fi A pw cc (flt A B) k=R at ih hgk hlk |-;obtain⟨g,fl⟩:=R;simp only at ih hgk hlk |-;rw[zlZ]at ih;have bl:=zmY fl;have co:=λK=>zod s p U us b k K hs om hu hul;have vb:∀(g':Fm) (fl':List Bool) (K:za),Vs ⟨200,H⟩ [(3,.bool b),(4,.ptr H.length 0 0),(5,.ptr (H.length+1) 0 0),(6,.ptr (H.length+2) 0 0),(8,.ptr (H.length+3) 0 0),(11,.ptr (H.length+4) 0 0),(13,.ptr (H.length+5) 1 0),(14,.ptr (H.length+6) 0 0),(15,.msl (H.length+7) (zce fl').length 0 (k+1) 1 true),(16,O J ((k+1:Nat):Int))] (dxH H s p U us pa fu fi pc g' fl'++K)
    [(3,.bool b),(4,.ptr H.length 0 0),(5,.ptr (H.length+1) 0 0),(6,.ptr (H.length+2) 0 0),(8,.ptr (H.length+3) 0 0),(11,.ptr (H.length+4) 0 0),(13,.ptr (H.length+5) 1 0),(14,.ptr (H.length+6) 0 0),(15,.msl (H.length+7) (zce fl').length 0 (k+1) 1 true),(16,O J ((k+1:Nat):Int))] (dxH H s p U us pa fu fi pc g' fl'):=λg' fl' K=>by
   refine Vs.trim (zpl H s p U us pa fu fi pc g' fl') (by simp[dxH]) rfl ?_;have hl:(dxH H s p U us pa fu fi pc g' fl').length=H.length+8:=by simp[dxH]
   rw[hl];exact⟨.id (.bool _),.id (.ptr om),.id (.ptr om),.id (.ptr om),.id (.ptr om),.id (.ptr om),.id (.ptr om),.id (.ptr om),.id (.msl om),.id (.int _ _),trivial⟩
  refine .round (.f (λK k=>by simp(maxSteps:=9^9) (disch:=omega) only[go_sem,dxH,h2,h3,p6,t6];refine VCx.call (ro _) rfl ?_;simp(maxSteps:=9^9) (disch:=omega) only[go_sem,ct];exact k) ?_);refine .t (.skip ?_);refine .b ?_;cases hn:zmV s p b us k with
  | none=>
   rw[hn]at ih co;dsimp only at ih;simp only[cnV,ag0]at co;refine .m (nq2 h2 (nq2 h3 (nq2 c2 c4))) co ?_;refine .g bl ?_;have w5:(fmc pc)[0]? =some (O J pc.w):=rfl;have hbs:zce (fl++[false])=zce fl++[.bool false]:=zjM _ _;have hbl:(zce (fl++[false])).length=fl.length+1:=by simp[zce]
   cases pw with
   | false=>
    rw[gC sp]at ih;refine .g (nq2 F7 (nq2 w5 hpw)) ?_;refine .us (.e ?_);refine .l (.round ?_);refine .e (.u ?_);refine .exit (.e ?_);exact .a (PL.view (vb g (fl++[false]) [⟨210,0,[O J 0,.slice [] 0 true,.slice [] 0 true]⟩]) ih) (by simp[kp,slot,qB,hbl,bl,hlk]) (by simp[dxH,hbs])
   | true=>
    rw[gD rfl]at ih;have sr:=λK=>zlS A B k g pc hgk (by rw[hpc rfl];exact hcg) hk K;have e0:srF A k g pc=srF A k g cc:=by rw[hpc rfl]
    rw[e0]at sr;generalize srF A k g cc=g2 at sr ih;refine .g (nq2 F7 (nq2 w5 hpw)) ?_;refine .t (.f (λK k=>by simp(maxSteps:=9^9) (disch:=omega) only[go_sem,F5,F7,F8,F9,gQ];refine VCx.call (sr _) rfl ?_;simp(maxSteps:=9^9) (disch:=omega) only[go_sem,F5,F7,F8,F9,gQ];exact k) ?_);refine .e (.l ?_);refine .round (.e ?_);refine .u (.exit ?_);refine .e ?_;exact .a (PL.view (vb g2 (fl++[false]) [⟨210,0,[O J 0,.slice [] 0 true,.slice [] 0 true]⟩]) ih) (by simp[kp,slot,qB,hbl,bl,hlk]) (by simp[dxH,hbs])
  | some x=>
   obtain⟨v,D,qs⟩:=x;rw[hn]at ih co;dsimp only at ih;simp only[cnV,agS]at co;obtain⟨t,q,a,hsl,hqs⟩:=zud hn;have hsb:=zlR hsl;obtain⟨e1,e2⟩:=zh6 hd.vc hsl;rw[zlt hd]at e1;have lm:=zac mbc 408 D (λx hx=>zu x (hsb.2.1 x hx));have hll:=hsb.1;have ql:=znt qs;have hql:qs.length=D.length:=by rw[hqs,zlO]
   refine .m (nq2 h2 (nq2 h3 (nq2 c2 c4))) co ?_;clear co hsl hn;refine .g bl ?_;have hbs:zce (fl++[true])=zce fl++[.bool true]:=zjM _ _;have hbl:(zce (fl++[true])).length=fl.length+1:=by simp[zce]
   refine .e (.us ?_);refine .e (.l ?_);obtain⟨G',hG'⟩:∃ G',rwF s p b pa fu fi A k D (v:Int) 0 g=G':=⟨_,rfl⟩;rw[hG']at ih;suffices hl2:∀(j:Nat) (q1:Int) (gg:Fm),j<=D.length->Gok A B gg->(∀ x∈zdZ q1 (D.drop j),1<=x/\x<=31)->qs.drop j=zdZ q1 (D.drop j)->rwF s p b pa fu fi A k (D.drop j) q1 j gg=G'->PL prog _ _ [(3,.bool b),(4,.ptr H.length 0 0),(5,.ptr (H.length+1) 0 0),(6,.ptr (H.length+2) 0 0),(8,.ptr (H.length+3) 0 0),(11,.ptr (H.length+4) 0 0),(13,.ptr (H.length+5) 1 0),(14,.ptr (H.length+6) 0 0),(15,.msl (H.length+7) (zce (fl++[true])).length 0 (k+1) 1 true),(16,O J (k:Int)),(17,.ptr (H.length+8) 0 0),(18,.bool true),(19,O J (j:Int))] (dxH H s p U us pa fu fi pc gg (fl++[true])++[⟨210,0,[O J (v:Int),.slice (D.flatMap mbc) D.length false,.slice (qC qs) qs.length false]⟩]) _ by exact .a (hl2 0 v g om hgk hsb.2.2 hqs hG') (by simp[kp,slot,qB,hbl,bl,hlk]) (by simp[dxH,hbs])
   intro j q1 gg hj hgg hbd hqd hG;induction hd2:D.length - j using Nat.strongRecOn generalizing j q1 gg with
   | _ d2 ih2=>
    by_cases hjl:j<D.length
    .have dj:decide ((j:Int)<(D.length:Int))=true:=gX om;have ha:=zbE mbc 408 D j hjl (λx hx=>zu x (hsb.2.1 x hx));have hfm:=e2 _ (uY hjl);have hlv:=hsb.2.1 _ (uY hjl);have hqa:=zzZ qs j om;rw[vY hjl]at hbd hG hqd;rw[vY (show j<qs.length from om)]at hqd;simp only[zdZ,rwF,List.cons.injEq]at hbd hG hqd;obtain⟨hq1,hqd⟩:=hqd;rw[hq1]at hqa;clear hq1;generalize D[j]=m at *;have hb1:=hbd (q1+m.dl) (uK ..);have hjA:j<A:=om;have re0:=zhl hd hfm p.al hb1 hjA hk;have r16:=zhm re0;have re:=λK=>zqg (cxP s p b) s p.al (q1+m.dl) m pa fu fi (j:Int) (k:Int) K hlv hs.ia hs.ie;have cx:=λK=>zk6 s p b K hs;generalize zdC (cxP s p b) s.ia s.ie p.al (q1+m.dl) m pa fu fi (j:Int) (k:Int)=T at re re0 r16 hG;obtain⟨gm,em⟩:=T;simp only at re re0 r16 hG;subst re0;have sm:=λK=>zno A B j k gg gm hgg r16 hjA hk K;have hsm:=znn hgg r16 hjA hk;generalize smF A j k gg gm=g2 at sm hsm hG;have m1:=zu m hlv;have m2:=zcC m;have m3:qA 408 (mbc m)=mbc m:=gH om;have cl4:(cxc (cxP s p b)).length=4:=rfl;refine .round (.f (λK k=>by simp(maxSteps:=9^9) (disch:=omega) only[go_sem,dxH,dj];exact k) ?_);refine .t (.skip ?_);refine .b ?_;(repeat refine .seq ?_);refine .view (Vs.place 29) ?_;refine .y [H.length+9] [(20,[0])] [(20,0)] [170,187] λK hK=> ?_;simp(maxSteps:=9^9) (disch:=omega) only[go_sem,zy,h2,h3,p6,t6,pal];refine VCj.read (λ_ _=>cx _) rfl ?_;simp(maxSteps:=9^9) (disch:=omega) only[go_sem,zy,h2,h3,p6,pal,hqa,ql,ha,lm,m1,m3,rl,rt];refine VCj.read (λ_ _=>re _) rfl ?_;refine sqx (nq2 F5 (nq2 F7 z9)) ?_;refine hK _ _ ?_;clear hK K;refine .f (λK k=>by simp(maxSteps:=9^9) (disch:=omega) only[go_sem,F5,F7,F8,F9,gQ];refine VCx.call (sm _) rfl ?_;simp(maxSteps:=9^9) (disch:=omega) only[go_sem,F5,F7,F8,F9,gQ];exact k) ?_;refine .e ?_;have hnx:=ih2 (D.length - (j+1)) om (j+1) (q1+m.dl) g2 om hsm (λx hx=>hbd x (uM _ hx)) hqd hG rfl;refine .keep [3,4,5,6,8,11,13,14,15,16,17,18,19] ?_;refine .view (Vs.trim (F1:=[(3,.bool b),(4,.ptr H.length 0 0),(5,.ptr (H.length+1) 0 0),(6,.ptr (H.length+2) 0 0),(8,.ptr (H.length+3) 0 0),(11,.ptr (H.length+4) 0 0),(13,.ptr (H.length+5) 1 0),(14,.ptr (H.length+6) 0 0),(15,.msl (H.length+7) (zce (fl++[true])).length 0 (k+1) 1 true),(16,O J (k:Int)),(17,.ptr (H.length+8) 0 0),(18,.bool true),(19,O J ((j+1:Nat):Int))]) (H1:=dxH H s p U us pa fu fi pc g2 (fl++[true])++[⟨210,0,[O J (v:Int),.slice (D.flatMap mbc) D.length false,.slice (qC qs) qs.length false]⟩]) (K:=[⟨29,1,fmc gm⟩]) (λhh=>zfi (λb' hb' x hx=> ?_) (zpl H s p U us pa fu fi pc g2 (fl++[true]) hh)) (by simp[dxH]) (by unfold dxH;simp) ?_) hnx
     .obtain rfl:=uX.1 hb';simp only[gM,gL,uA]at hx;rcases hx with rfl|rfl|rfl
      .exact .int _ _
      .exact zk (zfg _ _)
      .exact zk (zoX _ _)
     .have hl:(dxH H s p U us pa fu fi pc g2 (fl++[true])++[⟨210,0,[O J (v:Int),.slice (D.flatMap mbc) D.length false,.slice (qC qs) qs.length false]⟩]:za).length=H.length+9:=by simp[dxH]
      rw[hl];exact⟨.id (.bool _),.id (.ptr om),.id (.ptr om),.id (.ptr om),.id (.ptr om),.id (.ptr om),.id (.ptr om),.id (.ptr om),.id (.msl om),.id (.int _ _),.id (.ptr om),.id (.bool _),.id (.int _ _),trivial⟩
    .have hje:j=D.length:=om;have dj:decide ((j:Int)<(D.length:Int))=false:=gW om;rw[hje,wW]at hG;simp only[rwF]at hG;subst hG;refine .round (.f (λK k=>by simp(maxSteps:=9^9) (disch:=omega) only[go_sem,dxH,dj];exact k) ?_);refine .u (.exit ?_);refine .e ?_;exact .a (PL.view (vb gg (fl++[true]) [⟨210,0,[O J (v:Int),.slice (D.flatMap mbc) D.length false,.slice (qC qs) qs.length false]⟩]) ih) rfl (by simp[dxH])
 .have hlB:=zgr s p b us pa fu fi A pw cc (flt A B) B;generalize zaO s p b us pa fu fi A pw cc (flt A B) B=R at hlB |-;obtain⟨g,fl⟩:=R;simp only at hlB |-;refine .round (.f (λK k=>by simp(maxSteps:=9^9) (disch:=omega) only[go_sem,dxH,h2,h3,p6,t6];refine VCx.call (ro _) rfl ?_;simp(maxSteps:=9^9) (disch:=omega) only[go_sem,zcP B];exact k) ?_);refine .u (.exit ?_);refine .f (λK k=>by simp(maxSteps:=9^9) (disch:=omega) only[go_sem,F5,F7,F8,z9,gQ];exact k) ?_;unfold zbF;rw[gD rfl];refine .w (.tup [.agg (fmc g),.msl (H.length+7) (zce fl).length 0 B 1 true,O J 0]) (nq2 F7 F8) ?_;dsimp only;rw[hlB];refine .base (Fz.tupC ⟨.id (zn (zan _ _ _ _ _ _ _ _ _ _ _ _)),Fz.mslC (e:=4) (xs:=zce fl) om (apn _ _ 7) (by rw[zmY,hlB,sL]) (FzC.refl (zpK _ _)),.id (.int _ _),trivial⟩)
end Go.Proofs.YtleejngibkbjnaaGreatDoor.Sc
