/-
  Parts of the proof. No condition.
-/
import Derived.Test.YtleejngibkbjnaaGreatDoorW30
import Derived.Test.YtleejngibkbjnaaGreatDoorW36
import Derived.Test.YtleejngibkbjnaaGreatDoorW40
open Go.Proofs.YtleejngibkbjnaaGreatDoor.Pm.PV renaming int → O
open Go.IntKind renaming i64 → J
open Array renaming toList → qB
open List renaming take → qA
open Go.Proofs.Tryz
set_option linter.all false
set_option maxRecDepth 100000
set_option maxHeartbeats 32000000
namespace Go.Proofs.YtleejngibkbjnaaGreatDoor.Sc
open Pm Ty Go.RowKit
theorem zll(l:List Bool)(f:Bool)(hn:l.length<=1000000)(H:za):CallOk prog 58 [.slice (l.map PV.bool) l.length f] H (.bool (l.all id)) H:=by
 have fin:∀(b:Bool),Fin H (.bool b) H (.bool b) H:=λb=>Fin.now;refine .go func58 ntmps58 results58 ?_;refine .e (.e ?_);refine .l ?_;suffices hl1:∀ j:Nat,j<=l.length->(l.drop j).all id=l.all id->PL prog _ _ [(0,.slice (l.map PV.bool) l.length f),(3,O J (j:Int))] H _ by exact .a (hl1 0 om rfl)
 refine cnt l.length (λj hj ih hf=> ?_) (λhf=> ?_)
 .have ct:=zco hj;have ea:(l.map PV.bool)[j]? =some (.bool l[j]):=by simp_all
  have el:(l.map PV.bool).length=l.length:=dP ..;rw[zcu _ _ _ hj]at hf;generalize l[j]=x at *;refine .round (.g ct ?_);refine .t (.skip ?_);refine .b (.g (nq2 ea el) ?_);cases x with
  | false=>
   rw[show id false=false from rfl,vB]at hf;refine .t (.e ?_);refine .v (.bool false) ?_;grind
  | true=>rw[show id true=true from rfl,uP]at hf;refine .us (.e ?_);exact .a (ih hf)
 .refine .round (.f (λK k=>by simp(disch:=omega) only[go_sem,zcP l.length];exact k) ?_);refine .u (.exit ?_);refine .e (.v (.bool true) ?_);grind
theorem zqF(s:Sq)(cs:List Cdd)(pa fu:Fm)(fl:Bool)(hs:SqOk s)(hc:∀ c∈cs,CdOk c)(hn:cs.length<=1000000)(H:za):CallOk prog 26 [.agg (sqc s),.slice (cdL cs) cs.length fl,.agg (fmc pa),.agg (fmc fu)] H (zcE (zfj s cs pa fu)) H:=by
 have h1:=zab s;have h2:=zaj s hs;have h3:=zbu s hs;have F5:∀ g:Fm,(fmc g).all PV.cell=true:=λ_=>rfl;have F7:∀ g:Fm,(fmc g).length=5:=λ_=>rfl;have F8:∀ g:Fm,qA 5 (fmc g)=fmc g:=λ_=>rfl;have F9:∀ g:Fm,List.drop 5 (fmc g)=[]:=λ_=>rfl;have Z7:zfr.length=5:=rfl;have e8:∀ c:Cdd,(cdE c).length=8:=λ_=>rfl;have t8:∀ c:Cdd,qA 8 (cdE c)=cdE c:=λ_=>rfl;have badE:zdP s cs=false->zfj s cs pa fu=(f0,false,1):=λh=>by unfold zfj;rw[h];rfl
 refine .go func26 ntmps26 results26 ?_;refine .g (nq2 h1 F5) ?_;refine .e ?_
 match cs with
 | []=>
  rw[badE rfl];refine .e (.t ?_);refine .e (.w (.tup [.agg zfr,.bool false,O J 1]) @zfr.eq_1 ?_);exact zaI _ _ _
 | c::d::e::r=>
  rw[badE (by simp[zdP])];have d1:(((c::d::e::r).length:Int) !=1)=true:=by simp;omega
  have d2:(((c::d::e::r).length:Int) !=2)=true:=by simp;omega
  generalize c::d::e::r=cs at *;refine .g (nq2 d1 d2) ?_;refine .t (.e ?_);refine .w (.tup [.agg zfr,.bool false,O J 1]) @zfr.eq_1 ?_;exact zaI _ _ _
 | [c]=>
  have hcc:=hc c sp;have i0:qA 8 (cdL [c])=cdE c:=rfl;have i1:(cdL [c]).length=8:=rfl;have i2:(cdL [c])[1]? =some (O J c.p.st):=rfl;have i3:qA 6 (cdL [c])=pic c.p:=rfl;have va:=λK=>zbj s c.p K hs;by_cases hst:c.p.st=3;rotate_left
  .have d1:(c.p.st !=3)=true:=by simp_all
   rw[badE (by simp[zdP,hst])];refine .g (nq2 i1 (nq2 i2 d1)) ?_;refine .t (.e ?_);refine .w (.tup [.agg zfr,.bool false,O J 1]) @zfr.eq_1 ?_;exact zaI _ _ _
  have d1:(c.p.st !=3)=false:=by simp[hst]
  refine .g (nq2 i1 (nq2 i2 d1)) ?_;refine .us (.e ?_);refine .l (.round ?_);refine .e (.t ?_);refine .skip (.b ?_);cases hv:zB s c.p with
  | false=>
   rw[hv]at va;rw[badE (by simp[zdP,hv])];refine .dg λK hK=> ?_;simp(disch:=omega) only[go_sem,h2,h3,i1,i3];refine VCz.call (λ_=>va _) rfl ?_;refine sqz ?_;refine hK _ _ ?_;clear hK K;refine .t (.e ?_);refine .w (.tup [.agg zfr,.bool false,O J 1]) @zfr.eq_1 ?_;exact zaI _ _ _
  | true=>
  rw[hv]at va;refine .dg λK hK=> ?_;simp(disch:=omega) only[go_sem,h2,h3,i1,i3];refine VCz.call (λ_=>va _) rfl ?_;refine sqz ?_;refine hK _ _ ?_;clear hK K;refine .us (.e ?_);refine .round (.e ?_);refine .u (.exit ?_);clear va;have hcm:zdP s [c]=true:=by simp[zdP,hv,hst]
  unfold zfj;rw[gD hcm];dsimp only;have de:=λK=>(zfn s c.p c.U c.us pa fu f0 false hs hcc.n hcc.u K).wk (args:=[.agg (sqc s),.agg (cdE c),.agg (fmc pa++(fmc fu++zfr)),.bool false]) (.cons (.refl _) (.cons (.refl _) (.cons (.agg ((Wkns.refl _).append ((Wkns.refl _).append zgc)) rfl) (.cons (.refl _) .nil))));have hX:=λh=>zeI (s:=s) (p:=c.p) (us:=c.us) (pa:=pa) (fu:=fu) (fi:=f0) (b:=false) h;generalize za9 s c.p c.us pa fu f0 false=X at de hX |-;refine .g @fmc.eq_1 ?_;refine .view (Vs.place 29) ?_;refine .a (?_:PW _ _ _ [(1,.slice (cdL [c]) 1 fl),(4,.ptr H.length 0 0),(8,.ptr (H.length+3) 0 0),(11,O J 1),(13,.ptr (H.length+4) 0 0)] (H++[⟨37,0,sqc s⟩,⟨29,0,fmc pa⟩,⟨29,0,fmc fu⟩,⟨29,0,zfr⟩,⟨85,0,fmc pa++(fmc fu++zfr)⟩,⟨29,0,[]⟩]) _) rfl (by simp[fmc,zfr]);have rl:(fmc pa++(fmc fu++zfr)).length=15:=rfl;have rt:qA 15 (fmc pa++(fmc fu++zfr))=fmc pa++(fmc fu++zfr):=rfl;refine .dg λK hK=> ?_;simp(disch:=omega) only[go_sem];refine hK _ _ ?_;clear hK K;refine .us ?_;(repeat refine .seq ?_);by_cases h0:X.2=0
  .obtain⟨A,B,hd,hg,hr⟩:=hX h0;rw[gD h0];unfold zbF at de;rw[gD h0]at de;have al:=λK=>zll X.1.2 false om K;refine .y [H.length+5] [(14,[0])] [(14,0)] [92] λK hK=> ?_;refine sqx (nq2 h2 (nq2 h3 (nq2 i0 (nq2 i1 (nq2 rl (nq2 rt (nq2 e8 t8))))))) ?_;refine VCj.read (λ_ _=>de _) rfl ?_;refine sqx (nq2 F5 (nq2 F7 (nq2 F8 @zfr.eq_1))) ?_;refine hK _ _ ?_;clear hK K;refine .e (.us ?_);refine .e (.t ?_);(repeat refine .seq ?_);refine .y [H.length+3] [(8,[0])] [] [104] λK hK=> ?_;refine sqx (nq2 F5 (nq2 F7 F8)) ?_;refine VCj.read (λ_ _=>al _) rfl ?_;refine sqx (nq2 F5 (nq2 F7 (nq2 F8 @zfr.eq_1))) ?_;refine hK _ _ ?_;clear hK K;refine .ret ⟨zcE (X.1.1,X.1.2.all id,0),by simp(disch:=omega) only[go_sem,zw,zJ,uR,vA,uN,uD,uO,qB,F7,F8,zcE],?_⟩;exact zcW _ _ _
  .rw[gC h0];unfold zbF at de;rw[gC h0]at de;have d0:(X.2 !=0)=true:=by simpa using h0
   refine .y [H.length+5] [(14,[0])] [(14,0)] [92] λK hK=> ?_;refine sqx (nq2 h2 (nq2 h3 (nq2 i0 (nq2 i1 (nq2 rl (nq2 rt (nq2 e8 t8))))))) ?_;refine VCj.read (λ_ _=>de _) rfl ?_;refine sqz ?_;refine hK _ _ ?_;clear hK K;refine .g d0 ?_;refine .t (.g @zfr.eq_1 ?_);refine .w (.tup [.agg zfr,.bool false,O J X.2]) @zfr.eq_1 ?_;exact zaI _ _ _
 | [c,d]=>
  have hcc:=hc c sp;have hcd:=hc d sp;have i0:qA 8 (cdL [c,d])=cdE c:=rfl;have i1:(cdL [c,d]).length=16:=rfl;have i2:qA 8 (List.drop 8 (cdL [c,d]))=cdE d:=rfl;have i3:qA 6 (cdL [c,d])=pic c.p:=rfl;have i4:qA 6 (List.drop 8 (cdL [c,d]))=pic d.p:=rfl;have i5:(cdL [c,d])[1]? =some (O J c.p.st):=rfl;have i6:(cdL [c,d])[3]? =some (.bool c.p.tf):=rfl;have va:=λK=>zbj s c.p K hs;have vd:=λK=>zbj s d.p K hs;have po:=λK=>zmq c.p d.p K;refine .e (.us ?_);refine .e (.l ?_);refine .round (.e ?_);refine .t (.skip ?_);refine .b ?_;cases hv:zB s c.p with
  | false=>
   rw[hv]at va;rw[badE (by simp[zdP,hv])];refine .dg λK hK=> ?_;simp(disch:=omega) only[go_sem,h2,h3,i1,i3];refine VCz.call (λ_=>va _) rfl ?_;refine sqz ?_;refine hK _ _ ?_;clear hK K;refine .t (.e ?_);refine .w (.tup [.agg zfr,.bool false,O J 1]) @zfr.eq_1 ?_;exact zaI _ _ _
  | true=>
  rw[hv]at va;refine .dg λK hK=> ?_;simp(disch:=omega) only[go_sem,h2,h3,i1,i3];refine VCz.call (λ_=>va _) rfl ?_;refine sqz ?_;refine hK _ _ ?_;clear hK K;refine .us (.e ?_);clear va;refine .round (.e ?_);refine .t (.skip ?_);refine .b ?_;cases hv2:zB s d.p with
  | false=>
   rw[hv2]at vd;rw[badE (by simp[zdP,hv2])];refine .dg λK hK=> ?_;simp(disch:=omega) only[go_sem,h2,h3,i1,i4];refine VCz.call (λ_=>vd _) rfl ?_;refine sqz ?_;refine hK _ _ ?_;clear hK K;refine .t (.e ?_);refine .w (.tup [.agg zfr,.bool false,O J 1]) @zfr.eq_1 ?_;exact zaI _ _ _
  | true=>
  rw[hv2]at vd;refine .dg λK hK=> ?_;simp(disch:=omega) only[go_sem,h2,h3,i1,i4];refine VCz.call (λ_=>vd _) rfl ?_;refine sqz ?_;refine hK _ _ ?_;clear hK K;refine .us (.e ?_);clear vd;refine .round (.e ?_);refine .u (.exit ?_);refine .g @fmc.eq_1 ?_;refine .view (Vs.place 29) ?_;refine .a (?_:PW _ _ _ [(1,.slice (cdL [c,d]) 2 fl),(4,.ptr H.length 0 0),(8,.ptr (H.length+3) 0 0),(11,O J 2),(13,.ptr (H.length+4) 0 0)] (H++[⟨37,0,sqc s⟩,⟨29,0,fmc pa⟩,⟨29,0,fmc fu⟩,⟨29,0,zfr⟩,⟨85,0,fmc pa++(fmc fu++zfr)⟩,⟨29,0,[]⟩]) _) rfl (by simp[fmc,zfr]);have rl:∀ x,(fmc pa++(fmc fu++fmc x)).length=15:=λ_=>rfl;have rt:∀ x,qA 15 (fmc pa++(fmc fu++fmc x))=fmc pa++(fmc fu++fmc x):=λ_=>rfl;have rlz:(fmc pa++(fmc fu++zfr)).length=15:=rfl;have rtz:qA 15 (fmc pa++(fmc fu++zfr))=fmc pa++(fmc fu++zfr):=rfl;cases hp:za4 c.p d.p with
  | false=>
   rw[hp]at po;rw[badE (by simp[zdP,hp])];refine .dg λK hK=> ?_;simp(disch:=omega) only[go_sem,i1,i3,i4];refine VCz.call (λ_=>po _) rfl ?_;refine sqz ?_;refine hK _ _ ?_;clear hK K;refine .t (.e ?_);refine .w (.tup [.agg zfr,.bool false,O J 1]) @zfr.eq_1 ?_;exact zaI _ _ _
  | true=>
  rw[hp]at po;have hlb:(c.p.tf==(c.p.st==1))=zbn c.p:=rfl;cases hl:zbn c.p with
  | false=>
   rw[hl]at hlb;rw[badE (by simp[zdP,hl])];refine .dg λK hK=> ?_;simp(disch:=omega) only[go_sem,i1,i3,i4];refine VCz.call (λ_=>po _) rfl ?_;refine sqx (nq2 i1 (nq2 i5 (nq2 i6 hlb))) ?_;refine hK _ _ ?_;clear hK K;refine .t (.e ?_);refine .w (.tup [.agg zfr,.bool false,O J 1]) @zfr.eq_1 ?_;exact zaI _ _ _
  | true=>
  rw[hl]at hlb;refine .dg λK hK=> ?_;simp(disch:=omega) only[go_sem,i1,i3,i4];refine VCz.call (λ_=>po _) rfl ?_;refine sqx (nq2 i1 (nq2 i5 (nq2 i6 hlb))) ?_;refine hK _ _ ?_;clear hK K;refine .us ?_;clear po hlb;have hcm:zdP s [c,d]=true:=by simp[zdP,hv,hv2,hl,hp]
  unfold zfj;rw[gD hcm];dsimp only;have de:=λK=>(zfn s c.p c.U c.us pa fu f0 false hs hcc.n hcc.u K).wk (args:=[.agg (sqc s),.agg (cdE c),.agg (fmc pa++(fmc fu++zfr)),.bool false]) (.cons (.refl _) (.cons (.refl _) (.cons (.agg ((Wkns.refl _).append ((Wkns.refl _).append zgc)) rfl) (.cons (.refl _) .nil))));have hX:=λh=>zeI (s:=s) (p:=c.p) (us:=c.us) (pa:=pa) (fu:=fu) (fi:=f0) (b:=false) h;generalize za9 s c.p c.us pa fu f0 false=X at de hX |-;(repeat refine .seq ?_);by_cases h0:X.2=0;rotate_left
  .rw[gC h0];unfold zbF at de;rw[gC h0]at de;have d0:(X.2 !=0)=true:=by simpa using h0
   refine .y [H.length+5] [(14,[0])] [(14,0)] [92] λK hK=> ?_;refine sqx (nq2 h2 (nq2 h3 (nq2 i0 (nq2 i1 (nq2 rlz (nq2 rtz (nq2 e8 t8))))))) ?_;refine VCj.read (λ_ _=>de _) rfl ?_;refine sqz ?_;refine hK _ _ ?_;clear hK K;refine .g d0 ?_;refine .t (.g @zfr.eq_1 ?_);refine .w (.tup [.agg zfr,.bool false,O J X.2]) @zfr.eq_1 ?_;exact zaI _ _ _
  obtain⟨A,B,hd,hg,hr⟩:=hX h0;rw[gD h0];unfold zbF at de;rw[gD h0]at de;have al:=λK=>zll X.1.2 false om K;refine .y [H.length+5] [(14,[0])] [(14,0)] [92] λK hK=> ?_;refine sqx (nq2 h2 (nq2 h3 (nq2 i0 (nq2 i1 (nq2 rlz (nq2 rtz (nq2 e8 t8))))))) ?_;refine VCj.read (λ_ _=>de _) rfl ?_;refine sqx (nq2 F5 (nq2 F7 (nq2 F8 @zfr.eq_1))) ?_;refine hK _ _ ?_;clear hK K;refine .e (.us ?_);refine .e (.us ?_);clear de hX;have de:=λK=>zfn s d.p d.U d.us pa fu X.1.1 true hs hcd.n hcd.u K;have hY:=λh=>zeI (s:=s) (p:=d.p) (us:=d.us) (pa:=pa) (fu:=fu) (fi:=X.1.1) (b:=true) h;generalize za9 s d.p d.us pa fu X.1.1 true=Y at de hY |-;obtain⟨⟨g,rows⟩,e⟩:=X;simp only at h0 hg hr al de |-;subst h0;refine .g (nq2 @fmc.eq_1 @zfr.eq_1) ?_;refine .view (Vs.place 29) ?_;refine .a (?_:PW _ _ _ [(1,.slice (cdL [c,d]) 2 fl),(4,.ptr H.length 0 0),(8,.ptr (H.length+3) 0 0),(11,O J 2),(13,.ptr (H.length+4) 0 0),(14,.ptr (H.length+5) 1 0),(15,.slice (rows.map PV.bool) rows.length false)] (H++[⟨37,0,sqc s⟩,⟨29,0,fmc pa⟩,⟨29,0,fmc fu⟩,⟨29,0,zfr⟩,⟨85,0,fmc pa++(fmc fu++fmc g)⟩,⟨29,1,fmc g⟩,⟨29,0,[]⟩]) _) rfl (by simp[fmc,zfr]);by_cases k0:Y.2=0;rotate_left
  .rw[gC k0];unfold zbF at de;rw[gC k0]at de;have d0:(Y.2 !=0)=true:=by simp_all
   refine .y [H.length+6] [(17,[0])] [(17,0)] [113] λK hK=> ?_;refine sqx (nq2 h2 (nq2 h3 (nq2 i1 (nq2 i2 (nq2 rl (nq2 rt (nq2 e8 t8))))))) ?_;refine VCj.read (λ_ _=>de _) rfl ?_;refine sqz ?_;refine hK _ _ ?_;clear hK K;refine .g d0 ?_;refine .t (.g @zfr.eq_1 ?_);refine .w (.tup [.agg zfr,.bool false,O J Y.2]) @zfr.eq_1 ?_;exact zaI _ _ _
  obtain⟨A',B',hd',hg',hr'⟩:=hY k0;rw[gD k0];unfold zbF at de;rw[gD k0]at de;obtain⟨⟨g2,more⟩,e⟩:=Y;simp only at k0 hg' hr' de |-;subst k0;have al2:=λK=>zll more false om K;refine .y [H.length+6] [(17,[0])] [(17,0)] [113] λK hK=> ?_;refine sqx (nq2 h2 (nq2 h3 (nq2 i1 (nq2 i2 (nq2 rl (nq2 rt (nq2 e8 t8))))))) ?_;refine VCj.read (λ_ _=>de _) rfl ?_;refine sqx (nq2 F5 (nq2 F7 (nq2 F8 @zfr.eq_1))) ?_;refine hK _ _ ?_;clear hK K;clear de hY;refine .e (.us ?_);unfold za4 at hp;simp only[gB,vR,wS,wH]at hp;have eA:A'=A:=by have:=hd.w;have:=hd'.w;omega
  have e32:=(hd.h4 hp.1).1;have e32':=(hd'.h4 hp.2.1).1;have eB:B'=B:=om;subst eA eB;have h64:=(zaz hv).2.1;have k1:=zkM hg om;have k2:=zkM hg' om;have w0:∀ a b:Fm,Gok A' B' a->zi6 a b=zjY (8 * A') (8 * B') a b:=λa b ha=>by unfold zi6;rw[show(a.w / 2).toNat=8 * A' by rw[ha.w];omega,show(a.h / 2).toNat=8 * B' by rw[ha.h];omega]
  have we1:=λK=>zgh (8 * A') (8 * B') g g2 k1 k2 K;have we2:=λK=>zgh (8 * A') (8 * B') g2 g k2 k1 K;rw[<-w0 g g2 hg]at we1;rw[<-w0 g2 g hg']at we2;generalize zi6 g g2=W1 at we1 |-;generalize zi6 g2 g=W2 at we2 |-;have hst:=hd.st;refine .g (nq2 i1 i6) ?_;unfold zbn at hl;rw[wH]at hl;suffices hm:∀ W:Fm,(if c.p.st=2 then W2 else W1)=W->PW prog _ _ [(8,.ptr (H.length+3) 0 0),(14,.ptr (H.length+5) 1 0),(15,.slice (rows.map PV.bool) rows.length false),(18,.slice (more.map PV.bool) more.length false)] (H++[⟨37,0,sqc s⟩,⟨29,0,fmc pa⟩,⟨29,0,fmc fu⟩,⟨29,0,zfr⟩,⟨85,0,fmc pa++(fmc fu++fmc g)⟩,⟨29,1,fmc W⟩,⟨29,1,fmc g2⟩]) _ by
   cases htf:c.p.tf with
   | true=>
    rw[htf]at hl;have e1:c.p.st=1:=by simp_all
    refine .t (.f (λK k=>by simp(disch:=omega) only[go_sem,F5,F7,F8,F9,gQ];refine VCx.call (we1 _) rfl ?_;simp(disch:=omega) only[go_sem,F5,F7,F8,F9,gQ];exact k) ?_);exact .a (hm W1 (gC om))
   | false=>
    rw[htf]at hl;have e1:¬ c.p.st=1:=by simp_all
    have hne:=hp.1;refine .u (.f (λK k=>by simp(disch:=omega) only[go_sem,F5,F7,F8,F9,gQ];refine VCx.call (we2 _) rfl ?_;simp(disch:=omega) only[go_sem,F5,F7,F8,F9,gQ];exact k) ?_);exact .a (hm W2 (gD om))
  intro W hW;rw[hW];(repeat refine .seq ?_);cases hall:rows.all id with
  | false=>
   rw[hall]at al;refine .y [H.length+3] [(8,[0])] [] [140,143] λK hK=> ?_;simp(disch:=omega) only[go_sem,F5,F7,F8,F9,gQ];refine VCj.read (λ_ _=>al _) rfl ?_;simp(disch:=omega) only[go_sem,F5,F7,F8,F9,gQ,zfr];refine hK _ _ ?_;clear hK K;refine .ret ⟨zcE (W,false,0),by simp(disch:=omega) only[go_sem,zw,zJ,uR,vA,uN,uD,uO,qB,F7,F8,zcE],?_⟩;exact zcW _ _ _
  | true=>rw[hall]at al;refine .y [H.length+3] [(8,[0])] [] [140,143] λK hK=> ?_;simp(disch:=omega) only[go_sem,F5,F7,F8,F9,gQ];refine VCj.read (λ_ _=>al _) rfl ?_;simp(disch:=omega) only[go_sem,F5,F7,F8,F9,gQ];refine VCj.read (λ_ _=>al2 _) rfl ?_;simp(disch:=omega) only[go_sem,F5,F7,F8,F9,gQ,zfr];refine hK _ _ ?_;clear hK K;refine .ret ⟨zcE (W,more.all id,0),by simp(disch:=omega) only[go_sem,zw,zJ,uR,vA,uN,uD,uO,qB,F7,F8,zcE],?_⟩;exact zcW _ _ _
end Go.Proofs.YtleejngibkbjnaaGreatDoor.Sc
