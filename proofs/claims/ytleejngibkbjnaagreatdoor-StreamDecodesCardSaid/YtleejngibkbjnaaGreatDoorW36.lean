/-
  Parts of the proof. No condition.
-/
import Derived.Test.YtleejngibkbjnaaGreatDoorW33
import Derived.Test.YtleejngibkbjnaaGreatDoorW35
open Array renaming toList → qB
open List renaming take → qA
open Go.Proofs.Tryz
set_option linter.all false
set_option maxRecDepth 100000
set_option maxHeartbeats 32000000
namespace Go.Proofs.YtleejngibkbjnaaGreatDoor.Sc
open Pm Ty Go.RowKit
def cdE(c:Cdd):List PV:=cdc c.p c.U c.us
def cdL(cs:List Cdd):List PV:=cs.flatMap cdE
theorem zpG(cs:List Cdd):(cdL cs).length=cs.length * 8:=zac cdE 8 cs λ_ _=>rfl
theorem zy2(cs:List Cdd)(k:Nat)(hk:k<cs.length):qA 8 (List.drop (k * 8) (cdL cs))=cdE cs[k]:=zbE cdE 8 cs k hk λ_ _=>rfl
theorem ziY(n:Nat)(cs:List Cdd):∀ x∈cdL cs,Scoped n x:=λx hx=>by obtain⟨u,_,hx⟩:=wM.1 hx;exact zgN _ _ _ _ x hx
structure CdOk(c:Cdd):Prop where
 n:c.us.length<=1000000
 u:∀ u∈c.us,zgD u.1/\u.2.length<=100000000
theorem zlk(l:List Bool)(f:Bool)(hn:l.length<=1000000)(H:za):CallOk prog 23 [.slice (l.map PV.bool) l.length f] H (.bool (l.all id)) H:=by
 have fin:∀(b:Bool),Fin H (.bool b) H (.bool b) H:=λb=>Fin.now;refine .go func23 ntmps23 results23 ?_;refine .e (.e ?_);refine .l ?_;suffices hl1:∀ j:Nat,j<=l.length->(l.drop j).all id=l.all id->PL prog _ _ [(5,.slice (l.map PV.bool) l.length f),(6,.int .i64 (l.length:Int)),(7,.int .i64 (j:Int))] H _ by exact .a (hl1 0 om rfl)
 intro j hj hf;induction hd:l.length - j using Nat.strongRecOn generalizing j with
 | _ d ih=>
  refine .round (.e ?_);refine .c (λh=> ?_) (λh=> ?_)
  .have hjl:j<l.length:=by simp_all
   have ea:(l.map PV.bool)[j]? =some (.bool l[j]):=by simp_all
   have hnext:=ih (l.length - (j+1)) om (j+1) om;rw[zcu _ l j hjl]at hf;generalize l[j]=b at *;refine .skip (.b ?_);refine .f (λK k=>by simp(maxSteps:=9^9) (disch:=omega) only[go_sem,ea,dP];exact k) ?_;refine .e ?_;cases b with
   | true=>
    refine .us (.e ?_);exact .a (hnext hf rfl)
   | false=>refine .t (.e ?_);refine .v (.bool false) ?_;grind
  .have hjl:j=l.length:=by grind
   subst hjl;rw[wW]at hf;rw[<-hf];refine .exit (.e ?_);refine .v (.bool true) ?_;exact fin _
theorem zwe(s:Sq)(cs:List Cdd)(f:Bool)(hs:SqOk s)(hn:cs.length<=1000000)(H:za):CallOk prog 21 [.agg (sqc s),.slice (cdL cs) cs.length f] H (.bool (zdP s cs)) H:=by
 have fin:∀(b:Bool) (K:za),Fin H (.bool b) H (.bool b) (H++K):=λb K=>Fin.base (.id (.bool _));have h1:=zab s;have h2:=zaj s hs;have h3:=zbu s hs;have ln:=zpG cs;have pv:=λp K=>zdf s p K hs;unfold zdP;refine .go func21 ntmps21 results21 ?_;refine .g h1 ?_;refine .e (.l ?_);suffices hl1:∀ j:Nat,j<=cs.length->((cs.drop j).all λc=>zB s c.p)=(cs.all λc=>zB s c.p)->PL prog _ _ [(1,.slice (cdL cs) cs.length f),(2,.ptr H.length 0 0),(7,.slice (cdL cs) cs.length f),(8,.int .i64 (cs.length:Int)),(9,.int .i64 (j:Int))] (H++[⟨37,0,sqc s⟩]) _ by exact .a (hl1 0 om rfl)
 intro j hj hf;induction hd:cs.length - j using Nat.strongRecOn generalizing j with
 | _ d ih=>
  refine .round (.e ?_);refine .c (λh=> ?_) (λh=> ?_)
  .have hjl:j<cs.length:=by simp_all
   have ea:=zy2 cs j hjl;have hnext:=ih (cs.length - (j+1)) om (j+1) om;rw[zcu _ cs j hjl]at hf;generalize cs[j]=c at *;have pc:=λK=>pv c.p K;have e1:(cdE c).length=8:=rfl;have e2:(cdE c).all PV.cell=true:=rfl;have e3:qA 6 (cdE c)=pic c.p:=rfl;have e4:qA 8 (cdE c)=cdE c:=rfl;refine .skip (.b ?_);refine .g (nq2 ea (nq2 ln (nq2 e1 (nq2 e2 e4)))) ?_;refine .m (nq2 h2 (nq2 h3 (nq2 e1 e3))) pc ?_;cases hb:zB s c.p with
   | true=>
    rw[hb]at hf;refine .us (.e ?_);refine .view (Vs.trim (F1:=[(1,.slice (cdL cs) cs.length f),(2,.ptr H.length 0 0),(7,.slice (cdL cs) cs.length f),(8,.int .i64 (cs.length:Int)),(9,.int .i64 ((j+1:Nat):Int))]) (H1:=H++[⟨37,0,sqc s⟩]) (K:=[⟨45,0,cdE c⟩]) (λhh=>zfi (λb hb x hx=> ?_) hh) sp sp ?_) (hnext hf rfl)
    .grind[List.mem_singleton,zaf]
    .exact⟨.id (zk (ziY _ _)),.id (.ptr sp),.id (zk (ziY _ _)),.id (.int _ _),.id (.int _ _),trivial⟩
   | false=>rw[hb]at hf;refine .t (.e ?_);refine .v (.bool false) ?_;grind
  .have hjl:j=cs.length:=by grind
   subst hjl;rw[wW]at hf;rw[<-hf];refine .exit (.e ?_);refine .block ?_
   match cs with
   | []=>
    refine .e (.u ?_);refine .e (.us ?_);refine .e (.v (.bool false) ?_);exact fin _ _
   | [c]=>
    refine .e (.t ?_);refine .f (λK k=>by simp(maxSteps:=9^9) (disch:=omega) only[go_sem,cdL,wP,sE,cdE,cdc,pic];exact k) ?_;refine .v (.bool (c.p.st==3)) ?_;exact fin _ _
   | [c,d]=>
    have le:=λK=>zph c.p K;have pa:=λK=>zmr c.p d.p K;simp only[pic]at le pa;refine .e (.u ?_);refine .e (.t ?_);generalize hb1:zbn c.p=b1 at le;generalize hb2:za4 c.p d.p=b2 at pa;cases b1 with
    | false=>
     refine .dg λK hK=> ?_;simp(maxSteps:=9^9) (disch:=omega) only[go_sem,cdL,wP,sE,cdE,cdc,pic];refine VCz.call (λ_=>le _) rfl ?_;refine sqz ?_;refine hK _ _ ?_;clear hK K;refine .v (.bool false) ?_;grind
    | true=>
     refine .dg λK hK=> ?_;simp(maxSteps:=9^9) (disch:=omega) only[go_sem,cdL,wP,sE,cdE,cdc,pic];refine VCz.call (λ_=>le _) rfl ?_;simp(maxSteps:=9^9) (disch:=omega) only[go_sem,cdL,wP,sE,cdE,cdc,pic];refine VCz.call (λ_=>pa _) rfl ?_;refine sqz ?_;refine hK _ _ ?_;clear hK K;refine .v (.bool b2) ?_;show Pm.Fin H (.bool (zbn c.p&&za4 c.p d.p)) H _ _;grind
   | c::d::e::r=>have d1:decide ((((c::d::e::r).length:Nat):Int)=1)=false:=gW (by simp only[gZ];omega);have d2:decide ((((c::d::e::r).length:Nat):Int)=2)=false:=gW (by simp only[gZ];omega);have d1':((((c::d::e::r).length:Nat):Int)==1)=false:=d1;have d2':((((c::d::e::r).length:Nat):Int)==2)=false:=d2;obtain⟨cs',hcs⟩:∃ cs':List Cdd,cs'=c::d::e::r:=⟨_,rfl⟩;rw[<-hcs]at d1' d2' |-;refine .f (λK k=>by simp(maxSteps:=9^9) (disch:=omega) only[go_sem,d1'];exact k) ?_;refine .u (.f (λK k=>by simp(maxSteps:=9^9) (disch:=omega) only[go_sem,d2'];exact k) ?_);refine .us (.e ?_);refine .v (.bool false) ?_;simp_all
def zfr:List PV:=[.int .i64 0,.int .i64 0,.slice [] 0 true,.slice [] 0 true,.slice [] 0 true]
theorem zxq(n:Nat)(H:za):FzC n H zfr (fmc f0):=⟨.id (.int _ _),.id (.int _ _),Fz.sliceC (xs:=[]) (ys:=[]) trivial (λh=>by cases h),Fz.sliceC (xs:=[]) (ys:=[]) trivial (λh=>by cases h),Fz.sliceC (xs:=[]) (ys:=[]) trivial (λh=>by cases h),trivial⟩
theorem zgc:Wkns zfr (fmc f0):=.cons (.refl _) (.cons (.refl _) (.cons (.slF _ _ _) (.cons (.slF _ _ _) (.cons (.slF _ _ _) .nil))))
def zcE(r:Fm×Bool×Int):PV:=.tup [.agg (fmc r.1),.bool r.2.1,.int .i64 r.2.2]
theorem zaI(H K:za)(e:Int):Fin H (zcE (f0,false,e)) H (.tup [.agg zfr,.bool false,.int .i64 e]) (H++K):=Fin.base (Fz.tupC ⟨Fz.aggC (zxq _ _),.id (.bool _),.id (.int _ _),trivial⟩)
theorem zvY(n:Nat)(f:Fm):∀ x∈fmc f,Scoped n x:=zan _ _ _ _ _ _ _ _ _ _ _ _
theorem zcW(H K:za)(r:Fm×Bool×Int):Fin H (zcE r) H (zcE r) (H++K):=Fin.base (.id (.tup (asc λx hx=>by
 simp only[gM,gL,uA]at hx;rcases hx with rfl|rfl|rfl
 .exact zn (zvY _ _)
 .exact .bool _
 .exact .int _ _)))
theorem zkM{A B:Nat}{f:Fm}(h:Gok A B f)(h2:B<=2):Hok (8 * A) (8 * B) f:=by have ha:=h.ra;have hb:=h.rb;exact⟨by rw[h.w];omega,by rw[h.h];omega,om,om,by rw[h.ly,dC];congr 1<;>omega,by rw[h.lu,dC],by rw[h.lv,dC]⟩
theorem zeI{s:Sq}{p:Pi}{us:List (Int×List UInt8)}{pa fu fi:Fm}{b:Bool}(h:(za9 s p us pa fu fi b).2=0):∃ A B,DecOk s p pa fu fi b A B/\Gok A B (za9 s p us pa fu fi b).1.1/\(za9 s p us pa fu fi b).1.2.length<=4:=by
 unfold za9 at h |-;by_cases hE:zg6 s p pa fu fi b=0
 .obtain⟨A,B,hd⟩:=DecOk.of hE;rw[gD hE];have hr:=hd.r;have hB:=hd.rb;refine⟨A,B,hd,?_,?_⟩
  .show Gok A B (zbb s p b us pa fu fi (s.w / 16).toNat _ (zaq s p).toNat).1;rw[hr,uV,show(s.w / 16).toNat=A by rw[hd.w];omega];exact zdd hd us (zhB hd) B (gV _)
  .show(zbb s p b us pa fu fi _ _ (zaq s p).toNat).2.length<=4;rw[zeH,hr,uV];omega
 .rw[gC hE]at h;exact absurd h hE
theorem ztG(s:Sq)(cs:List Cdd)(pa fu:Fm)(fl:Bool)(hs:SqOk s)(hc:∀ c∈cs,CdOk c)(hn:cs.length<=1000000)(H:za):CallOk prog 11 [.agg (sqc s),.slice (cdL cs) cs.length fl,.agg (fmc pa),.agg (fmc fu)] H (zcE (zfj s cs pa fu)) H:=by
 have h1:=zab s;have h2:=zaj s hs;have h3:=zbu s hs;have co:=λK=>zwe s cs fl hs hn K;have F5:∀ g:Fm,(fmc g).all PV.cell=true:=λ_=>rfl;have F7:∀ g:Fm,(fmc g).length=5:=λ_=>rfl;have F8:∀ g:Fm,qA 5 (fmc g)=fmc g:=λ_=>rfl;have Z7:zfr.length=5:=rfl;have F9:∀ g:Fm,List.drop 5 (fmc g)=[]:=λ_=>rfl;have e8:∀ c:Cdd,(cdE c).length=8:=λ_=>rfl;have t8:∀ c:Cdd,qA 8 (cdE c)=cdE c:=λ_=>rfl;unfold zfj;refine .go func11 ntmps11 results11 ?_;refine .g (nq2 h1 F5) ?_;refine .m (nq2 h2 h3) co ?_;cases hb:zdP s cs with
 | false=>
  rw[gC sp];refine .t (.e ?_);refine .w (.tup [.agg zfr,.bool false,.int .i64 1]) @zfr.eq_1 ?_;exact zaI _ _ _
 | true=>
  rw[gD rfl];refine .us ?_;clear co
  match cs with
  | []=>simp[zdP]at hb
  | c::d::e::r=>simp[zdP]at hb
  | [c]=>
   have hcc:=hc c sp;have de:=λK=>(zgJ s c.p c.U c.us pa fu f0 false hs hcc.n hcc.u K).wk (args:=[.agg (sqc s),.agg (cdE c),.agg (fmc pa++(fmc fu++zfr)),.bool false]) (.cons (.refl _) (.cons (.refl _) (.cons (.agg ((Wkns.refl _).append ((Wkns.refl _).append zgc)) rfl) (.cons (.refl _) .nil))));have hX:=λh=>zeI (s:=s) (p:=c.p) (us:=c.us) (pa:=pa) (fu:=fu) (fi:=f0) (b:=false) h;have i0:qA 8 (cdL [c])=cdE c:=rfl;have i1:(cdL [c]).length=8:=rfl;have c8:(cdE c).all PV.cell=true:=rfl;dsimp only;generalize za9 s c.p c.us pa fu f0 false=X at de hX |-;refine .g @fmc.eq_1 ?_;refine .a (?_:PW _ _ _ [(1,.slice (cdL [c]) 1 fl),(4,.ptr H.length 0 0),(8,.ptr (H.length+3) 0 0),(11,.ptr (H.length+4) 0 0)] (H++[⟨37,0,sqc s⟩,⟨29,0,fmc pa⟩,⟨29,0,fmc fu⟩,⟨29,0,zfr⟩,⟨85,0,fmc pa++(fmc fu++zfr)⟩]) _);have rl:(fmc pa++(fmc fu++zfr)).length=15:=rfl;have rt:qA 15 (fmc pa++(fmc fu++zfr))=fmc pa++(fmc fu++zfr):=rfl;by_cases h0:X.2=0
   .obtain⟨A,B,hd,hg,hr⟩:=hX h0;rw[gD h0];unfold zbF at de;rw[gD h0]at de;have al:=λK=>zlk X.1.2 false om K;refine .dg λK hK=> ?_;simp(maxSteps:=9^9) (disch:=omega) only[go_sem,h2,h3,i0,i1,rl,rt,e8,t8];refine VCz.call (λ_=>de _) rfl ?_;refine sqx (nq2 F5 (nq2 F7 F8)) ?_;refine hK _ _ ?_;clear hK K;refine .e (.us ?_);refine .e (.t ?_);refine .y [H.length+3] [(8,[0])] [] [46] λK hK=> ?_;refine sqx (nq2 F5 (nq2 F7 F8)) ?_;refine VCj.read (λ_ _=>al _) rfl ?_;refine sqx (nq2 F5 (nq2 F7 (nq2 F8 @zfr.eq_1))) ?_;refine hK _ _ ?_;clear hK K;refine .ret ⟨zcE (X.1.1,X.1.2.all id,0),by simp(maxSteps:=9^9) (disch:=omega) only[go_sem,zw,zJ,uR,vA,uN,uD,uO,qB,F7,F8,zcE],?_⟩;exact zcW _ _ _
   .rw[gC h0];unfold zbF at de;rw[gC h0]at de;have z7:[PV.int .i64 0,PV.int .i64 0,PV.slice [] 0 true,PV.slice [] 0 true,PV.slice [] 0 true].length=5:=rfl;refine .dg λK hK=> ?_;simp(maxSteps:=9^9) (disch:=omega) only[go_sem,h2,h3,i0,i1,rl,rt,e8,t8];refine VCz.call (λ_=>de _) rfl ?_;refine sqz ?_;refine hK _ _ ?_;clear hK K;have d0:(X.2 !=0)=true:=by simpa using h0
    refine .g d0 ?_;refine .t (.g @zfr.eq_1 ?_);refine .w (.tup [.agg zfr,.bool false,.int .i64 X.2]) @zfr.eq_1 ?_;exact zaI _ _ _
  | [c,d]=>
   have hcc:=hc c sp;have hcd:=hc d sp;have de:=λK=>(zgJ s c.p c.U c.us pa fu f0 false hs hcc.n hcc.u K).wk (args:=[.agg (sqc s),.agg (cdE c),.agg (fmc pa++(fmc fu++zfr)),.bool false]) (.cons (.refl _) (.cons (.refl _) (.cons (.agg ((Wkns.refl _).append ((Wkns.refl _).append zgc)) rfl) (.cons (.refl _) .nil))));have hX:=λh=>zeI (s:=s) (p:=c.p) (us:=c.us) (pa:=pa) (fu:=fu) (fi:=f0) (b:=false) h;have i0:qA 8 (cdL [c,d])=cdE c:=rfl;have i1:(cdL [c,d]).length=16:=rfl;have i2:qA 8 (List.drop 8 (cdL [c,d]))=cdE d:=rfl;have i5:(cdL [c,d])[1]? =some (.int .i64 c.p.st):=rfl;have c8:∀ c,(cdE c).all PV.cell=true:=λ_=>rfl;dsimp only;generalize za9 s c.p c.us pa fu f0 false=X at de hX |-;refine .g @fmc.eq_1 ?_;refine .a (?_:PW _ _ _ [(1,.slice (cdL [c,d]) 2 fl),(4,.ptr H.length 0 0),(8,.ptr (H.length+3) 0 0),(11,.ptr (H.length+4) 0 0)] (H++[⟨37,0,sqc s⟩,⟨29,0,fmc pa⟩,⟨29,0,fmc fu⟩,⟨29,0,zfr⟩,⟨85,0,fmc pa++(fmc fu++zfr)⟩]) _);have rl:∀ x,(fmc pa++(fmc fu++fmc x)).length=15:=λ_=>rfl;have rt:∀ x,qA 15 (fmc pa++(fmc fu++fmc x))=fmc pa++(fmc fu++fmc x):=λ_=>rfl;have rlz:(fmc pa++(fmc fu++zfr)).length=15:=rfl;have rtz:qA 15 (fmc pa++(fmc fu++zfr))=fmc pa++(fmc fu++zfr):=rfl;by_cases h0:X.2=0;rotate_left
   .rw[gC h0];unfold zbF at de;rw[gC h0]at de;have z7:[PV.int .i64 0,PV.int .i64 0,PV.slice [] 0 true,PV.slice [] 0 true,PV.slice [] 0 true].length=5:=rfl;refine .dg λK hK=> ?_;simp(maxSteps:=9^9) (disch:=omega) only[go_sem,h2,h3,i0,i1,rlz,rtz,e8,t8];refine VCz.call (λ_=>de _) rfl ?_;refine sqz ?_;refine hK _ _ ?_;clear hK K;have d0:(X.2 !=0)=true:=by simpa using h0
    refine .g d0 ?_;refine .t (.g @zfr.eq_1 ?_);refine .w (.tup [.agg zfr,.bool false,.int .i64 X.2]) @zfr.eq_1 ?_;exact zaI _ _ _
   obtain⟨A,B,hd,hg,hr⟩:=hX h0;rw[gD h0];unfold zbF at de;rw[gD h0]at de;have al:=λK=>zlk X.1.2 false om K;refine .dg λK hK=> ?_;simp(maxSteps:=9^9) (disch:=omega) only[go_sem,h2,h3,i0,i1,rlz,rtz,e8,t8];refine VCz.call (λ_=>de _) rfl ?_;refine sqx (nq2 F5 (nq2 F7 F8)) ?_;refine hK _ _ ?_;clear hK K;refine .e (.us ?_);refine .e (.us ?_);clear de hX;have de:=λK=>zgJ s d.p d.U d.us pa fu X.1.1 true hs hcd.n hcd.u K;have hY:=λh=>zeI (s:=s) (p:=d.p) (us:=d.us) (pa:=pa) (fu:=fu) (fi:=X.1.1) (b:=true) h;generalize za9 s d.p d.us pa fu X.1.1 true=Y at de hY |-;obtain⟨⟨g,rows⟩,e⟩:=X;simp only at h0 hg hr al de |-;subst h0;refine .g (nq2 @fmc.eq_1 @zfr.eq_1) ?_;refine .a (?_:PW _ _ _ [(1,.slice (cdL [c,d]) 2 fl),(4,.ptr H.length 0 0),(8,.ptr (H.length+3) 0 0),(11,.ptr (H.length+4) 0 0),(12,.ptr (H.length+5) 0 0),(13,.slice (rows.map PV.bool) rows.length false)] (H++[⟨37,0,sqc s⟩,⟨29,0,fmc pa⟩,⟨29,0,fmc fu⟩,⟨29,0,zfr⟩,⟨85,0,fmc pa++(fmc fu++fmc g)⟩,⟨29,0,fmc g⟩]) _);by_cases k0:Y.2=0;rotate_left
   .rw[gC k0];unfold zbF at de;rw[gC k0]at de;refine .dg λK hK=> ?_;simp(maxSteps:=9^9) (disch:=omega) only[go_sem,h2,h3,i1,i2,rl,rt,e8,t8];refine VCz.call (λ_=>de _) rfl ?_;refine sqz ?_;refine hK _ _ ?_;clear hK K;have d0:(Y.2 !=0)=true:=by simp_all
    refine .g d0 ?_;refine .t (.g @zfr.eq_1 ?_);refine .w (.tup [.agg zfr,.bool false,.int .i64 Y.2]) @zfr.eq_1 ?_;exact zaI _ _ _
   obtain⟨A',B',hd',hg',hr'⟩:=hY k0;rw[gD k0];unfold zbF at de;rw[gD k0]at de;obtain⟨⟨g2,more⟩,e⟩:=Y;simp only at k0 hg' hr' de |-;subst k0;have al2:=λK=>zlk more false om K;refine .dg λK hK=> ?_;simp(maxSteps:=9^9) (disch:=omega) only[go_sem,h2,h3,i1,i2,rl,rt,e8,t8];refine VCz.call (λ_=>de _) rfl ?_;refine sqx (nq2 F5 (nq2 F7 F8)) ?_;refine hK _ _ ?_;clear hK K;clear de hY;refine .e (.us ?_);unfold zdP at hb;simp only[dW,mV,rY,gB]at hb;obtain⟨⟨v1,v2⟩,hl,hpr⟩:=hb;unfold za4 at hpr;simp only[gB,vR,wS,wH]at hpr;have eA:A'=A:=by have:=hd.w;have:=hd'.w;omega
   have e32:=(hd.h4 hpr.1).1;have e32':=(hd'.h4 hpr.2.1).1;have eB:B'=B:=om;subst eA eB;have h64:=(zaz v1).2.1;have k1:=zkM hg om;have k2:=zkM hg' om;have w0:∀ a b:Fm,Gok A' B' a->zi6 a b=zjY (8 * A') (8 * B') a b:=λa b ha=>by unfold zi6;rw[show(a.w / 2).toNat=8 * A' by rw[ha.w];omega,show(a.h / 2).toNat=8 * B' by rw[ha.h];omega]
   have we1:=λK=>zhK (8 * A') (8 * B') g g2 k1 k2 K;have we2:=λK=>zhK (8 * A') (8 * B') g2 g k2 k1 K;rw[<-w0 g g2 hg]at we1;rw[<-w0 g2 g hg']at we2;generalize zi6 g g2=W1 at we1 |-;generalize zi6 g2 g=W2 at we2 |-;refine .view (Vs.place 29) (PW.view (Vs.place 29) ?_);refine .a (?_:PW _ _ _ [(1,.slice (cdL [c,d]) 2 fl),(8,.ptr (H.length+3) 0 0),(12,.ptr (H.length+5) 0 0),(13,.slice (rows.map PV.bool) rows.length false),(15,.ptr (H.length+6) 0 0),(16,.slice (more.map PV.bool) more.length false)] (H++[⟨37,0,sqc s⟩,⟨29,0,fmc pa⟩,⟨29,0,fmc fu⟩,⟨29,0,zfr⟩,⟨85,0,fmc pa++(fmc fu++fmc g)⟩,⟨29,0,fmc g⟩,⟨29,0,fmc g2⟩,⟨29,0,[]⟩,⟨29,0,[]⟩]) _) rfl sp;refine .y [H.length+7,H.length+8] [(17,[0]),(18,[1])] [(17,0),(18,1)] [] λK hK=> ?_;refine sqx (nq2 F5 (nq2 F7 F8)) ?_;refine hK _ _ ?_;clear hK K;refine .g (nq2 i1 i5) ?_;refine .c (λh=> ?_) (λh=> ?_)
   .have hst:c.p.st=2:=by simpa using h
    rw[gD hst];refine .y [H.length+7,H.length+8] [(17,[0]),(18,[1])] [] [] λK hK=> ?_;simp(maxSteps:=9^9) (disch:=omega) only[go_sem,F5,F7,F8,F9,gQ];refine hK _ _ ?_;clear hK K;refine .f (λK k=>by simp(maxSteps:=9^9) (disch:=omega) only[go_sem,F5,F7,F8,F9,gQ];refine VCx.call (we2 _) rfl ?_;simp(maxSteps:=9^9) (disch:=omega) only[go_sem,F5,F7,F8,F9,gQ];exact k) ?_;refine .e (.us ?_);cases hall:rows.all id with
    | false=>
     rw[hall]at al;refine .y [H.length+3] [(8,[0])] [] [85,88] λK hK=> ?_;simp(maxSteps:=9^9) (disch:=omega) only[go_sem,F5,F7,F8,F9,gQ];refine VCj.read (λ_ _=>al _) rfl ?_;simp(maxSteps:=9^9) (disch:=omega) only[go_sem,F5,F7,F8,F9,gQ,zfr];refine hK _ _ ?_;clear hK K;refine .ret ⟨zcE (W2,false,0),by simp(maxSteps:=9^9) (disch:=omega) only[go_sem,zw,zJ,uR,vA,uN,uD,uO,qB,F7,F8,zcE],?_⟩;exact zcW _ _ _
    | true=>rw[hall]at al;refine .y [H.length+3] [(8,[0])] [] [85,88] λK hK=> ?_;simp(maxSteps:=9^9) (disch:=omega) only[go_sem,F5,F7,F8,F9,gQ];refine VCj.read (λ_ _=>al _) rfl ?_;simp(maxSteps:=9^9) (disch:=omega) only[go_sem,F5,F7,F8,F9,gQ];refine VCj.read (λ_ _=>al2 _) rfl ?_;simp(maxSteps:=9^9) (disch:=omega) only[go_sem,F5,F7,F8,F9,gQ,zfr];refine hK _ _ ?_;clear hK K;refine .ret ⟨zcE (W2,more.all id,0),by simp(maxSteps:=9^9) (disch:=omega) only[go_sem,zw,zJ,uR,vA,uN,uD,uO,qB,F7,F8,zcE],?_⟩;exact zcW _ _ _
   .have hst:¬ c.p.st=2:=by simpa using h
    rw[gC hst];refine .skip (.f (λK k=>by simp(maxSteps:=9^9) (disch:=omega) only[go_sem,F5,F7,F8,F9,gQ];refine VCx.call (we1 _) rfl ?_;simp(maxSteps:=9^9) (disch:=omega) only[go_sem,F5,F7,F8,F9,gQ];exact k) ?_);refine .e (.us ?_);cases hall:rows.all id with
    | false=>
     rw[hall]at al;refine .y [H.length+3] [(8,[0])] [] [85,88] λK hK=> ?_;simp(maxSteps:=9^9) (disch:=omega) only[go_sem,F5,F7,F8,F9,gQ];refine VCj.read (λ_ _=>al _) rfl ?_;simp(maxSteps:=9^9) (disch:=omega) only[go_sem,F5,F7,F8,F9,gQ,zfr];refine hK _ _ ?_;clear hK K;refine .ret ⟨zcE (W1,false,0),by simp(maxSteps:=9^9) (disch:=omega) only[go_sem,zw,zJ,uR,vA,uN,uD,uO,qB,F7,F8,zcE],?_⟩;exact zcW _ _ _
    | true=>rw[hall]at al;refine .y [H.length+3] [(8,[0])] [] [85,88] λK hK=> ?_;simp(maxSteps:=9^9) (disch:=omega) only[go_sem,F5,F7,F8,F9,gQ];refine VCj.read (λ_ _=>al _) rfl ?_;simp(maxSteps:=9^9) (disch:=omega) only[go_sem,F5,F7,F8,F9,gQ];refine VCj.read (λ_ _=>al2 _) rfl ?_;simp(maxSteps:=9^9) (disch:=omega) only[go_sem,F5,F7,F8,F9,gQ,zfr];refine hK _ _ ?_;clear hK K;refine .ret ⟨zcE (W1,more.all id,0),by simp(maxSteps:=9^9) (disch:=omega) only[go_sem,zw,zJ,uR,vA,uN,uD,uO,qB,F7,F8,zcE],?_⟩;exact zcW _ _ _
end Go.Proofs.YtleejngibkbjnaaGreatDoor.Sc
