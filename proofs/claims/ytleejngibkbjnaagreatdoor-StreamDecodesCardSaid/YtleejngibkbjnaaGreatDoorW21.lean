/-
  Parts of the proof. No condition.
-/
import Derived.Test.YtleejngibkbjnaaGreatDoorW14
import Derived.Test.YtleejngibkbjnaaGreatDoorW15
open Go.Proofs.YtleejngibkbjnaaGreatDoor.Pm.PV renaming int → O
open Go.IntKind renaming i64 → J
open List renaming take → qA
open Go.Proofs.Tryz
set_option linter.all false
set_option maxRecDepth 100000
set_option maxHeartbeats 32000000
namespace Go.Proofs.YtleejngibkbjnaaGreatDoor.Sc
open Pm Ty Go.RowKit
theorem zsj{s:Sq}{p:Pi}(hv:zB s p=true):∃ A B:Nat,(1<=A/\A<=4)/\(1<=B/\B<=4)/\s.w=((16 * A:Nat):Int)/\hgt s p=((16 * B:Nat):Int)/\zaq s p=(B:Int)/\(p.st=3->s.h=((16 * B:Nat):Int))/\(p.st≠3->s.h=((32 * B:Nat):Int)/\s.il=true)/\(1<=p.st/\p.st<=3)/\(1<=p.ty/\p.ty<=3):=by
 have hr:=zaz hv;have hv':=hv;unfold zB at hv;simp only[gB,wV,wH]at hv;obtain⟨⟨hq,hc⟩,hi⟩:=hv;unfold zbJ vsz mbs at hq;simp only[gB,wV,wH,gY,vR]at hq;unfold zof at hc;simp only[gB,gY]at hc;have h1:s.w%16=0:=by grind
 have h2:s.h%16=0:=by grind
 have h3:s.il=true->s.h%32=0:=λe=>by grind
 have e1:s.h.tdiv 16=s.h / 16:=zF _ _ om;have e2:s.h.tdiv 32=s.h / 32:=zF _ _ om;have e3:s.h.tdiv 2=s.h / 2:=zF _ _ om;have hst:p.st≠3->s.il=true:=λh=>by simp_all
 by_cases h:p.st=3
 .refine⟨(s.w / 16).toNat,(s.h / 16).toNat,om,om,om,?_,?_,λ_=>om,λh'=>absurd h h',om,om⟩;all_goals grind[hgt,zaq]
 .have h32:=h3 (hst h);refine⟨(s.w / 16).toNat,(s.h / 32).toNat,om,om,om,?_,?_,λh'=>absurd h' h,λ_=>⟨om,hst h⟩,om,om⟩;all_goals grind[hgt,zaq]
def mOr(f:Fm)(w h:Int):Bool:=decide (f.w=0)||(fmd f&&(decide (f.w=w)&&decide (f.h=h)))
theorem znV(f:Fm)(w h:Int)(H:za):CallOk prog 79 [.agg (fmc f),O J w,O J h] H (.bool (mOr f w h)) H:=by have fo:=λK=>za1 f K;unfold mOr;generalize fmd f=b at fo |-;obtain⟨fw,fh,y,u,v⟩:=f;simp only[fmc]at fo |-;refine .body (F0:=[(0,.agg [O J fw,O J fh,.slice (bs y) y.length false,.slice (bs u) u.length false,.slice (bs v) v.length false]),(1,O J w),(2,O J h)]) func79 rfl ntmps79 results79 rfl kr rfl ?_;refine .e (.x λK hK=> ?_);simp(disch:=omega) only[go_sem];(repeat'(first|((refine zg ?_ ?_)<;>intro h<;>(try simp only[nqb]at h)<;>simp(disch:=omega) only[go_sem,h])|((refine VCx.call (fo _) rfl ?_);simp(disch:=omega) only[go_sem])));all_goals(refine hK _ _ ?_;clear hK;(refine .ret ⟨_,rfl,?_⟩;refine .base (.id' ?_ (.bool _)));(simp_all[slot,Nat.beq]<;>rfl))
def zg6(s:Sq)(p:Pi)(pa fu fi:Fm)(b:Bool):Int:=if(zcq s p b&&(mOr pa s.w s.h&&(mOr fu s.w s.h&&mOr fi s.w (s.h.tdiv 2))))=true then(if((!decide (p.ty=1)&&decide (pa.w=0))||((decide (p.ty=3)&&decide (fu.w=0))||(decide (p.ty=2)&&(b&&decide (fi.w=0)))))=true then 6 else 0)else 1
theorem zyV(s:Sq)(p:Pi)(pa fu fi:Fm)(b:Bool)(hs:SqOk s)(H:za):CallOk prog 41 [.agg (sqc s),.agg (pic p),.agg (fmc pa++(fmc fu++fmc fi)),.bool b] H (O J (zg6 s p pa fu fi b)) H:=by
 have fo:=λK=>zpv s p b K hs;have h1:=zab s;have h2:=zaj s hs;have h3:=zbu s hs;have h4:=zoM s;have h5:(sqc s)[1]? =some (O J s.h):=rfl;have p6:(pic p).length=6:=rfl;have p7:(pic p).all PV.cell=true:=rfl;have t6:qA 6 (pic p)=pic p:=rfl;have ty:(pic p)[0]? =some (O J p.ty):=rfl;have rl:(fmc pa++(fmc fu++fmc fi)).length=15:=rfl;have rc:(fmc pa++(fmc fu++fmc fi)).all PV.cell=true:=rfl;have r0:qA 5 (fmc pa++(fmc fu++fmc fi))=fmc pa:=rfl;have r1:qA 5 (List.drop 5 (fmc pa++(fmc fu++fmc fi)))=fmc fu:=rfl;have r2:qA 5 (List.drop 10 (fmc pa++(fmc fu++fmc fi)))=fmc fi:=rfl;have w0:(fmc pa++(fmc fu++fmc fi))[0]? =some (O J pa.w):=rfl;have w1:(fmc pa++(fmc fu++fmc fi))[5]? =some (O J fu.w):=rfl;have w2:(fmc pa++(fmc fu++fmc fi))[10]? =some (O J fi.w):=rfl;have m1:=λK=>znV pa s.w s.h K;have m2:=λK=>znV fu s.w s.h K;have m3:=λK=>znV fi s.w (s.h.tdiv 2) K;unfold zg6;generalize hbf:zcq s p b=bf at fo |-;generalize mOr pa s.w s.h=b1 at m1 |-;generalize mOr fu s.w s.h=b2 at m2 |-;generalize mOr fi s.w (s.h.tdiv 2)=b3 at m3 |-;refine .go func41 ntmps41 results41 ?_;refine .g (nq2 h1 (nq2 p7 rc)) ?_;refine .m (nq2 h2 (nq2 h3 (nq2 p6 t6))) fo ?_;refine .c (λh=> ?_) (λh=> ?_)
 .have hb:bf=false:=by simpa using h
  subst hb;refine .e ?_;(refine .ret ⟨_,rfl,?_⟩;refine .base (.id' ?_ (.int _ _)));rfl
 have hb:bf=true:=by simpa using h
 subst hb;have wd:IntKind.i64.wrap (s.h.tdiv 2)=s.h.tdiv 2:=by unfold zcq at hbf;rw[gB]at hbf;have:=zaz hbf.1;exact zjW _ _ om
 refine .skip ?_;(repeat refine .seq ?_);refine .rgv (P:=prog) [3,5,6] 42 (.bool (!(b1&&(b2&&b3)))) ?_ ?_ ?_
 .rfl
 .simp(disch:=omega) only[go_sem,h2,h4,h5,rl,r0,r1,r2];(repeat'(first|((refine zg ?_ ?_)<;>intro h<;>(try simp only[nqb]at h)<;>simp(disch:=omega) only[go_sem,h2,h4,h5,rl,r0,r1,r2,wd,h])|((first|refine VCx.call (m1 _) rfl ?_|refine VCx.call (m2 _) rfl ?_|refine VCx.call (m3 _) rfl ?_);simp(disch:=omega) only[go_sem,h2,h4,h5,rl,r0,r1,r2,wd])));all_goals(clear hbf wd m1 m2 m3 fo h1 h2 h3 h4 h5 rl rc r0 r1 r2 w0 w1 w2 p6 p7 t6 ty;(simp_all[slot,Nat.beq]))
 refine .c (λh=> ?_) (λh=> ?_)
 .have hb:(b1&&(b2&&b3))=false:=by grind
  rw[hb];refine .e ?_;(refine .ret ⟨_,rfl,?_⟩;refine .base (.id' ?_ (.int _ _)));rfl
 have hb:(b1&&(b2&&b3))=true:=by simp_all
 rw[hb];clear hbf m1 m2 m3 fo hb h wd;refine .skip ?_;(repeat'(first|refine .seq ?_|refine .skip ?_|refine .block ?_|((refine .rg rfl λK hK=> ?_);simp(disch:=omega) only[go_sem,p6,ty,rl,w0,w1,w2])|((refine zg ?_ ?_)<;>intro h<;>(try simp only[nqb]at h)<;>simp(disch:=omega) only[go_sem,p6,ty,rl,w0,w1,w2,h])|(refine hK _ _ ?_;clear hK K)|(refine .cond (t:=_) rfl (λh=> ?_) (λh=> ?_)<;>(try(cases h;done))<;>(try simp only[nqb]at h))));all_goals((refine .ret ⟨_,rfl,?_⟩;refine .base (.id' ?_ (.int _ _)));clear h1 h2 h3 h4 h5 rl rc r0 r1 r2 w0 w1 w2 p6 p7 t6 ty;(simp_all[slot,Nat.beq]))
def zcH(s:Sq)(p:Pi)(pa:Fm):Fm:=if pa.w=0 then flt (s.w / 16).toNat (hgt s p / 16).toNat else if p.st=3 then pa else zo pa (p.st - 1)
theorem zkN{s:Sq}{p:Pi}{f:Fm}(hv:zB s p=true)(hf:fmd f=true)(hw:f.w=s.w)(hh:f.h=s.h):fvd f=true/\(p.st≠3->f.h%32=0):=by obtain⟨A,B,a1,b1,ew,eh,er,e3,e4,st,_⟩:=zsj hv;simp_all[fvd,uP,gB];omega
theorem ztQ(f:Fm)(s:Int)(hf:fvd f=true)(h32:f.h%32=0)(hs:s=0\/s=1)(L:za):CallOk prog 82 [.agg (fmc f),O J s] L (.tup [.agg (fmc (zo f s)),O J 0]) L:=by
 obtain⟨w,ht,y,u,v⟩:=f;obtain⟨V,K,rfl,rfl,hok⟩:=zdM hf h32;obtain⟨P,hP,rfl⟩:∃ P:Nat,P<=1/\s=(P:Int):=by
  rcases hs with e|e
  .exact⟨0,om,om⟩
  .exact⟨1,om,om⟩
 have e1:=zaW V K P y u v;grind[ziJ,fr4]
theorem zyW(s:Sq)(p:Pi)(pa:Fm)(hs:SqOk s)(hv:zB s p=true)(hm:mOr pa s.w s.h=true)(H:za):CallOk prog 42 [.agg (sqc s),.agg (pic p),.agg (fmc pa)] H (.tup [.agg (fmc (zcH s p pa)),O J 0]) H:=by
 have h1:=zab s;have h2:=zaj s hs;have h3:=zbu s hs;have h4:=zoM s;have p6:(pic p).length=6:=rfl;have p7:(pic p).all PV.cell=true:=rfl;have t6:qA 6 (pic p)=pic p:=rfl;have st:(pic p)[1]? =some (O J p.st):=rfl;have F5:∀ g:Fm,(fmc g).all PV.cell=true:=λ_=>rfl;have F7:∀ g:Fm,(fmc g).length=5:=λ_=>rfl;have F8:∀ g:Fm,qA 5 (fmc g)=fmc g:=λ_=>rfl;have z9:List.drop 5 [PV.int .i64 0,PV.int .i64 0,PV.slice [] 0 true,PV.slice [] 0 true,PV.slice [] 0 true]=[]:=rfl;have w0:(fmc pa)[0]? =some (O J pa.w):=rfl;obtain⟨A,B,a1,b1,ew,eh,er,e3,e4,e5,_⟩:=zsj hv;have ho:=λK=>ztw s p K hs (by have:=zaz hv;omega);refine .go func42 ntmps42 results42 ?_;refine .g (nq2 h1 (nq2 p7 F5)) ?_;refine .b (.g (nq2 w0 F7) ?_);refine .c (λh=> ?_) (λh=> ?_)
 .have hz:pa.w=0:=by simpa using h
  have hc:zcH s p pa=flt A B:=by simp_all[zcH]
  rw[hc];rw[eh]at ho;rw[ew]at h4;have fl:=λK=>ztK A B a1 b1 K;generalize flt A B=g at fl |-;refine .y [H.length+3] [(6,[0])] [] [16,17] λK hK=> ?_;simp(disch:=omega) only[go_sem,zy,h2,h3,h4,p6,t6];refine VCj.read (λ_ _=>ho _) rfl ?_;refine sqz ?_;refine VCj.read (λ_ _=>fl _) rfl ?_;refine sqx (nq2 F5 (nq2 F7 z9)) ?_;refine hK _ _ ?_;clear hK K;refine .w (.tup [.agg (fmc g),O J 0]) (nq2 F7 F8) ?_;exact .base (.id (zC _ _ _ _ _ _ _ _ _ _))
 have hz:pa.w≠0:=by simpa using h
 have hm2:fmd pa=true/\pa.w=s.w/\pa.h=s.h:=by simp_all[mOr]
 obtain⟨hfv,h32⟩:=zkN hv hm2.1 hm2.2.1 hm2.2.2;have hc:zcH s p pa=if p.st=3 then pa else zo pa (p.st - 1):=gC hz
 rw[hc];refine .g (nq2 st p6) ?_;refine .c (λh=> ?_) (λh=> ?_)
 .have h1':p.st=1:=by simpa using h
  rw[gC om,h1'];have fl:=λK=>ztQ pa 0 hfv (h32 om) (.inl rfl) K;change ∀ K,CallOk _ _ _ K (.tup [.agg (fmc (zo pa (1 - 1))),_]) K at fl;generalize zo pa (1 - 1)=g at fl |-;refine .m (nq2 F5 (nq2 F7 (nq2 F8 z9))) fl ?_;refine .w (.tup [.agg (fmc g),O J 0]) (nq2 F7 F8) ?_;exact .base (.id (zC _ _ _ _ _ _ _ _ _ _))
 have h1':p.st≠1:=by simpa using h
 refine .g (nq2 st p6) ?_;refine .c (λh=> ?_) (λh=> ?_)
 .have h2':p.st=2:=by simpa using h
  rw[gC om,h2'];have fl:=λK=>ztQ pa 1 hfv (h32 om) (.inr rfl) K;change ∀ K,CallOk _ _ _ K (.tup [.agg (fmc (zo pa (2 - 1))),_]) K at fl;generalize zo pa (2 - 1)=g at fl |-;refine .m (nq2 F5 (nq2 F7 (nq2 F8 z9))) fl ?_;refine .w (.tup [.agg (fmc g),O J 0]) (nq2 F7 F8) ?_;exact .base (.id (zC _ _ _ _ _ _ _ _ _ _))
 have h2':p.st≠2:=by simpa using h
 rw[gD om];refine .skip ?_;obtain⟨A',B',c1,c2,c3,c4,gw,gh,ly,lu,lv⟩:=zfZ hfv;have nb:=nAB (A:=A') (B:=B') ⟨c1,c2⟩ ⟨c3,c4⟩;have q1:16 * A' * (16 * B')=256 * (A' * B'):=by grind
 have q2:8 * A' * (8 * B')=64 * (A' * B'):=by grind
 obtain⟨w,ht,y,u,v⟩:=pa;simp only at ly lu lv;have c1:=λK=>ziW y false K om;have c2:=λK=>ziW u false K om;have c3:=λK=>ziW v false K om;clear hc hm hfv h32 q1 q2 ly lu lv;unfold fmc;refine .dn λK hK=> ?_;simp(disch:=omega) only[go_sem];(repeat'(((first|refine VCy.call (c1 _) rfl ?_|refine VCy.call (c2 _) rfl ?_|refine VCy.call (c3 _) rfl ?_);simp(disch:=omega) only[go_sem])));refine hK _ _ ?_;clear hK K;refine .v (.tup [.agg [O J w,O J ht,.slice (bs y) y.length false,.slice (bs u) u.length false,.slice (bs v) v.length false],O J 0]) ?_;exact .base (.id (zC _ _ _ _ _ _ _ _ _ _))
def zlN(f:Fm)(w h:Int):Bool:=fmd f&&(decide (f.w=w)&&decide (f.h=h))
theorem zgn(f:Fm)(w h:Int)(H:za):CallOk prog 174 [.agg (fmc f),O J w,O J h] H (.bool (zlN f w h)) H:=by have fo:=λK=>zaU f K;unfold zlN;generalize fmd f=b at fo |-;obtain⟨fw,fh,y,u,v⟩:=f;simp only[fmc]at fo |-;refine .body (F0:=[(0,.agg [O J fw,O J fh,.slice (bs y) y.length false,.slice (bs u) u.length false,.slice (bs v) v.length false]),(1,O J w),(2,O J h)]) func174 rfl ntmps174 results174 rfl kr rfl ?_;refine .e (.x λK hK=> ?_);simp(disch:=omega) only[go_sem];(repeat'(first|((refine zg ?_ ?_)<;>intro h<;>(try simp only[nqb]at h)<;>simp(disch:=omega) only[go_sem,h])|((refine VCx.call (fo _) rfl ?_);simp(disch:=omega) only[go_sem])));all_goals(refine hK _ _ ?_;clear hK;(refine .ret ⟨_,rfl,?_⟩;refine .base (.id' ?_ (.bool _)));(simp_all[slot,Nat.beq]<;>rfl))
end Go.Proofs.YtleejngibkbjnaaGreatDoor.Sc
