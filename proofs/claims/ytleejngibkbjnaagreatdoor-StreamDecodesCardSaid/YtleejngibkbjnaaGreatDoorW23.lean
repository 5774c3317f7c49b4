/-
  Parts of the proof. No condition.
-/
import Derived.Test.YtleejngibkbjnaaGreatDoorW21
import Derived.Test.YtleejngibkbjnaaGreatDoorW22
set_option linter.all false
set_option maxRecDepth 100000
set_option maxHeartbeats 32000000
namespace Go.Proofs.YtleejngibkbjnaaGreatDoor.Sc
open Pm Ty Go.RowKit
theorem zz0{s:Sq}{p:Pi}(hv:zB s p=true)(hi:s.il=true):s.h%32=0:=by have hr:=zaz hv;unfold zB at hv;simp only[gB,wV,wH]at hv;obtain⟨⟨hq,hc⟩,_⟩:=hv;unfold zbJ vsz at hq;grind
theorem zlo{A B:Nat}{f:Fm}(hA:1<=A/\A<=4)(hB:1<=B/\B<=4)(hf:fmd f=true)(hw:f.w=((16 * A:Nat):Int))(hh:f.h=((16 * B:Nat):Int)):Gok A B f:=by
 have hv:fvd f=true:=by simp_all[fvd,uP,gB]
 obtain⟨A',B',g⟩:=Gok.of hv;have e1:A'=A:=by have:=g.w;omega
 have e2:B'=B:=by have:=g.h;omega
 simp_all
theorem zjS{A B:Nat}{f:Fm}(hA:1<=A/\A<=4)(hB:1<=B/\B<=4)(hv:fvd f=true)(hw:f.w=((16 * A:Nat):Int))(hh:f.h=((32 * B:Nat):Int)){s:Int}(hs:s=0\/s=1):Gok A B (zo f s):=by
 obtain⟨w,ht,y,u,v⟩:=f;simp only at hw hh;obtain⟨V,K,e1,e2,hok⟩:=zdM hv (by show ht%32=0;omega);subst e1 e2;obtain⟨P,hP,rfl⟩:∃ P:Nat,P<=1/\s=(P:Int):=by
  rcases hs with e|e
  .exact⟨0,om,om⟩
  .exact⟨1,om,om⟩
 have e3:=zaW V K P y u v;unfold fr4 at e3;rw[e3];have h1:=zpt hok hP;exact zlo hA hB h1.fmd (by have:=h1.w;omega) (by have:=h1.h;omega)
theorem zeO{f:Fm}{w h:Int}(hm:mOr f w h=true)(hz:f.w≠0):fmd f=true/\f.w=w/\f.h=h:=by unfold mOr at hm;simp_all
structure DecOk(s:Sq)(p:Pi)(pa fu fi:Fm)(b:Bool)(A B:Nat):Prop where
 hv:zB s p=true
 hb:b=true->p.st≠3
 ra:1<=A/\A<=4
 rb:1<=B/\B<=4
 w:s.w=((16 * A:Nat):Int)
 g:hgt s p=((16 * B:Nat):Int)
 r:zaq s p=(B:Int)
 h3:p.st=3->s.h=((16 * B:Nat):Int)
 h4:p.st≠3->s.h=((32 * B:Nat):Int)/\s.il=true
 st:1<=p.st/\p.st<=3
 ty:1<=p.ty/\p.ty<=3
 mp:mOr pa s.w s.h=true
 mf:mOr fu s.w s.h=true
 mi:mOr fi s.w (s.h.tdiv 2)=true
 zp:p.ty≠1->pa.w≠0
 zf:p.ty=3->fu.w≠0
 zi:p.ty=2->b=true->fi.w≠0
theorem DecOk.of{s:Sq}{p:Pi}{pa fu fi:Fm}{b:Bool}(h:zg6 s p pa fu fi b=0):∃ A B,DecOk s p pa fu fi b A B:=by
 unfold zg6 at h;split at h
 .rename_i hc;simp only[gB]at hc;obtain⟨hf,m1,m2,m3⟩:=hc;unfold zcq at hf;rw[gB]at hf;obtain⟨hv,hb⟩:=hf;obtain⟨A,B,a1,b1,ew,eh,er,e3,e4,st,ty⟩:=zsj hv;split at h
  .cases h
  rename_i hn;simp only[wV,gB,vR,gY,rZ]at hn;refine⟨A,B,hv,λe=> ?_,a1,b1,ew,eh,er,e3,e4,st,ty,m1,m2,m3,λe1 e2=>hn (.inl ⟨e1,e2⟩),λe1 e2=>hn (.inr (.inl ⟨e1,e2⟩)),λe1 e2 e3=>hn (.inr (.inr ⟨e1,e2,e3⟩))⟩;simp_all
 .cases h
theorem DecOk.vc{s:Sq}{p:Pi}{pa fu fi:Fm}{b:Bool}{A B:Nat}(h:DecOk s p pa fu fi b A B):vcx (cxP s p b)=true:=by
 unfold vcx cxP;have:=h.st;have:=h.ty;simp only[gB,gY];refine⟨om,om,om,om,?_⟩;split
 .rename_i h3;cases b with
  | false=>rfl
  | true=>exact absurd h3 (h.hb rfl)
 .rename_i h3;exact(h.h4 h3).2
theorem zlu{s:Sq}{p:Pi}{pa fu fi f:Fm}{b:Bool}{A B:Nat}(h:DecOk s p pa fu fi b A B)(hm:mOr f s.w s.h=true)(hz:f.w≠0){sel:Int}(hs:sel=0\/sel=1):(zdi f (!(fcx (cxP s p b))) sel).2=0/\Gok A B (zdi f (!(fcx (cxP s p b))) sel).1:=by
 obtain⟨g1,g2,g3⟩:=zeO hm hz;obtain⟨v1,v2⟩:=zkN h.hv g1 g2 g3;have ew:=h.w;by_cases h3:p.st=3
 .have hf:fcx (cxP s p b)=false:=by unfold fcx cxP;simp[h3]
  unfold zdi;rw[hf,gC hz,v1,gC sp,gD (by rfl)];exact⟨rfl,(zlo h.ra h.rb g1 om (by have:=h.h3 h3;omega):Gok A B f)⟩
 .have hf:fcx (cxP s p b)=true:=by unfold fcx cxP;simp[h3]
  have e4:=(h.h4 h3).1;unfold zdi;rw[hf,gC hz,v1,gC (by simp[v2 h3]),gC sp];exact⟨rfl,zjS h.ra h.rb v1 om om hs⟩
theorem zvg{s:Sq}{p:Pi}{pa fu fi:Fm}{b:Bool}{A B:Nat}(h:DecOk s p pa fu fi b A B){d sel:Int}(hd:(d=0/\p.ty≠1)\/(d=1/\p.ty=3))(hs:sel=0\/sel=1):(zcM (cxP s p b) pa fu fi d sel).2=0/\Gok A B (zcM (cxP s p b) pa fu fi d sel).1:=by
 have hbad:zez (cxP s p b) d sel=false:=by unfold zez;rw[h.vc];grind
 unfold zcM;rw[hbad,gC sp];unfold zcz;rcases hd with⟨rfl,ht⟩|⟨rfl,ht⟩
 .rw[gC om];split
  .rename_i hc;simp only[gB,gY]at hc;obtain⟨hb,ht2,_⟩:=hc;have hb':b=true:=hb;have hz:=h.zi ht2 hb';obtain⟨g1,g2,g3⟩:=zeO h.mi hz;have e4:=(h.h4 (h.hb hb')).1;have ew:=h.w;have gg:=zlo h.ra h.rb g1 om (by rw[g3,zF _ _ om];omega);show(zdi fi true sel).2=0/\Gok A B (zdi fi true sel).1;unfold zdi;rw[gC hz,gg.fvd,gC sp,gD rfl];simp_all
  .exact zlu h h.mp (h.zp ht) hs
 .rw[gD rfl];exact zlu h h.mf (h.zf ht) hs
theorem zf2{s:Sq}{p:Pi}{pa fu fi:Fm}{b:Bool}{A B:Nat}(h:DecOk s p pa fu fi b A B){d:Int}(hd:(d=0/\p.ty≠1)\/(d=1/\p.ty=3)){fp:Bool}{va vb vc vd sa sb:Int}(hs:sa=0\/sa=1)(hv:vrg va vb=true)(hfp:fp=true->bcx (cxP s p b)=true){X Y:Nat}(hX:X<A)(hY:Y<B):
  (zfm (cxP s p b) fp va vb vc vd sa sb pa fu fi d (X:Int) (Y:Int)).2=0:=by
 obtain⟨e1,g⟩:=zvg h hd hs;unfold zfm;rw[gC (by rw[e1];simp)];generalize (zcM (cxP s p b) pa fu fi d sa).1=f at g;cases fp with
 | true=>
  rw[gD rfl];have hb:=hfp rfl;unfold bcx cxP at hb;simp only[gB,gY]at hb;have h32:=zz0 h.hv hb.1;have e3:=h.h3 hb.2;unfold ze4;rw[g.has hX hY,uP,gD (by rw[gY,g.h];omega)]
 | false=>rw[gC sp];have hfv:=g.fvd;unfold fvd at hfv;rw[gB]at hfv;unfold zja;rw[hfv.1,uP,gD (by simp only[gB,gY];have:=g.w;have:=g.h;omega),hv,gD rfl]
theorem zhl{s:Sq}{p:Pi}{pa fu fi:Fm}{b:Bool}{A B:Nat}(h:DecOk s p pa fu fi b A B){m:Mb}(hm:fmS (cxP s p b) m=true)(al:Bool){q:Int}(hq:1<=q/\q<=31){X Y:Nat}(hX:X<A)(hY:Y<B):
  (zdC (cxP s p b) s.ia s.ie al q m pa fu fi (X:Int) (Y:Int)).2=0:=by
 have hmx:zaM s.ia=true/\zaM s.ie=true:=by have:=h.hv;simp_all[zB,zbJ,gB]
 have hq':qnB q=true:=by unfold qnB;simp[hq]
 have hpr:m.k≠1->(prS (cxP s p b) (if m.k=0 then stl (cxP s p b)else m) pa fu fi (X:Int) (Y:Int)).2=0:=λhk=>by
  have key:∀ M:Mb,(M.ua=true->zbT (cxP s p b) M.fp true M.va M.vb M.vc M.vd M.sa M.sb=true\/(M.fp=false/\vrg M.va M.vb=true/\(M.sa=0\/M.sa=1)))->(M.ub=true->p.ty=3/\(zbT (cxP s p b) M.fp true M.ve M.vf M.vg M.vh M.sc M.sd=true\/(M.fp=false/\vrg M.ve M.vf=true/\(M.sc=0\/M.sc=1))))->(M.fp=true->bcx (cxP s p b)=true)->p.ty≠1->(M.ua=true\/M.ub=true)->(prS (cxP s p b) M pa fu fi (X:Int) (Y:Int)).2=0:=λM h0 h1 hf ht hu=>by
   have r0:M.ua=true->(ziP (cxP s p b) M pa fu fi (X:Int) (Y:Int)).2=0:=λe=>by
    unfold ziP;rcases h0 e with hh|⟨_,hv,hs⟩
    .obtain⟨q1,_,q3⟩:=zkY hh;grind[zf2]
    grind[zf2]
   have r1:M.ub=true->(zf3 (cxP s p b) M pa fu fi (X:Int) (Y:Int)).2=0:=λe=>by
    unfold zf3;obtain⟨t3,hh⟩:=h1 e;rcases hh with hh|⟨_,hv,hs⟩
    .obtain⟨q1,_,q3⟩:=zkY hh;grind[zf2]
    grind[zf2]
   grind[prS]
  by_cases h0:m.k=0
  .rw[gD h0];have ht:p.ty≠1:=by unfold fmS at hm;rw[gB,gD h0,gB]at hm;grind[cxP]
   have hp:pcx (cxP s p b)=0\/pcx (cxP s p b)=1:=by unfold pcx;split<;>simp
   exact key (stl (cxP s p b)) (λ_=>.inr ⟨rfl,(show vrg 0 0=true by decide),hp⟩) (λe=>by
    have e3:p.ty=3:=by have:decide ((cxP s p b).t=3)=true:=e;exact vF this
    refine⟨e3,.inr ⟨rfl,(show vrg 0 0=true by decide),?_⟩⟩;show(if(cxP s p b).t=3 then pcx (cxP s p b)else 0)=0\/(if(cxP s p b).t=3 then pcx (cxP s p b)else 0)=1;split
    .exact hp
    .exact .inl rfl) (λe=>by cases e) ht (.inl rfl)
  .rw[gC h0];have hk2:m.k=2:=by rcases zqH hm with h|h|h<;>omega
   have hh:=hm;unfold fmS at hh;rw[gB,gC om,gC om,gD hk2]at hh;have h2:=hh.2;unfold zfV at h2;simp only[gB,vR,nC]at h2;obtain⟨⟨ht,hu⟩,⟨hfp,_⟩,d0,d1,_⟩:=h2;have ht1:p.ty≠1:=by unfold cxP at ht;simpa using ht
   refine key m (λe=> ?_) (λe=>⟨?_,?_⟩) (λe=> ?_) ht1 ?_
   .simp_all[d0S]
   .unfold zgj at hu;simp only[nC,Bool.and_eq_false_iff,rZ]at hu;have h2':p.ty≠2:=by
     rcases hu.1 with h|h
     .exact h
     simp_all
    have:=h.ty;omega
   .simp_all[d1S,d1]
   all_goals grind[zgj,Bool.or_eq_false_iff]
 unfold zdC;rw[gD (by rw[hm,hmx.1,hmx.2,hq'];rfl)];by_cases hk:m.k=1
 .rw[gD hk]
 .rw[gC hk,gC (by rw[hpr hk];simp)]
end Go.Proofs.YtleejngibkbjnaaGreatDoor.Sc
