/-
  Parts of the proof. No condition.
-/
import Derived.Test.YtdajpjenhcobkaaGreatDoorX19
open Bool renaming and_eq_true → qA, or_eq_false_iff → qB, true_and → qD
set_option linter.all false
set_option maxRecDepth 100000
set_option maxHeartbeats 32000000
namespace Go.Proofs.YtdajpjenhcobkaaGreatDoor.Sc
open Pm Ty Go.RowKit
theorem zxr{s:Sq}{p:Pi}(hv:zP s p=true)(hi:s.il=true):s.h%32=0:=by have hr:=zaC hv;unfold zP at hv;simp only[qA,Bool.or_eq_true,beq_iff_eq]at hv;obtain⟨⟨hq,hc⟩,_⟩:=hv;unfold zcT vsz at hq;grind
theorem zkl{A B:Nat}{f:Fm}(hA:1<=A/\A<=4)(hB:1<=B/\B<=4)(hf:fmd f=true)(hw:f.w=((16 * A:Nat):Int))(hh:f.h=((16 * B:Nat):Int)):Gok A B f:=by
 have hv:fvd f=true:=by simp_all[fvd,qD,qA]
 obtain⟨A',B',g⟩:=Gok.of hv;have e1:A'=A:=by have:=g.w;omega
 have e2:B'=B:=by have:=g.h;omega
 simp_all
theorem zi0{A B:Nat}{f:Fm}(hA:1<=A/\A<=4)(hB:1<=B/\B<=4)(hv:fvd f=true)(hw:f.w=((16 * A:Nat):Int))(hh:f.h=((32 * B:Nat):Int)){s:Int}(hs:s=0\/s=1):Gok A B (fieldOf f s):=by
 obtain⟨w,ht,y,u,v⟩:=f;simp only at hw hh;obtain⟨V,K,e1,e2,hok⟩:=zcK hv (by show ht%32=0;omega);subst e1 e2;obtain⟨P,hP,rfl⟩:∃ P:Nat,P<=1/\s=(P:Int):=by
  rcases hs with e|e
  .exact⟨0,om,om⟩
  .exact⟨1,om,om⟩
 have e3:=zat V K P y u v;unfold fr4 at e3;rw[e3];have h1:=znT hok hP;exact zkl hA hB h1.fmd (by have:=h1.w;omega) (by have:=h1.h;omega)
theorem zej{f:Fm}{w h:Int}(hm:mOr f w h=true)(hz:f.w≠0):fmd f=true/\f.w=w/\f.h=h:=by unfold mOr at hm;simp_all
structure DecOk(s:Sq)(p:Pi)(pa fu fi:Fm)(b:Bool)(A B:Nat):Prop where
 hv:zP s p=true
 hb:b=true->p.st≠3
 ra:1<=A/\A<=4
 rb:1<=B/\B<=4
 w:s.w=((16 * A:Nat):Int)
 g:hgt s p=((16 * B:Nat):Int)
 r:zaq s p=(B:Int)
 h3:p.st=3->s.h=((16 * B:Nat):Int)
 h4:p.st≠3->s.h=((32 * B:Nat):Int)/\s.il=true
 st:1<=p.st/\p.st<=3
 ty:1<=p.ty/\p.ty<=3
 mp:mOr pa s.w s.h=true
 mf:mOr fu s.w s.h=true
 mi:mOr fi s.w (s.h.tdiv 2)=true
 zp:p.ty≠1->pa.w≠0
 zf:p.ty=3->fu.w≠0
 zi:p.ty=2->b=true->fi.w≠0
theorem DecOk.of{s:Sq}{p:Pi}{pa fu fi:Fm}{b:Bool}(h:zgz s p pa fu fi b=0):∃ A B,DecOk s p pa fu fi b A B:=by
 unfold zgz at h;split at h
 .rename_i hc;simp only[qA]at hc;obtain⟨hf,m1,m2,m3⟩:=hc;unfold zci at hf;rw[qA]at hf;obtain⟨hv,hb⟩:=hf;obtain⟨A,B,a1,b1,ew,eh,er,e3,e4,st,ty⟩:=zqw hv;split at h
  .cases h
  rename_i hn;simp only[Bool.or_eq_true,qA,Bool.not_eq_true',decide_eq_true_eq,decide_eq_false_iff_not]at hn;refine⟨A,B,hv,λe=> ?_,a1,b1,ew,eh,er,e3,e4,st,ty,m1,m2,m3,λe1 e2=>hn (.inl ⟨e1,e2⟩),λe1 e2=>hn (.inr (.inl ⟨e1,e2⟩)),λe1 e2 e3=>hn (.inr (.inr ⟨e1,e2,e3⟩))⟩;simp_all
 .cases h
theorem DecOk.vc{s:Sq}{p:Pi}{pa fu fi:Fm}{b:Bool}{A B:Nat}(h:DecOk s p pa fu fi b A B):vcx (cxP s p b)=true:=by
 unfold vcx cxP;have:=h.st;have:=h.ty;simp only[qA,decide_eq_true_eq];refine⟨om,om,om,om,?_⟩;split
 .rename_i h3;cases b with
  | false=>rfl
  | true=>exact absurd h3 (h.hb rfl)
 .rename_i h3;exact(h.h4 h3).2
theorem zkq{s:Sq}{p:Pi}{pa fu fi f:Fm}{b:Bool}{A B:Nat}(h:DecOk s p pa fu fi b A B)(hm:mOr f s.w s.h=true)(hz:f.w≠0){sel:Int}(hs:sel=0\/sel=1):(lastF f (!(fcx (cxP s p b))) sel).2=0/\Gok A B (lastF f (!(fcx (cxP s p b))) sel).1:=by
 obtain⟨g1,g2,g3⟩:=zej hm hz;obtain⟨v1,v2⟩:=zjV h.hv g1 g2 g3;have ew:=h.w;by_cases h3:p.st=3
 .have hf:fcx (cxP s p b)=false:=by unfold fcx cxP;simp[h3]
  unfold lastF;rw[hf,if_neg hz,v1,if_neg sp,if_pos (by rfl)];exact⟨rfl,(zkl h.ra h.rb g1 om (by have:=h.h3 h3;omega):Gok A B f)⟩
 .have hf:fcx (cxP s p b)=true:=by unfold fcx cxP;simp[h3]
  have e4:=(h.h4 h3).1;unfold lastF;rw[hf,if_neg hz,v1,if_neg (by simp[v2 h3]),if_neg sp];exact⟨rfl,zi0 h.ra h.rb v1 om om hs⟩
theorem ztb{s:Sq}{p:Pi}{pa fu fi:Fm}{b:Bool}{A B:Nat}(h:DecOk s p pa fu fi b A B){d sel:Int}(hd:(d=0/\p.ty≠1)\/(d=1/\p.ty=3))(hs:sel=0\/sel=1):(refS (cxP s p b) pa fu fi d sel).2=0/\Gok A B (refS (cxP s p b) pa fu fi d sel).1:=by
 have hbad:zdL (cxP s p b) d sel=false:=by unfold zdL;rw[h.vc];grind
 unfold refS;rw[hbad,if_neg sp];unfold zcb;rcases hd with⟨rfl,ht⟩|⟨rfl,ht⟩
 .rw[if_neg om];split
  .rename_i hc;simp only[qA,decide_eq_true_eq]at hc;obtain⟨hb,ht2,_⟩:=hc;have hb':b=true:=hb;have hz:=h.zi ht2 hb';obtain⟨g1,g2,g3⟩:=zej h.mi hz;have e4:=(h.h4 (h.hb hb')).1;have ew:=h.w;have gg:=zkl h.ra h.rb g1 om (by rw[g3,zE _ _ om];omega);show(lastF fi true sel).2=0/\Gok A B (lastF fi true sel).1;unfold lastF;rw[if_neg hz,gg.fvd,if_neg sp,if_pos rfl];simp_all
  .exact zkq h h.mp (h.zp ht) hs
 .rw[if_pos rfl];exact zkq h h.mf (h.zf ht) hs
theorem zft{s:Sq}{p:Pi}{pa fu fi:Fm}{b:Bool}{A B:Nat}(h:DecOk s p pa fu fi b A B){d:Int}(hd:(d=0/\p.ty≠1)\/(d=1/\p.ty=3)){fp:Bool}{va vb vc vd sa sb:Int}(hs:sa=0\/sa=1)(hv:vrg va vb=true)(hfp:fp=true->bcx (cxP s p b)=true){X Y:Nat}(hX:X<A)(hY:Y<B):
  (dirP (cxP s p b) fp va vb vc vd sa sb pa fu fi d (X:Int) (Y:Int)).2=0:=by
 obtain⟨e1,g⟩:=ztb h hd hs;unfold dirP;rw[if_neg (by rw[e1];simp)];generalize (refS (cxP s p b) pa fu fi d sa).1=f at g;cases fp with
 | true=>
  rw[if_pos rfl];have hb:=hfp rfl;unfold bcx cxP at hb;simp only[qA,decide_eq_true_eq]at hb;have h32:=zxr h.hv hb.1;have e3:=h.h3 hb.2;unfold fldS;rw[g.has hX hY,qD,if_pos (by rw[decide_eq_true_eq,g.h];omega)]
 | false=>rw[if_neg sp];have hfv:=g.fvd;unfold fvd at hfv;rw[qA]at hfv;unfold prdS;rw[hfv.1,qD,if_pos (by simp only[qA,decide_eq_true_eq];have:=g.w;have:=g.h;omega),hv,if_pos rfl]
theorem zgN{s:Sq}{p:Pi}{pa fu fi:Fm}{b:Bool}{A B:Nat}(h:DecOk s p pa fu fi b A B){m:Mb}(hm:fmS (cxP s p b) m=true)(al:Bool){q:Int}(hq:1<=q/\q<=31){X Y:Nat}(hX:X<A)(hY:Y<B):
  (zdk (cxP s p b) s.ia s.ie al q m pa fu fi (X:Int) (Y:Int)).2=0:=by
 have hmx:zaU s.ia=true/\zaU s.ie=true:=by have:=h.hv;simp_all[zP,zcT,qA]
 have hq':qnB q=true:=by unfold qnB;simp[hq]
 have hpr:m.k≠1->(prS (cxP s p b) (if m.k=0 then stl (cxP s p b)else m) pa fu fi (X:Int) (Y:Int)).2=0:=λhk=>by
  have key:∀ M:Mb,(M.ua=true->zbM (cxP s p b) M.fp true M.va M.vb M.vc M.vd M.sa M.sb=true\/(M.fp=false/\vrg M.va M.vb=true/\(M.sa=0\/M.sa=1)))->(M.ub=true->p.ty=3/\(zbM (cxP s p b) M.fp true M.ve M.vf M.vg M.vh M.sc M.sd=true\/(M.fp=false/\vrg M.ve M.vf=true/\(M.sc=0\/M.sc=1))))->(M.fp=true->bcx (cxP s p b)=true)->p.ty≠1->(M.ua=true\/M.ub=true)->(prS (cxP s p b) M pa fu fi (X:Int) (Y:Int)).2=0:=λM h0 h1 hf ht hu=>by
   have r0:M.ua=true->(zgy (cxP s p b) M pa fu fi (X:Int) (Y:Int)).2=0:=λe=>by
    unfold zgy;rcases h0 e with hh|⟨_,hv,hs⟩
    .obtain⟨q1,_,q3⟩:=zj7 hh;grind[zft]
    grind[zft]
   have r1:M.ub=true->(zeS (cxP s p b) M pa fu fi (X:Int) (Y:Int)).2=0:=λe=>by
    unfold zeS;obtain⟨t3,hh⟩:=h1 e;rcases hh with hh|⟨_,hv,hs⟩
    .obtain⟨q1,_,q3⟩:=zj7 hh;grind[zft]
    grind[zft]
   grind[prS]
  by_cases h0:m.k=0
  .rw[if_pos h0];have ht:p.ty≠1:=by unfold fmS at hm;rw[qA,if_pos h0,qA]at hm;grind[cxP]
   have hp:pcx (cxP s p b)=0\/pcx (cxP s p b)=1:=by unfold pcx;split<;>simp
   exact key (stl (cxP s p b)) (λ_=>.inr ⟨rfl,(show vrg 0 0=true by decide),hp⟩) (λe=>by
    have e3:p.ty=3:=by have:decide ((cxP s p b).t=3)=true:=e;exact of_decide_eq_true this
    refine⟨e3,.inr ⟨rfl,(show vrg 0 0=true by decide),?_⟩⟩;show(if(cxP s p b).t=3 then pcx (cxP s p b)else 0)=0\/(if(cxP s p b).t=3 then pcx (cxP s p b)else 0)=1;split
    .exact hp
    .exact .inl rfl) (λe=>by cases e) ht (.inl rfl)
  .rw[if_neg h0];have hk2:m.k=2:=by rcases zo5 hm with h|h|h<;>omega
   have hh:=hm;unfold fmS at hh;rw[qA,if_neg om,if_neg om,if_pos hk2]at hh;have h2:=hh.2;unfold zfk at h2;simp only[qA,Bool.not_eq_true',qB]at h2;obtain⟨⟨ht,hu⟩,⟨hfp,_⟩,d0,d1,_⟩:=h2;have ht1:p.ty≠1:=by unfold cxP at ht;simpa using ht
   refine key m (λe=> ?_) (λe=>⟨?_,?_⟩) (λe=> ?_) ht1 ?_
   .simp_all[d0S]
   .unfold zfH at hu;simp only[qB,Bool.and_eq_false_iff,decide_eq_false_iff_not]at hu;have h2':p.ty≠2:=by
     rcases hu.1 with h|h
     .exact h
     simp_all
    have:=h.ty;omega
   .simp_all[d1S,d1]
   all_goals grind[zfH,qB]
 unfold zdk;rw[if_pos (by rw[hm,hmx.1,hmx.2,hq'];rfl)];by_cases hk:m.k=1
 .rw[if_pos hk]
 .rw[if_neg hk,if_neg (by rw[hpr hk];simp)]
end Go.Proofs.YtdajpjenhcobkaaGreatDoor.Sc
