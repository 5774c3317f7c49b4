/-
  Parts of the proof, put together in one text. No condition.
-/
import Derived.Test.YtjgmdlcjbgiekaaGreatDoorQ38
namespace Go.Proofs.YtjgmdlcjbgiekaaGreatDoor.Sc
set_option linter.all false
open Pm Ty Go.RowKit
theorem zv7 {s:Sq} {p:Pi} (hv:zL s p=true) (hi:s.il=true):s.h%32=0:=by
 have hr:=zba hv
 unfold zL at hv
 simp only [Bool.and_eq_true,Bool.or_eq_true,beq_iff_eq] at hv
 obtain ⟨⟨hq,hc⟩,_⟩:=hv
 unfold zbM vsz at hq
 simp only [Bool.and_eq_true,Bool.or_eq_true,beq_iff_eq,Bool.not_eq_true'] at hq
 rcases hq.1.2 with h|h
 ·rw [hi] at h;cases h
 ·rw [←zV _ _ (by omega)];exact h
theorem zi3 {A B:Nat} {f:Fm} (hA:1≤A∧A≤4) (hB:1≤B∧B≤4) (hf:fmd f=true) (hw:f.w=((16 * A:Nat):Int)) (hh:f.h=((16 * B:Nat):Int)):Gok A B f:=by
 have hv:fvd f=true:=by
  unfold fvd
  rw [hf,Bool.true_and]
  simp only [Bool.and_eq_true,decide_eq_true_eq]
  omega
 obtain ⟨A',B',g⟩:=Gok.of hv
 have e1:A'=A:=by have:=g.w;omega
 have e2:B'=B:=by have:=g.h;omega
 subst e1 e2;exact g
theorem zhQ {A B:Nat} {f:Fm} (hA:1≤A∧A≤4) (hB:1≤B∧B≤4) (hv:fvd f=true) (hw:f.w=((16 * A:Nat):Int)) (hh:f.h=((32 * B:Nat):Int)) {s:Int} (hs:s=0∨s=1):Gok A B (fieldOf f s):=by
 obtain ⟨w,ht,y,u,v⟩:=f
 simp only at hw hh
 obtain ⟨V,K,e1,e2,hok⟩:=zdJ hv (by show ht%32=0;omega)
 subst e1 e2
 obtain ⟨P,hP,rfl⟩:∃ P:Nat,P≤1∧s=(P:Int):=by
  rcases hs with e|e
  ·exact ⟨0,by omega,by omega⟩
  ·exact ⟨1,by omega,by omega⟩
 have e3:=zaN V K P y u v
 unfold fr4 at e3
 rw [e3]
 have h1:=zmm hok hP
 exact zi3 hA hB h1.fmd (by have:=h1.w;omega) (by have:=h1.h;omega)
theorem zit {f:Fm} {w h:Int} (hm:mOr f w h=true) (hz:f.w≠0):fmd f=true∧f.w=w∧f.h=h:=by
 unfold mOr at hm
 simpa [hz] using hm
structure DecOk (s:Sq) (p:Pi) (pa fu fi:Fm) (b:Bool) (A B:Nat):Prop where
 hv:zL s p=true
 hb:b=true→p.st≠3
 ra:1≤A∧A≤4
 rb:1≤B∧B≤4
 w:s.w=((16 * A:Nat):Int)
 g:hgt s p=((16 * B:Nat):Int)
 r:za2 s p=(B:Int)
 h3:p.st=3→s.h=((16 * B:Nat):Int)
 h4:p.st≠3→s.h=((32 * B:Nat):Int)∧s.il=true
 st:1≤p.st∧p.st≤3
 ty:1≤p.ty∧p.ty≤3
 mp:mOr pa s.w s.h=true
 mf:mOr fu s.w s.h=true
 mi:mOr fi s.w (s.h.tdiv 2)=true
 zp:p.ty≠1→pa.w≠0
 zf:p.ty=3→fu.w≠0
 zi:p.ty=2→b=true→fi.w≠0
theorem DecOk.of {s:Sq} {p:Pi} {pa fu fi:Fm} {b:Bool} (h:ziM s p pa fu fi b=0):∃ A B,DecOk s p pa fu fi b A B:=by
 unfold ziM at h
 split at h
 ·rename_i hc
  simp only [Bool.and_eq_true] at hc
  obtain ⟨hf,m1,m2,m3⟩:=hc
  unfold zfb at hf
  rw [Bool.and_eq_true] at hf
  obtain ⟨hv,hb⟩:=hf
  obtain ⟨A,B,a1,b1,ew,eh,er,e3,e4,st,ty⟩:=zoS hv
  split at h
  ·cases h
  rename_i hn
  simp only [Bool.or_eq_true,Bool.and_eq_true,Bool.not_eq_true',decide_eq_true_eq,decide_eq_false_iff_not] at hn
  refine ⟨A,B,hv,fun e=> ?_,a1,b1,ew,eh,er,e3,e4,st,ty,m1,m2,m3,fun e1 e2=>hn (.inl ⟨e1,e2⟩),fun e1 e2=>hn (.inr (.inl ⟨e1,e2⟩)),fun e1 e2 e3=>hn (.inr (.inr ⟨e1,e2,e3⟩))⟩
  rw [e] at hb
  simpa using hb
 ·cases h
theorem DecOk.vc {s:Sq} {p:Pi} {pa fu fi:Fm} {b:Bool} {A B:Nat} (h:DecOk s p pa fu fi b A B):vcx (cxP s p b)=true:=by
 unfold vcx cxP
 have:=h.st
 have:=h.ty
 simp only [Bool.and_eq_true,decide_eq_true_eq]
 refine ⟨by omega,by omega,by omega,by omega,?_⟩
 split
 ·rename_i h3
  cases b with
  | false=>rfl
  | true=>exact absurd h3 (h.hb rfl)
 ·rename_i h3
  exact (h.h4 h3).2
theorem zi8 {s:Sq} {p:Pi} {pa fu fi f:Fm} {b:Bool} {A B:Nat} (h:DecOk s p pa fu fi b A B) (hm:mOr f s.w s.h=true) (hz:f.w≠0) {sel:Int} (hs:sel=0∨sel=1):(lastF f (!(fcx (cxP s p b))) sel).2=0∧Gok A B (lastF f (!(fcx (cxP s p b))) sel).1:=by
 obtain ⟨g1,g2,g3⟩:=zit hm hz
 obtain ⟨v1,v2⟩:=zla h.hv g1 g2 g3
 have ew:=h.w
 by_cases h3:p.st=3
 ·have hf:fcx (cxP s p b)=false:=by unfold fcx cxP;simp [h3]
  unfold lastF
  rw [hf,if_neg hz,v1,if_neg (by simp),if_pos (by rfl)]
  exact ⟨rfl,(zi3 h.ra h.rb g1 (by omega) (by have:=h.h3 h3;omega):Gok A B f)⟩
 ·have hf:fcx (cxP s p b)=true:=by unfold fcx cxP;simp [h3]
  have e4:=(h.h4 h3).1
  unfold lastF
  rw [hf,if_neg hz,v1,if_neg (by simp [v2 h3]),if_neg (by simp)]
  exact ⟨rfl,zhQ h.ra h.rb v1 (by omega) (by omega) hs⟩
theorem zrm {s:Sq} {p:Pi} {pa fu fi:Fm} {b:Bool} {A B:Nat} (h:DecOk s p pa fu fi b A B) {d sel:Int} (hd:(d=0∧p.ty≠1)∨(d=1∧p.ty=3)) (hs:sel=0∨sel=1):(refS (cxP s p b) pa fu fi d sel).2=0∧Gok A B (refS (cxP s p b) pa fu fi d sel).1:=by
 have hbad:ziU (cxP s p b) d sel=false:=by
  unfold ziU
  rw [h.vc]
  have h1:d=0∨d=1:=by rcases hd with h|h;exact .inl h.1;exact .inr h.1
  rcases h1 with rfl|rfl<;>rcases hs with rfl|rfl<;>simp
 unfold refS
 rw [hbad,if_neg (by simp)]
 unfold zdj
 rcases hd with ⟨rfl,ht⟩|⟨rfl,ht⟩
 ·rw [if_neg (by omega)]
  split
  ·rename_i hc
   simp only [Bool.and_eq_true,decide_eq_true_eq] at hc
   obtain ⟨hb,ht2,_⟩:=hc
   have hb':b=true:=hb
   have hz:=h.zi ht2 hb'
   obtain ⟨g1,g2,g3⟩:=zit h.mi hz
   have e4:=(h.h4 (h.hb hb')).1
   have ew:=h.w
   have gg:=zi3 h.ra h.rb g1 (by omega) (by rw [g3,zx _ _ (by omega)];omega)
   show (lastF fi true sel).2=0∧Gok A B (lastF fi true sel).1
   unfold lastF
   rw [if_neg hz,gg.fvd,if_neg (by simp),if_pos rfl]
   exact ⟨rfl,gg⟩
  ·exact zi8 h h.mp (h.zp ht) hs
 ·rw [if_pos rfl]
  exact zi8 h h.mf (h.zf ht) hs
theorem zeC {s:Sq} {p:Pi} {pa fu fi:Fm} {b:Bool} {A B:Nat} (h:DecOk s p pa fu fi b A B) {d:Int} (hd:(d=0∧p.ty≠1)∨(d=1∧p.ty=3)) {fp:Bool} {va vb vc vd sa sb:Int} (hs:sa=0∨sa=1) (hv:vrg va vb=true) (hfp:fp=true→bcx (cxP s p b)=true) {X Y:Nat} (hX:X<A) (hY:Y<B):
  (dirP (cxP s p b) fp va vb vc vd sa sb pa fu fi d (X:Int) (Y:Int)).2=0:=by
 obtain ⟨e1,g⟩:=zrm h hd hs
 unfold dirP
 rw [if_neg (by rw [e1];simp)]
 generalize (refS (cxP s p b) pa fu fi d sa).1=f at g
 cases fp with
 | true=>
  rw [if_pos rfl]
  have hb:=hfp rfl
  unfold bcx cxP at hb
  simp only [Bool.and_eq_true,decide_eq_true_eq] at hb
  have h32:=zv7 h.hv hb.1
  have e3:=h.h3 hb.2
  unfold fldS
  rw [g.has hX hY,Bool.true_and,if_pos (by rw [decide_eq_true_eq,g.h];omega)]
 | false=>
  rw [if_neg (by simp)]
  have hfv:=g.fvd
  unfold fvd at hfv
  rw [Bool.and_eq_true] at hfv
  unfold prdS
  rw [hfv.1,Bool.true_and,if_pos (by simp only [Bool.and_eq_true,decide_eq_true_eq];have:=g.w;have:=g.h;omega),hv,if_pos rfl]
theorem zlU {s:Sq} {p:Pi} {pa fu fi:Fm} {b:Bool} {A B:Nat} (h:DecOk s p pa fu fi b A B) {m:Mb} (hm:fmS (cxP s p b) m=true) (al:Bool) {q:Int} (hq:1≤q∧q≤31) {X Y:Nat} (hX:X<A) (hY:Y<B):
  (zgt (cxP s p b) s.ia s.ie al q m pa fu fi (X:Int) (Y:Int)).2=0:=by
 have hmx:zbH s.ia=true∧zbH s.ie=true:=by
  have:=h.hv
  unfold zL zbM at this
  simp only [Bool.and_eq_true] at this
  exact this.1.1.2.2.2.2
 have hq':qnB q=true:=by unfold qnB;simp [hq]
 have hpr:m.k≠1→(prS (cxP s p b) (if m.k=0 then stl (cxP s p b) else m) pa fu fi (X:Int) (Y:Int)).2=0:=fun hk=>by
  have key:∀ M:Mb,(M.ua=true→zch (cxP s p b) M.fp true M.va M.vb M.vc M.vd M.sa M.sb=true∨(M.fp=false∧vrg M.va M.vb=true∧(M.sa=0∨M.sa=1)))→(M.ub=true→p.ty=3∧(zch (cxP s p b) M.fp true M.ve M.vf M.vg M.vh M.sc M.sd=true∨(M.fp=false∧vrg M.ve M.vf=true∧(M.sc=0∨M.sc=1))))→(M.fp=true→bcx (cxP s p b)=true)→p.ty≠1→(M.ua=true∨M.ub=true)→(prS (cxP s p b) M pa fu fi (X:Int) (Y:Int)).2=0:=fun M h0 h1 hf ht hu=>by
   have r0:M.ua=true→(zhn (cxP s p b) M pa fu fi (X:Int) (Y:Int)).2=0:=fun e=>by
    unfold zhn
    rcases h0 e with hh|⟨_,hv,hs⟩
    ·obtain ⟨q1,_,q3⟩:=ziJ hh
     exact zeC h (.inl ⟨rfl,ht⟩) q1 (q3 rfl).1 hf hX hY
    ·exact zeC h (.inl ⟨rfl,ht⟩) hs hv hf hX hY
   have r1:M.ub=true→(zfF (cxP s p b) M pa fu fi (X:Int) (Y:Int)).2=0:=fun e=>by
    unfold zfF
    obtain ⟨t3,hh⟩:=h1 e
    rcases hh with hh|⟨_,hv,hs⟩
    ·obtain ⟨q1,_,q3⟩:=ziJ hh
     exact zeC h (.inr ⟨rfl,t3⟩) q1 (q3 rfl).1 hf hX hY
    ·exact zeC h (.inr ⟨rfl,t3⟩) hs hv hf hX hY
   unfold prS
   cases ha:M.ua with
   | true=>
    rw [if_pos rfl,if_neg (by rw [r0 ha];simp)]
    cases hb:M.ub with
    | true=>rw [if_pos rfl,if_neg (by rw [r1 hb];simp)]
    | false=>rw [if_neg (by simp)];exact r0 ha
   | false=>
    rw [if_neg (by simp)]
    rcases hu with e|e
    ·rw [ha] at e;cases e
    ·exact r1 e
  by_cases h0:m.k=0
  ·rw [if_pos h0]
   have ht:p.ty≠1:=by
    unfold fmS at hm
    rw [Bool.and_eq_true,if_pos h0,Bool.and_eq_true] at hm
    have:=hm.2.1
    unfold cxP at this
    simpa using this
   have hp:pcx (cxP s p b)=0∨pcx (cxP s p b)=1:=by unfold pcx;split<;>simp
   exact key (stl (cxP s p b)) (fun _=>.inr ⟨rfl,(show vrg 0 0=true by decide),hp⟩) (fun e=>by
    have e3:p.ty=3:=by
     have:decide ((cxP s p b).t=3)=true:=e
     exact of_decide_eq_true this
    refine ⟨e3,.inr ⟨rfl,(show vrg 0 0=true by decide),?_⟩⟩
    show (if (cxP s p b).t=3 then pcx (cxP s p b) else 0)=0∨(if (cxP s p b).t=3 then pcx (cxP s p b) else 0)=1
    split
    ·exact hp
    ·exact .inl rfl) (fun e=>by cases e) ht (.inl rfl)
  ·rw [if_neg h0]
   have hk2:m.k=2:=by rcases zuM hm with h|h|h<;>omega
   have hh:=hm
   unfold fmS at hh
   rw [Bool.and_eq_true,if_neg (by omega),if_neg (by omega),if_pos hk2] at hh
   have h2:=hh.2
   unfold ziy at h2
   simp only [Bool.and_eq_true,Bool.not_eq_true',Bool.or_eq_false_iff] at h2
   obtain ⟨⟨ht,hu⟩,⟨hfp,_⟩,d0,d1,_⟩:=h2
   have ht1:p.ty≠1:=by unfold cxP at ht;simpa using ht
   refine key m (fun e=> ?_) (fun e=>⟨?_,?_⟩) (fun e=> ?_) ht1 ?_
   ·unfold d0S at d0;rw [e] at d0;exact .inl d0
   ·unfold zgc at hu
    simp only [Bool.or_eq_false_iff,Bool.and_eq_false_iff,decide_eq_false_iff_not] at hu
    have h2':p.ty≠2:=by
     rcases hu.1 with h|h
     ·exact h
     ·rw [e] at h;simp at h
    have:=h.ty;omega
   ·unfold d1S at d1;rw [e] at d1;exact .inl d1
   ·rw [e] at hfp;simpa using hfp
   ·unfold zgc at hu
    simp only [Bool.or_eq_false_iff] at hu
    have:=hu.2
    cases ha:m.ua<;>cases hb:m.ub<;>simp_all
 unfold zgt
 rw [if_pos (by rw [hm,hmx.1,hmx.2,hq'];rfl)]
 by_cases hk:m.k=1
 ·rw [if_pos hk]
 ·rw [if_neg hk,if_neg (by rw [hpr hk];simp)]
theorem zgD (d:TypeDesc) (k a v:PV):∀ (xs:List PV) (i:Nat),zbP d k (xs++[.tup [a,v]]) i=match zbP d k xs i with
  | some (some r)=>some (some r)
  | some none=>(match zcR d k a with|some true=>some (some (i+xs.length,v))|some false=>some none|none=>none)
  | none=>none
 | [],i=>by
  simp only [List.nil_append,zbP,List.length_nil,Nat.add_zero]
  cases zcR d k a with
  | none=>rfl
  | some t=>cases t<;>rfl
 | x::r,i=>by
  rw [List.cons_append]
  have ih:=zgD d k a v r (i+1)
  match x with
  | .tup [b,u]=>
   simp only [zbP]
   cases zcR d k b with
   | none=>rfl
   | some t=>
    cases t with
    | true=>rfl
    | false=>
     dsimp only
     rw [ih,show i+1+r.length=i+(.tup [b,u]::r:List PV).length by simp;omega]
  | .tup []=>rfl
  | .tup [_]=>rfl
  | .tup (_::_::_::_)=>rfl
  | .int _ _=>rfl
  | .bool _=>rfl
  | .str _=>rfl
  | .nilp=>rfl
  | .nl _=>rfl
  | .undef=>rfl
  | .ptr _ _ _=>rfl
  | .ip _ _=>rfl
  | .slice _ _ _=>rfl
  | .msl _ _ _ _ _ _=>rfl
  | .mp _ _=>rfl
  | .agg _=>rfl
  | .func _ _ _=>rfl
  | .yl _ _ _=>rfl
  | .lp _ _=>rfl
theorem znD:zrT Tryz.prog 3=some (.int .i64 0):=by kernel_rfl
def zh5:Nat→List PV
 | 0=>[]
 | i+1=>zh5 i++[.tup [.int .i64 (1+(i:Int)),.int .i64 (i:Int)]]
theorem zeU (t:Int):∀ r:Nat,((1≤t∧t<1+(r:Int))→∃ p,zbP (.int .i64) (.int .i64 t) (zh5 r) 0=some (some (p,.int .i64 (t - 1))))∧(¬(1≤t∧t<1+(r:Int))→zbP (.int .i64) (.int .i64 t) (zh5 r) 0=some none)
 | 0=>⟨fun h=>by omega,fun _=>rfl⟩
 | r+1=>by
  obtain ⟨ih1,ih2⟩:=zeU t r
  rw [zh5,zgD]
  by_cases h:1≤t∧t<1+(r:Int)
  ·obtain ⟨p,hp⟩:=ih1 h
   rw [hp]
   exact ⟨fun _=>⟨p,rfl⟩,fun h2=>by omega⟩
  ·rw [ih2 h]
   by_cases h2:t=1+(r:Int)
   ·have:zcR (.int .i64) (.int .i64 t) (.int .i64 (1+(r:Int)))=some true:=by simp [zcR,h2]
    rw [this]
    refine ⟨fun _=>⟨0+(zh5 r).length,?_⟩,fun h3=>by omega⟩
    dsimp only
    rw [show t - 1=(r:Int) by omega]
   ·have:zcR (.int .i64) (.int .i64 t) (.int .i64 (1+(r:Int)))=some false:=by simp [zcR,h2]
    rw [this]
    exact ⟨fun h3=>by omega,fun _=>rfl⟩
def mpB (r:Nat):Blk:=⟨139,0,zh5 r⟩
set_option maxHeartbeats 2000000 in
theorem zt3 (r:Nat) (H:za) (hr:r≤1000):CallOk Tryz.prog 72 [.int .i64 (r:Int)] H (.mp H.length 0) (H++[mpB r]):=by
 refine CallOk.body (F0:=[(0,.int .i64 (r:Int))]) Tryz.func72 rfl Tryz.ntmps72 Tryz.results72 rfl (by kernel_rfl) rfl ?_
 refine PW.e ?_
 refine PW.e ?_
 refine PW.e ?_
 (repeat refine PW.seq ?_);refine PW.block (PW.loop ?_)
 suffices hl1:∀ j:Nat,j≤r→PL Tryz.prog _ _ [(3,.mp H.length 0),(6,.int .i64 (r:Int)),(7,.int .i64 (j:Int))] (H++[⟨139,0,zh5 j⟩]) _ by
  exact PL.at [3,6,7] (hl1 0 (by omega)) rfl rfl
 intro j hj
 induction hd:r - j using Nat.strongRecOn generalizing j with
 | _ d ih=>
  refine PL.round ?_;refine PW.e ?_
  (repeat refine PW.seq ?_);refine PW.cond (t:=_) rfl (fun h=> ?_) (fun h=> ?_)
  ·have hjr:j<r:=by have:=of_decide_eq_true h;omega
   have hp:=(zeU (1+(j:Int)) j).2 (by omega)
   refine PW.skip ?_;(repeat refine PW.seq ?_);refine PW.block ?_
   refine PW.e ?_
   refine PW.f (fun K k=>by simp (disch:=omega) only [go_sem,↓reduceIte,reduceCtorEq,hp,zc6,zap,zcw];exact k) ?_
   refine PW.e ?_
   exact PL.at [3,6,7] (ih (r - (j+1)) (by omega) (j+1) (by omega) rfl) rfl rfl
  ·have hjr:j=r:=by have:=of_decide_eq_false h;omega
   subst hjr
   refine PW.exit ?_
   refine PW.e ?_
   refine PW.ret ⟨.mp H.length 0,by simp (disch:=omega) only [go_sem,↓reduceIte,reduceCtorEq,zd,zg,List.mapM_cons,List.mapM_nil,Option.pure_def,Option.bind_eq_bind,Option.bind_some,Array.toList],?_⟩
   exact Fin.now
def fnu:List (Int×List UInt8)→Nat→Option (Int×List UInt8)
 | [],_=>none
 | u::r,k=>if u.1=1+(k:Int) then some u else fnu r k
theorem zmk:∀ {us:List (Int×List UInt8)} {k:Nat} {u:Int×List UInt8},fnu us k=some u→u∈us∧u.1=1+(k:Int)
 | x::r,k,u,h=>by
  unfold fnu at h
  split at h
  ·injection h with h
   rw [←h]
   exact ⟨List.mem_cons_self ..,by assumption⟩
  ·have:=zmk h
   exact ⟨List.mem_cons_of_mem _ this.1,this.2⟩
theorem zp2 (us:List (Int×List UInt8)) (j k:Nat) (hj:j<us.length):fnu (us.drop j) k=if us[j].1=1+(k:Int) then some us[j] else fnu (us.drop (j+1)) k:=by
 rw [List.drop_eq_getElem_cons hj];rfl
def cuV:Option (Int×List UInt8)→PV
 | none=>.tup [.agg [.int .i64 0,.slice [] 0 true],.bool false]
 | some u=>.tup [.agg [.int .i64 u.1,.slice (bs u.2) u.2.length false],.bool true]
theorem zqq (n:Nat):∀ o,Scoped n (cuV o)
 | none=>.tup (zaw fun x hx=>by
   simp only [List.mem_cons,List.not_mem_nil,or_false] at hx
   rcases hx with rfl|rfl
   ·exact .agg (zaw fun x hx=>by
     simp only [List.mem_cons,List.not_mem_nil,or_false] at hx
     rcases hx with rfl|rfl
     ·exact .int _ _
     ·exact zo (fun x hx=>by cases hx))
   ·exact .bool _)
 | some u=>.tup (zaw fun x hx=>by
   simp only [List.mem_cons,List.not_mem_nil,or_false] at hx
   rcases hx with rfl|rfl
   ·exact .agg (zaw fun x hx=>by
     simp only [List.mem_cons,List.not_mem_nil,or_false] at hx
     rcases hx with rfl|rfl
     ·exact .int _ _
     ·exact zo (zq _ _))
   ·exact .bool _)
set_option maxHeartbeats 4000000 in
theorem zqs (p:Pi) (U:List (List UInt8)) (us:List (Int×List UInt8)) (i r k:Nat) (H:za) (hi:H[i]? =some (mpB r)) (hk:k<r) (hu:us.length≤1000000):
  CallOk Tryz.prog 73 [.agg (cdc p U us),.mp i 0,.int .i64 (k:Int)] H (cuV (fnu us k)) H:=by
 have h1:=zg7 p U us
 have h7:=ztp p U us
 have h8:=zf1 p U us
 have ul:=znO us
 have il:=(List.getElem?_eq_some_iff.1 hi).1
 unfold mpB at hi
 have gi:∀ K,(H++K)[i]? =some ⟨139,0,zh5 r⟩:=fun K=>by rw [List.getElem?_append_left il];exact hi
 have hsc:HSc H→HSc (H++[⟨39,0,cdc p U us⟩,⟨61,0,[.int .i64 0,.slice [] 0 true]⟩]):=ziA (fun b hb x hx=>by
  simp only [List.mem_cons,List.not_mem_nil,or_false] at hb
  rcases hb with rfl|rfl
  ·exact ziQ _ _ _ _ x hx
  ·simp only [List.mem_cons,List.not_mem_nil,or_false] at hx
   rcases hx with rfl|rfl
   ·exact .int _ _
   ·exact zo (fun x hx=>by cases hx))
 have fz:∀ (j:Nat) (F:Fr) (K:za),slot F 1= .mp i 0→slot F 2= .int .i64 (k:Int)→slot F 6= .ptr (H.length+1) 0 0→slot F 13= .slice (uq us) us.length false→slot F 14= .int .i64 (us.length:Int)→slot F 15= .int .i64 (j:Int)→FzF (H++[⟨39,0,cdc p U us⟩,⟨61,0,[.int .i64 0,.slice [] 0 true]⟩]:za).length K F [(1,.mp i 0),(2,.int .i64 (k:Int)),(6,.ptr (H.length+1) 0 0),(13,.slice (uq us) us.length false),(14,.int .i64 (us.length:Int)),(15,.int .i64 (j:Int))]:=fun j F K q1 q2 q3 q4 q5 q6=>by
  refine ⟨?_,?_,?_,?_,?_,?_,trivial⟩
  ·rw [q1];exact .id (.mp (by simp;omega))
  ·rw [q2];exact .id (.int _ _)
  ·rw [q3];exact .id (.ptr (by simp))
  ·rw [q4];exact .id (zo (zsX _ _))
  ·rw [q5];exact .id (.int _ _)
  ·rw [q6];exact .id (.int _ _)
 refine CallOk.body (F0:=[(0,.agg (cdc p U us)),(1,.mp i 0),(2,.int .i64 (k:Int))]) Tryz.func73 rfl Tryz.ntmps73 Tryz.results73 rfl (by kernel_rfl) rfl ?_
 refine PW.f (fun K k=>by simp (disch:=omega) only [go_sem,↓reduceIte,reduceCtorEq,h1];exact k) ?_
 refine PW.f (fun K k=>by simp (disch:=omega) only [go_sem,↓reduceIte,reduceCtorEq,h7,h8];exact k) ?_
 (repeat refine PW.seq ?_);refine PW.block (PW.loop ?_)
 suffices hl1:∀ j:Nat,j≤us.length→fnu (us.drop j) k=fnu us k→PL Tryz.prog _ _ [(1,.mp i 0),(2,.int .i64 (k:Int)),(6,.ptr (H.length+1) 0 0),(13,.slice (uq us) us.length false),(14,.int .i64 (us.length:Int)),(15,.int .i64 (j:Int))] (H++[⟨39,0,cdc p U us⟩,⟨61,0,[.int .i64 0,.slice [] 0 true]⟩]) _ by
  exact PL.at [1,2,6,13,14,15] (hl1 0 (by omega) rfl) rfl rfl
 intro j hj hf
 induction hd:us.length - j using Nat.strongRecOn generalizing j with
 | _ d ih=>
  refine PL.round ?_;refine PW.e ?_
  (repeat refine PW.seq ?_);refine PW.cond (t:=_) rfl (fun h=> ?_) (fun h=> ?_)
  ·have hjr:j<us.length:=by have:=of_decide_eq_true h;omega
   have ua:=zvu us j hjr
   rw [zp2 us j k hjr] at hf
   generalize us[j]=u at *
   obtain ⟨t,q⟩:=u
   simp only [uq1] at ua
   dsimp only at hf
   refine PW.skip ?_;(repeat refine PW.seq ?_);refine PW.block ?_
   refine PW.f (fun K k=>by simp (disch:=omega) only [go_sem,↓reduceIte,reduceCtorEq,ua,ul];exact k) ?_
   obtain ⟨m1,m2⟩:=zeU t r
   have done:∀ F,slot F 6= .ptr (H.length+1) 0 0→True:=fun _ _=>trivial
   by_cases hin:1≤t∧t<1+(r:Int)
   ·obtain ⟨pp,hp⟩:=m1 hin
    refine PW.f (fun K k=>by simp (disch:=omega) only [go_sem,↓reduceIte,reduceCtorEq,gi,hp,zc7,zap,zcw,znD];exact k) ?_
    by_cases htk:t=1+(k:Int)
    ·have d1:(t - 1==(k:Int))=true:=by rw [beq_iff_eq];omega
     rw [if_pos htk] at hf
     refine PW.f (fun K k=>by simp (disch:=omega) only [go_sem,↓reduceIte,reduceCtorEq,d1];exact k) ?_
     refine PW.t ?_
     refine PW.e ?_
     refine PW.ret ⟨cuV (some (t,q)),by simp (disch:=omega) only [go_sem,↓reduceIte,reduceCtorEq,zd,zg,List.mapM_cons,List.mapM_nil,Option.pure_def,Option.bind_eq_bind,Option.bind_some,Array.toList,cuV],?_⟩
     rw [←hf]
     exact Fin.base (.id (zqq _ _))
    ·have d1:(t - 1==(k:Int))=false:=by rw [beq_eq_false_iff_ne];omega
     rw [if_neg htk] at hf
     refine PW.f (fun K k=>by simp (disch:=omega) only [go_sem,↓reduceIte,reduceCtorEq,d1];exact k) ?_
     refine PW.us ?_
     refine PW.e ?_
     exact PL.view (Vs.trim (F1:=[(1,.mp i 0),(2,.int .i64 (k:Int)),(6,.ptr (H.length+1) 0 0),(13,.slice (uq us) us.length false),(14,.int .i64 (us.length:Int)),(15,.int .i64 ((j+1:Nat):Int))]) (H1:=H++[⟨39,0,cdc p U us⟩,⟨61,0,[.int .i64 0,.slice [] 0 true]⟩]) hsc (by simp) (List.append_assoc _ [_,_] [_]).symm (fz (j+1) _ _ rfl rfl rfl rfl rfl rfl)) (ih (us.length - (j+1)) (by omega) (j+1) (by omega) hf rfl)
   ·have hp:=m2 hin
    rw [if_neg (by omega)] at hf
    refine PW.f (fun K k=>by simp (disch:=omega) only [go_sem,↓reduceIte,reduceCtorEq,gi,hp,zc7,zap,zcw,znD];exact k) ?_
    refine PW.e ?_
    refine PW.us ?_
    refine PW.e ?_
    exact PL.view (Vs.trim (F1:=[(1,.mp i 0),(2,.int .i64 (k:Int)),(6,.ptr (H.length+1) 0 0),(13,.slice (uq us) us.length false),(14,.int .i64 (us.length:Int)),(15,.int .i64 ((j+1:Nat):Int))]) (H1:=H++[⟨39,0,cdc p U us⟩,⟨61,0,[.int .i64 0,.slice [] 0 true]⟩]) hsc (by simp) (List.append_assoc _ [_,_] [_]).symm (fz (j+1) _ _ rfl rfl rfl rfl rfl rfl)) (ih (us.length - (j+1)) (by omega) (j+1) (by omega) hf rfl)
  ·have hjr:j=us.length:=by have:=of_decide_eq_false h;omega
   subst hjr
   rw [List.drop_length] at hf
   refine PW.exit ?_
   refine PW.e ?_
   refine PW.ret ⟨cuV none,by simp (disch:=omega) only [go_sem,↓reduceIte,reduceCtorEq,zd,zg,List.mapM_cons,List.mapM_nil,Option.pure_def,Option.bind_eq_bind,Option.bind_some,Array.toList,cuV],?_⟩
   rw [←hf]
   exact Fin.base (.id (zqq _ _))
theorem zs4 {s:Sq} {p:Pi} {b:Bool} {t:Int} {q:List UInt8} {v:Nat} {l:List Mb} {a1:Nat} (h:slT s p b t q= .ok (v,l) a1):l.length≤4∧(∀ x∈l,x.lv.length=384)∧∀ x∈zks (v:Int) l,1≤x∧x≤31:=by
 unfold slT at h
 split at h
 ·rename_i hc
  rw [Bool.and_eq_true] at hc
  have hw:wmb s≤4:=by
   have hv:zL s p=true:=by
    have:=hc.1
    unfold zfb at this
    rw [Bool.and_eq_true] at this
    exact this.1
   have:=zba hv
   have e:=Int.tdiv_eq_ediv_of_nonneg (a:=s.w) (b:=16) (by omega)
   unfold wmb
   omega
  split at h
  ·cases h
  rename_i hb
  split at h
  ·cases h
  rename_i h5
  split at h
  ·cases h
  obtain ⟨z,a2,h1,h⟩:=Rr.bind_okE h
  split at h
  ·injection h with h _
   injection h with h3 h4
   subst h3 h4
   obtain ⟨e1,e2⟩:=zgm _ _ _ h1
   exact ⟨by omega,zoq _ _ _ h1 (by omega),e2⟩
  ·cases h
 ·cases h
theorem zlR (n:Nat):∀ r,∀ x∈zh5 r,Scoped n x
 | 0=>fun x hx=>by cases hx
 | r+1=>fun x hx=>by
  rcases List.mem_append.1 hx with hx|hx
  ·exact zlR n r x hx
  ·rw [List.mem_singleton] at hx
   rw [hx]
   exact .tup (zaw fun x hx=>by
    simp only [List.mem_cons,List.not_mem_nil,or_false] at hx
    rcases hx with rfl|rfl
    ·exact .int _ _
    ·exact .int _ _)
end Go.Proofs.YtjgmdlcjbgiekaaGreatDoor.Sc
