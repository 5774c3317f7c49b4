/-
  Parts of the proof, put together in one text. No condition.
-/
import Derived.Test.YtpjlfoficnpfoaaGreatDoorS16
open Bool renaming and_eq_true → qA, eq_iff_iff → qE, true_and → qH, or_eq_true → qK, not_eq_true' → qN, or_eq_false_iff → qS
open Int renaming natCast_mul → qQ
open List renaming not_mem_nil → qB, mem_cons → qC, getElem?_eq_getElem → qD, take → qF, mem_cons_self → qI, mem_cons_of_mem → qJ, getElem?_eq_some_iff → qL, getElem?_append_left → qM, drop → qP, replicate → qR, replicate_succ → qT, getElem?_set → qU, append_assoc → qV, mem_append → qW, map_append → qX, countP_eq_length_filter → qY, drop_eq_getElem_cons → jA, take_of_length_le → jB, filter_sublist → jE
open Nat renaming mul_le_mul → qG, le_refl → qO, strongRecOn → qZ, mul_mul_mul_comm → jD
open Option renaming bind_eq_bind → jC
namespace Go.Proofs.YtpjlfoficnpfoaaGreatDoor.Sc
set_option linter.all false
open Pm Ty Go.RowKit
theorem znP{s:Sq}{p:Pi}(hv:zP s p=true):∃ A B:Nat,(1≤A∧A≤4)∧(1≤B∧B≤4)∧s.w=((16 * A:Nat):Int)∧hgt s p=((16 * B:Nat):Int)∧zaQ s p=(B:Int)∧(p.st=3→s.h=((16 * B:Nat):Int))∧(p.st≠3→s.h=((32 * B:Nat):Int)∧s.il=true)∧(1≤p.st∧p.st≤3)∧(1≤p.ty∧p.ty≤3):=by
 have hr:=zbg hv;have hv':=hv;unfold zP at hv;simp only[qA,qK,beq_iff_eq]at hv;obtain⟨⟨hq,hc⟩,hi⟩:=hv;unfold zcz vsz mbs at hq;simp only[qA,qK,beq_iff_eq,decide_eq_true_eq,qN]at hq;unfold zkf at hc;simp only[qA,decide_eq_true_eq]at hc;have h1:s.w%16=0:=by have:=hq.1.1.1;rw[←zY _ _ om];simp_all
 have h2:s.h%16=0:=by have:=hq.1.1.2;rw[←zY _ _ om];simp_all
 have h3:s.il=true→s.h%32=0:=fun e=>by
  rcases hq.1.2 with h|h
  ·rw[e]at h;cases h
  ·rw[←zY _ _ om];exact h
 have e1:s.h.tdiv 16=s.h / 16:=zu _ _ om;have e2:s.h.tdiv 32=s.h / 32:=zu _ _ om;have e3:s.h.tdiv 2=s.h / 2:=zu _ _ om;have hst:p.st≠3→s.il=true:=fun h=>by
  rcases hi with h'|h'
  ·exact h'
  ·exact absurd h'.1.1 h
 by_cases h:p.st=3
 ·refine⟨(s.w / 16).toNat,(s.h / 16).toNat,om,om,om,?_,?_,fun _=>om,fun h'=>absurd h h',om,om⟩
  ·unfold hgt;rw[if_pos h];omega
  ·unfold zaQ;rw[if_pos hv',if_pos h,e1];omega
 ·have h32:=h3 (hst h);refine⟨(s.w / 16).toNat,(s.h / 32).toNat,om,om,om,?_,?_,fun h'=>absurd h' h,fun _=>⟨om,hst h⟩,om,om⟩
  ·unfold hgt;rw[if_neg h,e3];omega
  ·unfold zaQ;rw[if_pos hv',if_neg h,e2];omega
def mOr(f:Fm)(w h:Int):Bool:=decide (f.w=0)||(fmd f&&(decide (f.w=w)&&decide (f.h=h)))
theorem zmP(f:Fm)(w h:Int)(H:za):CallOk Tryz.prog 122 [.agg (fmc f),.int .i64 w,.int .i64 h] H (.bool (mOr f w h)) H:=by have fo:=fun K=>za8 f K;unfold mOr;generalize fmd f=b at fo ⊢;obtain⟨fw,fh,y,u,v⟩:=f;simp only[fmc]at fo ⊢;refine CallOk.body (F0:=[(0,.agg [.int .i64 fw,.int .i64 fh,.slice (bs y) y.length false,.slice (bs u) u.length false,.slice (bs v) v.length false]),(1,.int .i64 w),(2,.int .i64 h)]) Tryz.func122 rfl Tryz.ntmps122 Tryz.results122 rfl kr rfl ?_;refine PW.e ?_;(repeat refine PW.seq ?_);refine PW.rg rfl fun K hK=> ?_;simp(disch:=omega) only[go_sem,↓reduceIte,reduceCtorEq];(repeat'(first|((first|refine zh ?_ ?_|refine And.intro ?_ ?_)<;>intro h<;>(try simp only[nqb]at h)<;>simp(disch:=omega) only[go_sem,↓reduceIte,reduceCtorEq,h])|((first|refine VCx.call (fo _) rfl ?_);simp(disch:=omega) only[go_sem,↓reduceIte,reduceCtorEq])));all_goals(refine hK _ _ ?_;clear hK;(refine PW.ret ⟨_,rfl,?_⟩;first|refine .inl ⟨?_,rfl⟩|refine Fin.base (.id' ?_ (.bool _))|refine Fin.base (.id' ?_ (.int _ _)));(simp_all[slot,Nat.beq]<;>first|rfl|omega|(rw[qE];simp;done)|(rw[qE];simp;omega)))
def zeE(s:Sq)(p:Pi)(pa fu fi:Fm)(b:Bool):Int:=if(zeA s p b&&(mOr pa s.w s.h&&(mOr fu s.w s.h&&mOr fi s.w (s.h.tdiv 2))))=true then(if((!decide (p.ty=1)&&decide (pa.w=0))||((decide (p.ty=3)&&decide (fu.w=0))||(decide (p.ty=2)&&(b&&decide (fi.w=0)))))=true then 6 else 0)else 1
set_option maxHeartbeats 1600000 in
theorem zyi(s:Sq)(p:Pi)(pa fu fi:Fm)(b:Bool)(hs:SqOk s)(H:za):CallOk Tryz.prog 65 [.agg (sqc s),.agg (pic p),.agg (fmc pa++(fmc fu++fmc fi)),.bool b] H (.int .i64 (zeE s p pa fu fi b)) H:=by
 have fo:=fun K=>zos s p b K hs;have h1:=zbt s;have h2:=zbK s hs;have h3:=zdy s hs;have h4:=zqD s;have h5:(sqc s)[1]? =some (.int .i64 s.h):=rfl;have p6:(pic p).length=6:=rfl;have p7:(pic p).all PV.cell=true:=rfl;have t6:qF 6 (pic p)=pic p:=rfl;have ty:(pic p)[0]? =some (.int .i64 p.ty):=rfl;have rl:(fmc pa++(fmc fu++fmc fi)).length=15:=rfl;have rc:(fmc pa++(fmc fu++fmc fi)).all PV.cell=true:=rfl;have r0:qF 5 (fmc pa++(fmc fu++fmc fi))=fmc pa:=rfl;have r1:qF 5 (qP 5 (fmc pa++(fmc fu++fmc fi)))=fmc fu:=rfl;have r2:qF 5 (qP 10 (fmc pa++(fmc fu++fmc fi)))=fmc fi:=rfl;have w0:(fmc pa++(fmc fu++fmc fi))[0]? =some (.int .i64 pa.w):=rfl;have w1:(fmc pa++(fmc fu++fmc fi))[5]? =some (.int .i64 fu.w):=rfl;have w2:(fmc pa++(fmc fu++fmc fi))[10]? =some (.int .i64 fi.w):=rfl;have m1:=fun K=>zmP pa s.w s.h K;have m2:=fun K=>zmP fu s.w s.h K;have m3:=fun K=>zmP fi s.w (s.h.tdiv 2) K;unfold zeE;generalize hbf:zeA s p b=bf at fo ⊢;generalize mOr pa s.w s.h=b1 at m1 ⊢;generalize mOr fu s.w s.h=b2 at m2 ⊢;generalize mOr fi s.w (s.h.tdiv 2)=b3 at m3 ⊢;refine CallOk.go Tryz.func65 Tryz.ntmps65 Tryz.results65 ?_;refine PW.g (nq2 h1 (nq2 p7 rc)) ?_;refine PW.m (nq2 h2 (nq2 h3 (nq2 p6 t6))) fo ?_;refine PW.c (fun h=> ?_) (fun h=> ?_)
 ·have hb:bf=false:=by simpa using h
  subst hb;refine PW.e ?_;(refine PW.ret ⟨_,rfl,?_⟩;first|refine .inl ⟨?_,rfl⟩|refine Fin.base (.id' ?_ (.bool _))|refine Fin.base (.id' ?_ (.int _ _)));rfl
 have hb:bf=true:=by simpa using h
 subst hb;have wd:IntKind.i64.wrap (s.h.tdiv 2)=s.h.tdiv 2:=by unfold zeA at hbf;rw[qA]at hbf;have:=zbg hbf.1;exact zl1 _ _ om
 refine PW.skip ?_;(repeat refine PW.seq ?_);refine PW.rgv (P:=Tryz.prog) [3,5,6] 42 (.bool (!(b1&&(b2&&b3)))) ?_ ?_ ?_
 ·rfl
 ·simp(disch:=omega) only[go_sem,↓reduceIte,reduceCtorEq,h2,h4,h5,rl,r0,r1,r2];(repeat'(first|((first|refine zh ?_ ?_|refine And.intro ?_ ?_)<;>intro h<;>(try simp only[nqb]at h)<;>simp(disch:=omega) only[go_sem,↓reduceIte,reduceCtorEq,h2,h4,h5,rl,r0,r1,r2,wd,h])|((first|refine VCx.call (m1 _) rfl ?_|refine VCx.call (m2 _) rfl ?_|refine VCx.call (m3 _) rfl ?_);simp(disch:=omega) only[go_sem,↓reduceIte,reduceCtorEq,h2,h4,h5,rl,r0,r1,r2,wd])));all_goals(clear hbf wd m1 m2 m3 fo h1 h2 h3 h4 h5 rl rc r0 r1 r2 w0 w1 w2 p6 p7 t6 ty;(simp_all[slot,Nat.beq]<;>first|rfl|omega|(rw[qE];simp;done)|(rw[qE];simp;omega)))
 refine PW.c (fun h=> ?_) (fun h=> ?_)
 ·have hb:(b1&&(b2&&b3))=false:=by cases b1<;>cases b2<;>cases b3<;>simp_all
  rw[hb];refine PW.e ?_;(refine PW.ret ⟨_,rfl,?_⟩;first|refine .inl ⟨?_,rfl⟩|refine Fin.base (.id' ?_ (.bool _))|refine Fin.base (.id' ?_ (.int _ _)));rfl
 have hb:(b1&&(b2&&b3))=true:=by cases b1<;>cases b2<;>cases b3<;>simp_all
 rw[hb];clear hbf m1 m2 m3 fo hb h wd;refine PW.skip ?_;(repeat'(first|refine PW.seq ?_|refine PW.skip ?_|refine PW.block ?_|((first|refine PW.rg rfl fun K hK=> ?_|refine PW.draw mix kr fun K hK=> ?_);simp(disch:=omega) only[go_sem,↓reduceIte,reduceCtorEq,p6,ty,rl,w0,w1,w2])|((first|refine zh ?_ ?_|refine zk ?_ ?_|refine And.intro ?_ ?_)<;>intro h<;>(try simp only[nqb]at h)<;>simp(disch:=omega) only[go_sem,↓reduceIte,reduceCtorEq,p6,ty,rl,w0,w1,w2,h])|(refine hK _ _ ?_;clear hK K)|(refine PW.cond (t:=_) rfl (fun h=> ?_) (fun h=> ?_)<;>(try(cases h;done))<;>(try simp only[nqb]at h))));all_goals((refine PW.ret ⟨_,rfl,?_⟩;first|refine .inl ⟨?_,rfl⟩|refine Fin.base (.id' ?_ (.bool _))|refine Fin.base (.id' ?_ (.int _ _)));clear h1 h2 h3 h4 h5 rl rc r0 r1 r2 w0 w1 w2 p6 p7 t6 ty;(simp_all[slot,Nat.beq]<;>first|rfl|omega|(rw[qE];simp;done)|(rw[qE];simp;omega)))
def zlN(s:Sq)(p:Pi)(pa:Fm):Fm:=if pa.w=0 then flt (s.w / 16).toNat (hgt s p / 16).toNat else if p.st=3 then pa else fieldOf pa (p.st - 1)
theorem zmX{s:Sq}{p:Pi}{f:Fm}(hv:zP s p=true)(hf:fmd f=true)(hw:f.w=s.w)(hh:f.h=s.h):fvd f=true∧(p.st≠3→f.h%32=0):=by
 obtain⟨A,B,a1,b1,ew,eh,er,e3,e4,st,_⟩:=znP hv;by_cases h:p.st=3
 ·have:=e3 h;refine⟨?_,fun h'=>absurd h h'⟩;unfold fvd;simp only[hf,qH,qA,decide_eq_true_eq];omega
 ·have:=(e4 h).1;refine⟨?_,fun _=>om⟩;unfold fvd;simp only[hf,qH,qA,decide_eq_true_eq];omega
theorem zsM(f:Fm)(s:Int)(hf:fvd f=true)(h32:f.h%32=0)(hs:s=0∨s=1)(L:za):CallOk Tryz.prog 124 [.agg (fmc f),.int .i64 s] L (.tup [.agg (fmc (fieldOf f s)),.int .i64 0]) L:=by
 obtain⟨w,ht,y,u,v⟩:=f;obtain⟨V,K,rfl,rfl,hok⟩:=zd6 hf h32;obtain⟨P,hP,rfl⟩:∃ P:Nat,P≤1∧s=(P:Int):=by
  rcases hs with e|e
  ·exact⟨0,om,om⟩
  ·exact⟨1,om,om⟩
 have e1:=za2 V K P y u v;have e2:=zhN V K P y u v L hok hP;unfold fr4 at e1 e2;rw[e1];exact e2
set_option maxHeartbeats 1600000 in
set_option maxRecDepth 10000 in
theorem zyk(s:Sq)(p:Pi)(pa:Fm)(hs:SqOk s)(hv:zP s p=true)(hm:mOr pa s.w s.h=true)(H:za):CallOk Tryz.prog 66 [.agg (sqc s),.agg (pic p),.agg (fmc pa)] H (.tup [.agg (fmc (zlN s p pa)),.int .i64 0]) H:=by
 have h1:=zbt s;have h2:=zbK s hs;have h3:=zdy s hs;have h4:=zqD s;have p6:(pic p).length=6:=rfl;have p7:(pic p).all PV.cell=true:=rfl;have t6:qF 6 (pic p)=pic p:=rfl;have st:(pic p)[1]? =some (.int .i64 p.st):=rfl;have F5:∀ g:Fm,(fmc g).all PV.cell=true:=fun _=>rfl;have F7:∀ g:Fm,(fmc g).length=5:=fun _=>rfl;have F8:∀ g:Fm,qF 5 (fmc g)=fmc g:=fun _=>rfl;have z9:qP 5 [PV.int .i64 0,PV.int .i64 0,PV.slice [] 0 true,PV.slice [] 0 true,PV.slice [] 0 true]=[]:=rfl;have w0:(fmc pa)[0]? =some (.int .i64 pa.w):=rfl;obtain⟨A,B,a1,b1,ew,eh,er,e3,e4,e5,_⟩:=znP hv;have ho:=fun K=>zmV s p K hs (by have:=zbg hv;omega);refine CallOk.go Tryz.func66 Tryz.ntmps66 Tryz.results66 ?_;refine PW.g (nq2 h1 (nq2 p7 F5)) ?_;refine PW.b ?_;refine PW.g (nq2 w0 F7) ?_;refine PW.c (fun h=> ?_) (fun h=> ?_)
 ·have hz:pa.w=0:=by simpa using h
  have hc:zlN s p pa=flt A B:=by unfold zlN;rw[if_pos hz,ew,eh];congr 1<;>omega
  rw[hc];rw[eh]at ho;rw[ew]at h4;have fl:=fun K=>zsK A B a1 b1 K;generalize flt A B=g at fl ⊢;(repeat refine PW.seq ?_);refine PW.drawi [H.length+3] [(6,[0])] [] [16,17] mix kr (by simp<;>omega) fun K hK=> ?_;simp(disch:=omega) only[go_sem,↓reduceIte,reduceCtorEq,zaU,h2,h3,h4,p6,t6];refine VCj.read (fun _ _=>ho _) rfl ?_;refine sqz ?_;refine VCj.read (fun _ _=>fl _) rfl ?_;refine sqx (nq2 F5 (nq2 F7 z9)) ?_;refine hK _ _ ?_;clear hK K;refine PW.w (.tup [.agg (fmc g),.int .i64 0]) (nq2 F7 F8) ?_;exact Fin.base (.id (zS _ _ _ _ _ _ _ _ _ _))
 have hz:pa.w≠0:=by simpa using h
 have hm2:fmd pa=true∧pa.w=s.w∧pa.h=s.h:=by unfold mOr at hm;simpa[hz]using hm
 obtain⟨hfv,h32⟩:=zmX hv hm2.1 hm2.2.1 hm2.2.2;have hc:zlN s p pa=if p.st=3 then pa else fieldOf pa (p.st - 1):=if_neg hz
 rw[hc];refine PW.g (nq2 st p6) ?_;refine PW.c (fun h=> ?_) (fun h=> ?_)
 ·have h1':p.st=1:=by simpa using h
  rw[if_neg om,h1'];have fl:=fun K=>zsM pa 0 hfv (h32 om) (.inl rfl) K;change ∀ K,CallOk _ _ _ K (.tup [.agg (fmc (fieldOf pa (1 - 1))),_]) K at fl;generalize fieldOf pa (1 - 1)=g at fl ⊢;refine PW.m (nq2 F5 (nq2 F7 (nq2 F8 z9))) fl ?_;refine PW.w (.tup [.agg (fmc g),.int .i64 0]) (nq2 F7 F8) ?_;exact Fin.base (.id (zS _ _ _ _ _ _ _ _ _ _))
 have h1':p.st≠1:=by simpa using h
 refine PW.g (nq2 st p6) ?_;refine PW.c (fun h=> ?_) (fun h=> ?_)
 ·have h2':p.st=2:=by simpa using h
  rw[if_neg om,h2'];have fl:=fun K=>zsM pa 1 hfv (h32 om) (.inr rfl) K;change ∀ K,CallOk _ _ _ K (.tup [.agg (fmc (fieldOf pa (2 - 1))),_]) K at fl;generalize fieldOf pa (2 - 1)=g at fl ⊢;refine PW.m (nq2 F5 (nq2 F7 (nq2 F8 z9))) fl ?_;refine PW.w (.tup [.agg (fmc g),.int .i64 0]) (nq2 F7 F8) ?_;exact Fin.base (.id (zS _ _ _ _ _ _ _ _ _ _))
 have h2':p.st≠2:=by simpa using h
 rw[if_pos om];refine PW.skip ?_;obtain⟨A',B',c1,c2,c3,c4,gw,gh,ly,lu,lv⟩:=zjX hfv;have nb:=nAB (A:=A') (B:=B') ⟨c1,c2⟩ ⟨c3,c4⟩;have q1:16 * A' * (16 * B')=256 * (A' * B'):=by rw[jD]
 have q2:8 * A' * (8 * B')=64 * (A' * B'):=by rw[jD]
 obtain⟨w,ht,y,u,v⟩:=pa;simp only at ly lu lv;have c1:=fun K=>zhZ y false K om;have c2:=fun K=>zhZ u false K om;have c3:=fun K=>zhZ v false K om;clear hc hm hfv h32 q1 q2 ly lu lv;unfold fmc;(repeat refine PW.seq ?_);refine PW.draw mix kr fun K hK=> ?_;simp(disch:=omega) only[go_sem,↓reduceIte,reduceCtorEq];(repeat'(first|((first|refine zk ?_ ?_|refine And.intro ?_ ?_)<;>intro h<;>(try simp only[nqb]at h)<;>simp(disch:=omega) only[go_sem,↓reduceIte,reduceCtorEq,h])|((first|refine VCy.call (c1 _) rfl ?_|refine VCy.call (c2 _) rfl ?_|refine VCy.call (c3 _) rfl ?_);simp(disch:=omega) only[go_sem,↓reduceIte,reduceCtorEq])));refine hK _ _ ?_;clear hK K;refine PW.v (.tup [.agg [.int .i64 w,.int .i64 ht,.slice (bs y) y.length false,.slice (bs u) u.length false,.slice (bs v) v.length false],.int .i64 0]) ?_;exact Fin.base (.id (zS _ _ _ _ _ _ _ _ _ _))
structure Gok(A B:Nat)(f:Fm):Prop where
 w:f.w=((16 * A:Nat):Int)
 h:f.h=((16 * B:Nat):Int)
 ra:1≤A∧A≤4
 rb:1≤B∧B≤4
 ly:f.y.length=16 * A * (16 * B)
 lu:f.u.length=8 * A * (8 * B)
 lv:f.v.length=8 * A * (8 * B)
theorem Gok.of{f:Fm}(h:fvd f=true):∃ A B:Nat,Gok A B f:=by obtain⟨A,B,a1,a2,b1,b2,ew,eh,ly,lu,lv⟩:=zjX h;exact⟨A,B,ew,eh,⟨a1,a2⟩,⟨b1,b2⟩,ly,lu,lv⟩
theorem Gok.fvd{A B:Nat}{f:Fm}(h:Gok A B f):Sc.fvd f=true:=by
 obtain⟨w,ht,y,u,v⟩:=f;obtain⟨hw,hh,ra,rb,ly,lu,lv⟩:=h;simp only at hw hh ly lu lv;subst hw hh;have e1:((16 * A:Nat):Int) / 2=((8 * A:Nat):Int):=om;have e2:((16 * B:Nat):Int) / 2=((8 * B:Nat):Int):=om;have a1:fsz ((16 * A:Nat):Int) ((16 * B:Nat):Int)=true:=by simp only[fsz,qA,decide_eq_true_eq];omega
 have a2:((16 * A * (16 * B):Nat):Int)=((16 * A:Nat):Int) * ((16 * B:Nat):Int):=qQ _ _;have a3:((8 * A * (8 * B):Nat):Int)=((8 * A:Nat):Int) * ((8 * B:Nat):Int):=qQ _ _;unfold Sc.fvd Sc.fmd;simp only[a1,e1,e2,ly,lu,lv,a2,a3,decide_true,Bool.and_self,qH,qA,decide_eq_true_eq];omega
theorem Gok.has{A B:Nat}{f:Fm}(h:Gok A B f){X Y:Nat}(hX:X<A)(hY:Y<B):zdu f (X:Int) (Y:Int)=true:=by unfold zdu;rw[h.fvd,qH,h.w,h.h];simp only[qA,decide_eq_true_eq];omega
def smF(A X Y:Nat)(f m:Fm):Fm:=⟨f.w,f.h,pst f.y (16 * Y * (16 * A)+16 * X) (16 * A) 16 m.y 16,pst f.u (8 * Y * (8 * A)+8 * X) (8 * A) 8 m.u 8,pst f.v (8 * Y * (8 * A)+8 * X) (8 * A) 8 m.v 8⟩
theorem znD{A B:Nat}{f m:Fm}(hf:Gok A B f)(hm:F16 m){X Y:Nat}(hX:X<A)(hY:Y<B):(smF A X Y f m).y.length=f.y.length∧(smF A X Y f m).u.length=f.u.length∧(smF A X Y f m).v.length=f.v.length:=⟨zaH (m:=16) (by rw[hm.ly]) 16 (qO _) (rows_in hf.ly om om),zaH (m:=8) (by rw[hm.lu]) 8 (qO _) (rows_in hf.lu om om),zaH (m:=8) (by rw[hm.lv]) 8 (qO _) (rows_in hf.lv om om)⟩
theorem zqI{A B:Nat}{f m:Fm}(hf:Gok A B f)(hm:F16 m){X Y:Nat}(hX:X<A)(hY:Y<B):Gok A B (smF A X Y f m):=by obtain⟨l1,l2,l3⟩:=znD hf hm hX hY;exact⟨hf.w,hf.h,hf.ra,hf.rb,l1.trans hf.ly,l2.trans hf.lu,l3.trans hf.lv⟩
set_option maxHeartbeats 1600000 in
theorem zfL(p z:List UInt8)(r v a s w n:Nat)(g f:Bool)(H:za)(hr:H[r]? =some ⟨5,v,bs p⟩)(hw:w≤64)(hn:n≤64)(hp:p.length≤8192)(hz:z.length=n * w)(hfit:∀ k,k<n→a+k * s+w≤p.length)(hs:s≤200∧a≤8192):
  CallOk Tryz.prog 73 [.msl r v 0 p.length 1 g,.agg [.int .i64 (a:Int),.int .i64 (s:Int),.int .i64 (w:Int),.int .i64 (n:Int)],.slice (bs z) z.length f] H (.tup []) (H.set r ⟨5,v,bs (pst p a s w z n)⟩):=by
 have hrl:=(qL.1 hr).1;have hne:H.length≠r:=om;have hne':r≠H.length:=om;have o1:=fun B K=>zrR hrl B K;have o2:=fun B X K=>zrO H r B X K;have o3:=fun B C K=>zrP hrl B C K;have o4:=fun B=>zcD H r B;have hbig:n * w≤4096:=qG hn hw;refine CallOk.go Tryz.func73 Tryz.ntmps73 Tryz.results73 ?_;refine PW.eq rfl (zhw hr).symm ?_;refine PW.g o4 ?_;refine PW.g (nq2 o1 (nq2 o2 o3)) ?_;refine PW.l ?_;suffices hloop:∀ k:Nat,k≤n→PL Tryz.prog _ _ [(0,.msl r v 0 p.length 1 g),(2,.slice (bs z) z.length f),(4,.ptr H.length 0 0),(8,.int .i64 (n:Int)),(9,.int .i64 (k:Int))] (one H r ⟨5,v,bs (pst p a s w z k)⟩++[⟨159,0,[.int .i64 (a:Int),.int .i64 (s:Int),.int .i64 (w:Int),.int .i64 (n:Int)]⟩]) _ by exact PL.at [0,2,4,8,9] (hloop 0 (Nat.zero_le _)) rfl rfl
 refine cnt n (fun k hk ih=> ?_) ?_
 ·have hpl:=zaH (p:=p) (a:=a) (s:=s) hz k om fun j hj=>hfit j om;have h6:=hfit k hk;have ct:=zcA hk;have eR:(k:Int) * (w:Int)=((k * w:Nat):Int):=by simp
  have b1:(k+1) * w=k * w+w:=by rw[Nat.add_mul];omega
  have eR1:((k:Int)+1) * (w:Int)=((k * w+w:Nat):Int):=by rw[←b1];simp
  have eS:(k:Int) * (s:Int)=((k * s:Nat):Int):=by simp
  have eA:(a:Int)+((k * s:Nat):Int)=((a+k * s:Nat):Int):=by simp
  have b2:(k+1) * w≤n * w:=Nat.mul_le_mul_right _ om;have e3:k * w+w - k * w=w:=om;have rl:=zcd hz hk;have hmin:min (p.length - (a+k * s)) w=w:=om;have htk:qF w (qF w (qP (k * w) z))=qF w (qP (k * w) z):=jB om;rw[pst]at ih;refine PL.round ?_;refine PW.g ct ?_;refine PW.t ?_;refine PW.skip ?_;refine PW.b ?_;refine PW.e ?_;rw[b1]at b2;(repeat refine PW.seq ?_);refine PW.drawt [] [] mix kr fun K hK=> ?_;simp(disch:=omega) only[go_sem,↓reduceIte,reduceCtorEq,zaU,o1,o2,o3,eR,eR1,eS,eA,e3,zd,hpl,zcF,zbS,hmin,rl,htk];refine hK _ _ ?_;clear hK K;refine PW.e ?_;refine PL.at [0,2,4,8,9] ih rfl ?_;rw[←zgZ,show min w (p.length - (a+k * s))=w from om,htk];first|rfl|simp[zM,zbS,zcF,zF,zd,rl]
 refine PL.round ?_;refine PW.f (fun K k=>by simp(disch:=omega) only[go_sem,↓reduceIte,reduceCtorEq,ze3 n];exact k) ?_;refine PW.u ?_;refine PW.exit ?_;refine Exists.intro _ (And.intro rfl ?_);exact Fin.cut (A:=one H r ⟨5,v,bs (pst p a s w z n)⟩) rfl (zcD _ _ _).symm (fun hh=>HSc.set hh fun x hx=>zn _ _ x hx) (.id (.tup (asc fun x hx=>by cases hx)))
theorem zpz(A X Y:Nat)(hA:A≤4)(hX:X≤4)(hY:Y≤4)(H:za):CallOk Tryz.prog 134 [.int .i64 ((16 * A:Nat):Int),.int .i64 (X:Int),.int .i64 (Y:Int)] H (.tup [.agg [.int .i64 ((16 * Y * (16 * A)+16 * X:Nat):Int),.int .i64 ((16 * A:Nat):Int),.int .i64 ((16:Nat):Int),.int .i64 ((16:Nat):Int)],.agg [.int .i64 ((8 * Y * (8 * A)+8 * X:Nat):Int),.int .i64 ((8 * A:Nat):Int),.int .i64 ((8:Nat):Int),.int .i64 ((8:Nat):Int)]]) H:=by
 show CallOk _ _ _ H (.tup [.agg [.int .i64 ((16 * Y * (16 * A)+16 * X:Nat):Int),.int .i64 ((16 * A:Nat):Int),.int .i64 16,.int .i64 16],.agg [.int .i64 ((8 * Y * (8 * A)+8 * X:Nat):Int),.int .i64 ((8 * A:Nat):Int),.int .i64 8,.int .i64 8]]) H;have n1:16 * Y * (16 * A)≤64 * 64:=qG om om;have n2:8 * Y * (8 * A)≤32 * 32:=qG om om;have d1:((16 * A:Nat):Int).tdiv 2=((8 * A:Nat):Int):=by rw[zu _ _ om];omega
 have m1:(16:Int) * (Y:Int)=((16 * Y:Nat):Int):=om;have m2:(16:Int) * (X:Int)=((16 * X:Nat):Int):=om;have m3:(8:Int) * (Y:Int)=((8 * Y:Nat):Int):=om;have m4:(8:Int) * (X:Int)=((8 * X:Nat):Int):=om;have m5:((16 * Y:Nat):Int) * ((16 * A:Nat):Int)=((16 * Y * (16 * A):Nat):Int):=(qQ _ _).symm;have m6:((8 * Y:Nat):Int) * ((8 * A:Nat):Int)=((8 * Y * (8 * A):Nat):Int):=(qQ _ _).symm;have m7:((16 * Y * (16 * A):Nat):Int)+((16 * X:Nat):Int)=((16 * Y * (16 * A)+16 * X:Nat):Int):=(Int.natCast_add _ _).symm;have m8:((8 * Y * (8 * A):Nat):Int)+((8 * X:Nat):Int)=((8 * Y * (8 * A)+8 * X:Nat):Int):=(Int.natCast_add _ _).symm;refine CallOk.go Tryz.func134 Tryz.ntmps134 Tryz.results134 ?_;refine PW.e ?_;refine PW.g (nq2 m1 (nq2 m2 (nq2 m5 m7))) ?_;refine PW.g (nq2 d1 (nq2 m3 (nq2 m4 (nq2 m6 m8)))) ?_;(repeat refine PW.seq ?_);refine PW.drawi [H.length,H.length+1] [(6,[0]),(7,[1])] [] [] mix kr (by simp<;>omega) fun K hK=> ?_;refine sqz ?_;refine hK _ _ ?_;clear hK K;refine PW.v (.tup [.agg [.int .i64 ((16 * Y * (16 * A)+16 * X:Nat):Int),.int .i64 ((16 * A:Nat):Int),.int .i64 16,.int .i64 16],.agg [.int .i64 ((8 * Y * (8 * A)+8 * X:Nat):Int),.int .i64 ((8 * A:Nat):Int),.int .i64 8,.int .i64 8]]) ?_;refine Fin.base (.id (.tup (asc fun x hx=> ?_)));simp only[qC,qB,or_false]at hx;rcases hx with rfl|rfl<;>exact zw (zbZ _ _ _ _ _)
set_option maxHeartbeats 3200000 in
set_option maxRecDepth 100000 in
theorem zqX(A B X Y:Nat)(f m:Fm)(hf:Gok A B f)(hm:F16 m)(hX:X<A)(hY:Y<B)(H:za):
  CallOk Tryz.prog 71 [.agg (fmc f),.int .i64 (X:Int),.int .i64 (Y:Int),.agg (fmc m)] H (.tup [.agg (fmc (smF A X Y f m)),.int .i64 0]) H:=by
 have ho:=fun K=>zmW f (X:Int) (Y:Int) K;rw[hf.has hX hY]at ho;have fo:=fun K=>za8 m K;have hmv:=hm.fvd;unfold fvd at hmv;rw[qA]at hmv;rw[hmv.1]at fo;obtain⟨q1,q2,q3⟩:=znD hf hm hX hY;have mg:=fun K=>zpz A X Y hf.ra.2 (by have:=hf.ra;omega) (by have:=hf.rb;omega) K;obtain⟨w,ht,y,u,v⟩:=f;obtain⟨w',ht',y',u',v'⟩:=m;obtain⟨hw,hh,ra,rb,ly,lu,lv⟩:=hf;obtain⟨hw',hh',ly',lu',lv'⟩:=hm;simp only at hw hh ly lu lv hw' hh' ly' lu' lv';subst hw hh hw' hh';have nb1:16 * A * (16 * B)≤64 * 64:=qG om om;have nb2:8 * A * (8 * B)≤32 * 32:=qG om om;have nb3:0<16 * A * (16 * B):=Nat.mul_pos om om;have nb4:0<8 * A * (8 * B):=Nat.mul_pos om om;have n1:16 * Y * (16 * A)≤64 * 64:=qG om om;have n2:8 * Y * (8 * A)≤32 * 32:=qG om om;have p1:=fun r K hr=>zfL y y' r 1 (16 * Y * (16 * A)+16 * X) (16 * A) 16 16 true false K hr om om om om (rows_in ly om om) om;have p2:=fun r K hr=>zfL u u' r 1 (8 * Y * (8 * A)+8 * X) (8 * A) 8 8 true false K hr om om om om (rows_in lu om om) om;have p3:=fun r K hr=>zfL v v' r 1 (8 * Y * (8 * A)+8 * X) (8 * A) 8 8 true false K hr om om om om (rows_in lv om om) om;have fc:=ziS ((16 * A:Nat):Int) ((16 * B:Nat):Int) y u v (H++[⟨33,0,fmc ⟨((16 * A:Nat):Int),((16 * B:Nat):Int),y,u,v⟩⟩,⟨33,0,fmc ⟨16,16,y',u',v'⟩⟩,⟨33,0,[.int .i64 0,.int .i64 0,.slice [] 0 true,.slice [] 0 true,.slice [] 0 true]⟩]) om om om;have hres:fmc (smF A X Y ⟨((16 * A:Nat):Int),((16 * B:Nat):Int),y,u,v⟩ ⟨16,16,y',u',v'⟩)=[.int .i64 ((16 * A:Nat):Int),.int .i64 ((16 * B:Nat):Int),.slice (bs (pst y (16 * Y * (16 * A)+16 * X) (16 * A) 16 y' 16)) y.length false,.slice (bs (pst u (8 * Y * (8 * A)+8 * X) (8 * A) 8 u' 8)) u.length false,.slice (bs (pst v (8 * Y * (8 * A)+8 * X) (8 * A) 8 v' 8)) v.length false]:=by unfold fmc;rw[q1,q2,q3];rfl
 rw[hres];have k1:(pst y (16 * Y * (16 * A)+16 * X) (16 * A) 16 y' 16).length=y.length:=q1;have k2:(pst u (8 * Y * (8 * A)+8 * X) (8 * A) 8 u' 8).length=u.length:=q2;have k3:(pst v (8 * Y * (8 * A)+8 * X) (8 * A) 8 v' 8).length=v.length:=q3;clear hres q1 q2 q3 hmv;generalize pst y (16 * Y * (16 * A)+16 * X) (16 * A) 16 y' 16=PY at p1 k1 ⊢;generalize pst u (8 * Y * (8 * A)+8 * X) (8 * A) 8 u' 8=PU at p2 k2 ⊢;generalize pst v (8 * Y * (8 * A)+8 * X) (8 * A) 8 v' 8=PV1 at p3 k3 ⊢;generalize 16 * Y * (16 * A)+16 * X=a1 at p1 mg;generalize 8 * Y * (8 * A)+8 * X=a2 at p2 p3 mg;simp only[fmc,plc,cpB,hl3,qV,List.cons_append,List.nil_append,Nat.add_assoc,Nat.reduceAdd]at ho fo fc ⊢;refine CallOk.body (F0:=[(0,.agg [.int .i64 ((16 * A:Nat):Int),.int .i64 ((16 * B:Nat):Int),.slice (bs y) y.length false,.slice (bs u) u.length false,.slice (bs v) v.length false]),(1,.int .i64 (X:Int)),(2,.int .i64 (Y:Int)),(3,.agg [.int .i64 16,.int .i64 16,.slice (bs y') y'.length false,.slice (bs u') u'.length false,.slice (bs v') v'.length false])]) Tryz.func71 rfl Tryz.ntmps71 Tryz.results71 rfl kr rfl ?_;refine PW.e ?_;(repeat refine PW.seq ?_);refine PW.rgv (P:=Tryz.prog) [1,2,4,7,8,9] 32 (.bool false) ?_ ?_ ?_
 ·rfl
 ·clear p1 p2 p3 fc mg;simp(disch:=omega) only[go_sem,↓reduceIte,reduceCtorEq];(repeat'(first|((first|refine zh ?_ ?_|refine And.intro ?_ ?_)<;>intro h<;>(try simp only[nqb]at h)<;>simp(disch:=omega) only[go_sem,↓reduceIte,reduceCtorEq,h])|((first|refine VCx.call (ho _) rfl ?_|refine VCx.call (fo _) rfl ?_);simp(disch:=omega) only[go_sem,↓reduceIte,reduceCtorEq])));all_goals(simp_all[slot,Nat.beq]<;>first|rfl|omega|(rw[qE];simp;done)|(rw[qE];simp;omega))
 refine PW.us ?_;refine PW.view (Vs.place 5) ?_;refine PW.view (Vs.place 5) ?_;refine PW.view (Vs.place 5) ?_;refine PW.f (fun K k=>by simp(disch:=omega) only[go_sem,↓reduceIte,reduceCtorEq];refine VCx.call (fc) rfl ?_;simp(disch:=omega) only[go_sem,↓reduceIte,reduceCtorEq];exact k) ?_;refine PW.k mg ?_;refine PW.f (fun K k=>by simp(disch:=omega) only[go_sem,↓reduceIte,reduceCtorEq];refine VCx.call (p1 _ _ (apn _ _ 3)) rfl ?_;simp(disch:=omega) only[go_sem,↓reduceIte,reduceCtorEq];exact k) ?_;refine PW.f (fun K k=>by simp(disch:=omega) only[go_sem,↓reduceIte,reduceCtorEq];refine VCx.call (p2 _ _ (apn _ _ 4)) rfl ?_;simp(disch:=omega) only[go_sem,↓reduceIte,reduceCtorEq];exact k) ?_;refine PW.f (fun K k=>by simp(disch:=omega) only[go_sem,↓reduceIte,reduceCtorEq];refine VCx.call (p3 _ _ (apn _ _ 5)) rfl ?_;simp(disch:=omega) only[go_sem,↓reduceIte,reduceCtorEq];exact k) ?_;refine PW.e ?_;refine PW.v (.tup [.agg [.int .i64 ((16 * A:Nat):Int),.int .i64 ((16 * B:Nat):Int),.msl (H.length+3) 1 0 y.length 1 true,.msl (H.length+4) 1 0 u.length 1 true,.msl (H.length+5) 1 0 v.length 1 true],.int .i64 0]) ?_;refine Fin.base (Fz.tupC ⟨Fz.aggC ⟨.id (.int _ _),.id (.int _ _),Fz.mslC (e:=5) (xs:=bs PY) om (apn _ _ 3) (by rw[zd];omega) (FzC.refl (zn _ _)),Fz.mslC (e:=5) (xs:=bs PU) om (apn _ _ 4) (by rw[zd];omega) (FzC.refl (zn _ _)),Fz.mslC (e:=5) (xs:=bs PV1) om (apn _ _ 5) (by rw[zd];omega) (FzC.refl (zn _ _)),trivial⟩,.id (.int _ _),trivial⟩)
theorem zzo{s:Sq}{p:Pi}(hv:zP s p=true)(hi:s.il=true):s.h%32=0:=by
 have hr:=zbg hv;unfold zP at hv;simp only[qA,qK,beq_iff_eq]at hv;obtain⟨⟨hq,hc⟩,_⟩:=hv;unfold zcz vsz at hq;simp only[qA,qK,beq_iff_eq,qN]at hq;rcases hq.1.2 with h|h
 ·rw[hi]at h;cases h
 ·rw[←zY _ _ om];exact h
theorem zks{A B:Nat}{f:Fm}(hA:1≤A∧A≤4)(hB:1≤B∧B≤4)(hf:fmd f=true)(hw:f.w=((16 * A:Nat):Int))(hh:f.h=((16 * B:Nat):Int)):Gok A B f:=by
 have hv:fvd f=true:=by unfold fvd;rw[hf,qH];simp only[qA,decide_eq_true_eq];omega
 obtain⟨A',B',g⟩:=Gok.of hv;have e1:A'=A:=by have:=g.w;omega
 have e2:B'=B:=by have:=g.h;omega
 subst e1 e2;exact g
theorem zi1{A B:Nat}{f:Fm}(hA:1≤A∧A≤4)(hB:1≤B∧B≤4)(hv:fvd f=true)(hw:f.w=((16 * A:Nat):Int))(hh:f.h=((32 * B:Nat):Int)){s:Int}(hs:s=0∨s=1):Gok A B (fieldOf f s):=by
 obtain⟨w,ht,y,u,v⟩:=f;simp only at hw hh;obtain⟨V,K,e1,e2,hok⟩:=zd6 hv (by show ht%32=0;omega);subst e1 e2;obtain⟨P,hP,rfl⟩:∃ P:Nat,P≤1∧s=(P:Int):=by
  rcases hs with e|e
  ·exact⟨0,om,om⟩
  ·exact⟨1,om,om⟩
 have e3:=za2 V K P y u v;unfold fr4 at e3;rw[e3];have h1:=zon hok hP;exact zks hA hB h1.fmd (by have:=h1.w;omega) (by have:=h1.h;omega)
theorem zjN{f:Fm}{w h:Int}(hm:mOr f w h=true)(hz:f.w≠0):fmd f=true∧f.w=w∧f.h=h:=by unfold mOr at hm;simpa[hz]using hm
structure DecOk(s:Sq)(p:Pi)(pa fu fi:Fm)(b:Bool)(A B:Nat):Prop where
 hv:zP s p=true
 hb:b=true→p.st≠3
 ra:1≤A∧A≤4
 rb:1≤B∧B≤4
 w:s.w=((16 * A:Nat):Int)
 g:hgt s p=((16 * B:Nat):Int)
 r:zaQ s p=(B:Int)
 h3:p.st=3→s.h=((16 * B:Nat):Int)
 h4:p.st≠3→s.h=((32 * B:Nat):Int)∧s.il=true
 st:1≤p.st∧p.st≤3
 ty:1≤p.ty∧p.ty≤3
 mp:mOr pa s.w s.h=true
 mf:mOr fu s.w s.h=true
 mi:mOr fi s.w (s.h.tdiv 2)=true
 zp:p.ty≠1→pa.w≠0
 zf:p.ty=3→fu.w≠0
 zi:p.ty=2→b=true→fi.w≠0
theorem DecOk.of{s:Sq}{p:Pi}{pa fu fi:Fm}{b:Bool}(h:zeE s p pa fu fi b=0):∃ A B,DecOk s p pa fu fi b A B:=by
 unfold zeE at h;split at h
 ·rename_i hc;simp only[qA]at hc;obtain⟨hf,m1,m2,m3⟩:=hc;unfold zeA at hf;rw[qA]at hf;obtain⟨hv,hb⟩:=hf;obtain⟨A,B,a1,b1,ew,eh,er,e3,e4,st,ty⟩:=znP hv;split at h
  ·cases h
  rename_i hn;simp only[qK,qA,qN,decide_eq_true_eq,decide_eq_false_iff_not]at hn;refine⟨A,B,hv,fun e=> ?_,a1,b1,ew,eh,er,e3,e4,st,ty,m1,m2,m3,fun e1 e2=>hn (.inl ⟨e1,e2⟩),fun e1 e2=>hn (.inr (.inl ⟨e1,e2⟩)),fun e1 e2 e3=>hn (.inr (.inr ⟨e1,e2,e3⟩))⟩;rw[e]at hb;simpa using hb
 ·cases h
theorem DecOk.vc{s:Sq}{p:Pi}{pa fu fi:Fm}{b:Bool}{A B:Nat}(h:DecOk s p pa fu fi b A B):vcx (cxP s p b)=true:=by
 unfold vcx cxP;have:=h.st;have:=h.ty;simp only[qA,decide_eq_true_eq];refine⟨om,om,om,om,?_⟩;split
 ·rename_i h3;cases b with
  | false=>rfl
  | true=>exact absurd h3 (h.hb rfl)
 ·rename_i h3;exact(h.h4 h3).2
theorem zky{s:Sq}{p:Pi}{pa fu fi f:Fm}{b:Bool}{A B:Nat}(h:DecOk s p pa fu fi b A B)(hm:mOr f s.w s.h=true)(hz:f.w≠0){sel:Int}(hs:sel=0∨sel=1):(lastF f (!(fcx (cxP s p b))) sel).2=0∧Gok A B (lastF f (!(fcx (cxP s p b))) sel).1:=by
 obtain⟨g1,g2,g3⟩:=zjN hm hz;obtain⟨v1,v2⟩:=zmX h.hv g1 g2 g3;have ew:=h.w;by_cases h3:p.st=3
 ·have hf:fcx (cxP s p b)=false:=by unfold fcx cxP;simp[h3]
  unfold lastF;rw[hf,if_neg hz,v1,if_neg sp,if_pos (by rfl)];exact⟨rfl,(zks h.ra h.rb g1 om (by have:=h.h3 h3;omega):Gok A B f)⟩
 ·have hf:fcx (cxP s p b)=true:=by unfold fcx cxP;simp[h3]
  have e4:=(h.h4 h3).1;unfold lastF;rw[hf,if_neg hz,v1,if_neg (by simp[v2 h3]),if_neg sp];exact⟨rfl,zi1 h.ra h.rb v1 om om hs⟩
theorem zuf{s:Sq}{p:Pi}{pa fu fi:Fm}{b:Bool}{A B:Nat}(h:DecOk s p pa fu fi b A B){d sel:Int}(hd:(d=0∧p.ty≠1)∨(d=1∧p.ty=3))(hs:sel=0∨sel=1):(refS (cxP s p b) pa fu fi d sel).2=0∧Gok A B (refS (cxP s p b) pa fu fi d sel).1:=by
 have hbad:zkj (cxP s p b) d sel=false:=by
  unfold zkj;rw[h.vc];have h1:d=0∨d=1:=by rcases hd with h|h;exact .inl h.1;exact .inr h.1
  rcases h1 with rfl|rfl<;>rcases hs with rfl|rfl<;>simp
 unfold refS;rw[hbad,if_neg sp];unfold zdB;rcases hd with⟨rfl,ht⟩|⟨rfl,ht⟩
 ·rw[if_neg om];split
  ·rename_i hc;simp only[qA,decide_eq_true_eq]at hc;obtain⟨hb,ht2,_⟩:=hc;have hb':b=true:=hb;have hz:=h.zi ht2 hb';obtain⟨g1,g2,g3⟩:=zjN h.mi hz;have e4:=(h.h4 (h.hb hb')).1;have ew:=h.w;have gg:=zks h.ra h.rb g1 om (by rw[g3,zu _ _ om];omega);show(lastF fi true sel).2=0∧Gok A B (lastF fi true sel).1;unfold lastF;rw[if_neg hz,gg.fvd,if_neg sp,if_pos rfl];exact⟨rfl,gg⟩
  ·exact zky h h.mp (h.zp ht) hs
 ·rw[if_pos rfl];exact zky h h.mf (h.zf ht) hs
theorem zfh{s:Sq}{p:Pi}{pa fu fi:Fm}{b:Bool}{A B:Nat}(h:DecOk s p pa fu fi b A B){d:Int}(hd:(d=0∧p.ty≠1)∨(d=1∧p.ty=3)){fp:Bool}{va vb vc vd sa sb:Int}(hs:sa=0∨sa=1)(hv:vrg va vb=true)(hfp:fp=true→bcx (cxP s p b)=true){X Y:Nat}(hX:X<A)(hY:Y<B):
  (dirP (cxP s p b) fp va vb vc vd sa sb pa fu fi d (X:Int) (Y:Int)).2=0:=by
 obtain⟨e1,g⟩:=zuf h hd hs;unfold dirP;rw[if_neg (by rw[e1];simp)];generalize (refS (cxP s p b) pa fu fi d sa).1=f at g;cases fp with
 | true=>
  rw[if_pos rfl];have hb:=hfp rfl;unfold bcx cxP at hb;simp only[qA,decide_eq_true_eq]at hb;have h32:=zzo h.hv hb.1;have e3:=h.h3 hb.2;unfold fldS;rw[g.has hX hY,qH,if_pos (by rw[decide_eq_true_eq,g.h];omega)]
 | false=>rw[if_neg sp];have hfv:=g.fvd;unfold fvd at hfv;rw[qA]at hfv;unfold prdS;rw[hfv.1,qH,if_pos (by simp only[qA,decide_eq_true_eq];have:=g.w;have:=g.h;omega),hv,if_pos rfl]
theorem znL{s:Sq}{p:Pi}{pa fu fi:Fm}{b:Bool}{A B:Nat}(h:DecOk s p pa fu fi b A B){m:Mb}(hm:fmS (cxP s p b) m=true)(al:Bool){q:Int}(hq:1≤q∧q≤31){X Y:Nat}(hX:X<A)(hY:Y<B):
  (zg7 (cxP s p b) s.ia s.ie al q m pa fu fi (X:Int) (Y:Int)).2=0:=by
 have hmx:zcr s.ia=true∧zcr s.ie=true:=by have:=h.hv;unfold zP zcz at this;simp only[qA]at this;exact this.1.1.2.2.2.2
 have hq':qnB q=true:=by unfold qnB;simp[hq]
 have hpr:m.k≠1→(prS (cxP s p b) (if m.k=0 then stl (cxP s p b)else m) pa fu fi (X:Int) (Y:Int)).2=0:=fun hk=>by
  have key:∀ M:Mb,(M.ua=true→zcB (cxP s p b) M.fp true M.va M.vb M.vc M.vd M.sa M.sb=true∨(M.fp=false∧vrg M.va M.vb=true∧(M.sa=0∨M.sa=1)))→(M.ub=true→p.ty=3∧(zcB (cxP s p b) M.fp true M.ve M.vf M.vg M.vh M.sc M.sd=true∨(M.fp=false∧vrg M.ve M.vf=true∧(M.sc=0∨M.sc=1))))→(M.fp=true→bcx (cxP s p b)=true)→p.ty≠1→(M.ua=true∨M.ub=true)→(prS (cxP s p b) M pa fu fi (X:Int) (Y:Int)).2=0:=fun M h0 h1 hf ht hu=>by
   have r0:M.ua=true→(zij (cxP s p b) M pa fu fi (X:Int) (Y:Int)).2=0:=fun e=>by
    unfold zij;rcases h0 e with hh|⟨_,hv,hs⟩
    ·obtain⟨q1,_,q3⟩:=zj6 hh;exact zfh h (.inl ⟨rfl,ht⟩) q1 (q3 rfl).1 hf hX hY
    ·exact zfh h (.inl ⟨rfl,ht⟩) hs hv hf hX hY
   have r1:M.ub=true→(zgk (cxP s p b) M pa fu fi (X:Int) (Y:Int)).2=0:=fun e=>by
    unfold zgk;obtain⟨t3,hh⟩:=h1 e;rcases hh with hh|⟨_,hv,hs⟩
    ·obtain⟨q1,_,q3⟩:=zj6 hh;exact zfh h (.inr ⟨rfl,t3⟩) q1 (q3 rfl).1 hf hX hY
    ·exact zfh h (.inr ⟨rfl,t3⟩) hs hv hf hX hY
   unfold prS;cases ha:M.ua with
   | true=>
    rw[if_pos rfl,if_neg (by rw[r0 ha];simp)];cases hb:M.ub with
    | true=>rw[if_pos rfl,if_neg (by rw[r1 hb];simp)]
    | false=>rw[if_neg sp];exact r0 ha
   | false=>
    rw[if_neg sp];rcases hu with e|e
    ·rw[ha]at e;cases e
    ·exact r1 e
  by_cases h0:m.k=0
  ·rw[if_pos h0];have ht:p.ty≠1:=by unfold fmS at hm;rw[qA,if_pos h0,qA]at hm;have:=hm.2.1;unfold cxP at this;simpa using this
   have hp:pcx (cxP s p b)=0∨pcx (cxP s p b)=1:=by unfold pcx;split<;>simp
   exact key (stl (cxP s p b)) (fun _=>.inr ⟨rfl,(show vrg 0 0=true by decide),hp⟩) (fun e=>by
    have e3:p.ty=3:=by have:decide ((cxP s p b).t=3)=true:=e;exact of_decide_eq_true this
    refine⟨e3,.inr ⟨rfl,(show vrg 0 0=true by decide),?_⟩⟩;show(if(cxP s p b).t=3 then pcx (cxP s p b)else 0)=0∨(if(cxP s p b).t=3 then pcx (cxP s p b)else 0)=1;split
    ·exact hp
    ·exact .inl rfl) (fun e=>by cases e) ht (.inl rfl)
  ·rw[if_neg h0];have hk2:m.k=2:=by rcases zx7 hm with h|h|h<;>omega
   have hh:=hm;unfold fmS at hh;rw[qA,if_neg om,if_neg om,if_pos hk2]at hh;have h2:=hh.2;unfold zjS at h2;simp only[qA,qN,qS]at h2;obtain⟨⟨ht,hu⟩,⟨hfp,_⟩,d0,d1,_⟩:=h2;have ht1:p.ty≠1:=by unfold cxP at ht;simpa using ht
   refine key m (fun e=> ?_) (fun e=>⟨?_,?_⟩) (fun e=> ?_) ht1 ?_
   ·unfold d0S at d0;rw[e]at d0;exact .inl d0
   ·unfold zgO at hu;simp only[qS,Bool.and_eq_false_iff,decide_eq_false_iff_not]at hu;have h2':p.ty≠2:=by
     rcases hu.1 with h|h
     ·exact h
     ·rw[e]at h;simp at h
    have:=h.ty;omega
   ·unfold d1S at d1;rw[e]at d1;exact .inl d1
   ·rw[e]at hfp;simpa using hfp
   ·unfold zgO at hu;simp only[qS]at hu;have:=hu.2;cases ha:m.ua<;>cases hb:m.ub<;>simp_all
 unfold zg7;rw[if_pos (by rw[hm,hmx.1,hmx.2,hq'];rfl)];by_cases hk:m.k=1
 ·rw[if_pos hk]
 ·rw[if_neg hk,if_neg (by rw[hpr hk];simp)]
theorem zhm(d:TypeDesc)(k a v:PV):∀(xs:List PV) (i:Nat),zbx d k (xs++[.tup [a,v]]) i=match zbx d k xs i with
  | some (some r)=>some (some r)
  | some none=>(match zce d k a with|some true=>some (some (i+xs.length,v))|some false=>some none|none=>none)
  | none=>none
 | [],i=>by
  simp only[List.nil_append,zbx,List.length_nil,Nat.add_zero];cases zce d k a with
  | none=>rfl
  | some t=>cases t<;>rfl
 | x::r,i=>by
  rw[List.cons_append];have ih:=zhm d k a v r (i+1)
  match x with
  | .tup [b,u]=>
   simp only[zbx];cases zce d k b with
   | none=>rfl
   | some t=>
    cases t with
    | true=>rfl
    | false=>
     dsimp only;rw[ih,show i+1+r.length=i+(.tup [b,u]::r:List PV).length by simp;omega]
  | .tup []=>rfl
  | .tup [_]=>rfl
  | .tup (_::_::_::_)=>rfl
  | .int _ _=>rfl
  | .bool _=>rfl
  | .str _=>rfl
  | .nilp=>rfl
  | .nl _=>rfl
  | .undef=>rfl
  | .ptr _ _ _=>rfl
  | .ip _ _=>rfl
  | .slice _ _ _=>rfl
  | .msl _ _ _ _ _ _=>rfl
  | .mp _ _=>rfl
  | .agg _=>rfl
  | .func _ _ _=>rfl
  | .yl _ _ _=>rfl
  | .lp _ _=>rfl
theorem zpT:zrT Tryz.prog 3=some (.int .i64 0):=kr
def zjk:Nat→List PV
 | 0=>[]
 | i+1=>zjk i++[.tup [.int .i64 (1+(i:Int)),.int .i64 (i:Int)]]
theorem zfB(t:Int):∀ r:Nat,((1≤t∧t<1+(r:Int))→∃ p,zbx (.int .i64) (.int .i64 t) (zjk r) 0=some (some (p,.int .i64 (t - 1))))∧(¬(1≤t∧t<1+(r:Int))→zbx (.int .i64) (.int .i64 t) (zjk r) 0=some none)
 | 0=>⟨fun h=>om,fun _=>rfl⟩
 | r+1=>by
  obtain⟨ih1,ih2⟩:=zfB t r;rw[zjk,zhm];by_cases h:1≤t∧t<1+(r:Int)
  ·obtain⟨p,hp⟩:=ih1 h;rw[hp];exact⟨fun _=>⟨p,rfl⟩,fun h2=>om⟩
  ·rw[ih2 h];by_cases h2:t=1+(r:Int)
   ·have:zce (.int .i64) (.int .i64 t) (.int .i64 (1+(r:Int)))=some true:=by simp[zce,h2]
    rw[this];refine⟨fun _=>⟨0+(zjk r).length,?_⟩,fun h3=>om⟩;dsimp only;rw[show t - 1=(r:Int)from om]
   ·have:zce (.int .i64) (.int .i64 t) (.int .i64 (1+(r:Int)))=some false:=by simp[zce,h2]
    rw[this];exact⟨fun h3=>om,fun _=>rfl⟩
def mpB(r:Nat):Blk:=⟨134,0,zjk r⟩
set_option maxHeartbeats 2000000 in
theorem zxk(r:Nat)(H:za)(hr:r≤1000):CallOk Tryz.prog 67 [.int .i64 (r:Int)] H (.mp H.length 0) (H++[mpB r]):=by
 refine CallOk.go Tryz.func67 Tryz.ntmps67 Tryz.results67 ?_;refine PW.e ?_;refine PW.e ?_;refine PW.e ?_;refine PW.l ?_;suffices hl1:∀ j:Nat,j≤r→PL Tryz.prog _ _ [(3,.mp H.length 0),(6,.int .i64 (r:Int)),(7,.int .i64 (j:Int))] (H++[⟨134,0,zjk j⟩]) _ by exact PL.at [3,6,7] (hl1 0 om) rfl rfl
 intro j hj;induction hd:r - j using qZ generalizing j with
 | _ d ih=>
  refine PL.round ?_;refine PW.e ?_;refine PW.c (fun h=> ?_) (fun h=> ?_)
  ·have hjr:j<r:=ot h;have hp:=(zfB (1+(j:Int)) j).2 om;refine PW.skip ?_;refine PW.b ?_;refine PW.e ?_;refine PW.f (fun K k=>by simp(disch:=omega) only[go_sem,↓reduceIte,reduceCtorEq,hp,zb6,zab,zbv];exact k) ?_;refine PW.e ?_;exact PL.at [3,6,7] (ih (r - (j+1)) om (j+1) om rfl) rfl rfl
  ·have hjr:j=r:=ofF h;subst hjr;refine PW.exit ?_;refine PW.e ?_;refine PW.v (.mp H.length 0) ?_;exact Fin.now
def fnu:List (Int×List UInt8)→Nat→Option (Int×List UInt8)
 | [],_=>none
 | u::r,k=>if u.1=1+(k:Int)then some u else fnu r k
theorem zol:∀{us:List (Int×List UInt8)} {k:Nat} {u:Int×List UInt8},fnu us k=some u→u∈us∧u.1=1+(k:Int)
 | x::r,k,u,h=>by
  unfold fnu at h;split at h
  ·injection h with h;rw[←h];exact⟨qI ..,by assumption⟩
  ·have:=zol h;exact⟨qJ _ this.1,this.2⟩
theorem zsF(us:List (Int×List UInt8))(j k:Nat)(hj:j<us.length):fnu (us.drop j) k=if us[j].1=1+(k:Int)then some us[j]else fnu (us.drop (j+1)) k:=by rw[jA hj];rfl
def cuV:Option (Int×List UInt8)→PV
 | none=>.tup [.agg [.int .i64 0,.slice [] 0 true],.bool false]
 | some u=>.tup [.agg [.int .i64 u.1,.slice (bs u.2) u.2.length false],.bool true]
theorem zs2(n:Nat):∀ o,Scoped n (cuV o)
 | none=>.tup (zaE fun x hx=>by
   simp only[qC,qB,or_false]at hx;rcases hx with rfl|rfl
   ·exact .agg (zaE fun x hx=>by
     simp only[qC,qB,or_false]at hx;rcases hx with rfl|rfl
     ·exact .int _ _
     ·exact zj (fun x hx=>by cases hx))
   ·exact .bool _)
 | some u=>.tup (zaE fun x hx=>by
   simp only[qC,qB,or_false]at hx;rcases hx with rfl|rfl
   ·exact .agg (zaE fun x hx=>by
     simp only[qC,qB,or_false]at hx;rcases hx with rfl|rfl
     ·exact .int _ _
     ·exact zj (zn _ _))
   ·exact .bool _)
set_option maxHeartbeats 4000000 in
theorem zs4(p:Pi)(U:List (List UInt8))(us:List (Int×List UInt8))(i r k:Nat)(H:za)(hi:H[i]? =some (mpB r))(hk:k<r)(hu:us.length≤1000000):
  CallOk Tryz.prog 68 [.agg (cdc p U us),.mp i 0,.int .i64 (k:Int)] H (cuV (fnu us k)) H:=by
 have h1:=zfk p U us;have h7:=zta p U us;have h8:=zfj p U us;have ul:=zi4 us;have il:=(qL.1 hi).1;unfold mpB at hi;have gi:∀ K,(H++K)[i]? =some ⟨134,0,zjk r⟩:=fun K=>by rw[qM il];exact hi
 have hsc:HSc H→HSc (H++[⟨39,0,cdc p U us⟩,⟨58,0,[.int .i64 0,.slice [] 0 true]⟩]):=zey (fun b hb x hx=>by
  simp only[qC,qB,or_false]at hb;rcases hb with rfl|rfl
  ·exact zf0 _ _ _ _ x hx
  ·simp only[qC,qB,or_false]at hx;rcases hx with rfl|rfl
   ·exact .int _ _
   ·exact zj (fun x hx=>by cases hx))
 have fz:∀(j:Nat) (F:Fr) (K:za),slot F 1= .mp i 0→slot F 2= .int .i64 (k:Int)→slot F 6= .ptr (H.length+1) 0 0→slot F 13= .slice (uq us) us.length false→slot F 14= .int .i64 (us.length:Int)→slot F 15= .int .i64 (j:Int)→FzF (H++[⟨39,0,cdc p U us⟩,⟨58,0,[.int .i64 0,.slice [] 0 true]⟩]:za).length K F [(1,.mp i 0),(2,.int .i64 (k:Int)),(6,.ptr (H.length+1) 0 0),(13,.slice (uq us) us.length false),(14,.int .i64 (us.length:Int)),(15,.int .i64 (j:Int))]:=fun j F K q1 q2 q3 q4 q5 q6=>by
  refine⟨?_,?_,?_,?_,?_,?_,trivial⟩
  ·rw[q1];exact .id (.mp (by simp;omega))
  ·rw[q2];exact .id (.int _ _)
  ·rw[q3];exact .id (.ptr sp)
  ·rw[q4];exact .id (zj (znp _ _))
  ·rw[q5];exact .id (.int _ _)
  ·rw[q6];exact .id (.int _ _)
 refine CallOk.go Tryz.func68 Tryz.ntmps68 Tryz.results68 ?_;refine PW.g h1 ?_;refine PW.g (nq2 h7 h8) ?_;refine PW.l ?_;suffices hl1:∀ j:Nat,j≤us.length→fnu (us.drop j) k=fnu us k→PL Tryz.prog _ _ [(1,.mp i 0),(2,.int .i64 (k:Int)),(6,.ptr (H.length+1) 0 0),(13,.slice (uq us) us.length false),(14,.int .i64 (us.length:Int)),(15,.int .i64 (j:Int))] (H++[⟨39,0,cdc p U us⟩,⟨58,0,[.int .i64 0,.slice [] 0 true]⟩]) _ by exact PL.at [1,2,6,13,14,15] (hl1 0 om rfl) rfl rfl
 intro j hj hf;induction hd:us.length - j using qZ generalizing j with
 | _ d ih=>
  refine PL.round ?_;refine PW.e ?_;refine PW.c (fun h=> ?_) (fun h=> ?_)
  ·have hjr:j<us.length:=ot h;have ua:=zp8 us j hjr;rw[zsF us j k hjr]at hf;generalize us[j]=u at *;obtain⟨t,q⟩:=u;simp only[uq1]at ua;dsimp only at hf;refine PW.skip ?_;refine PW.b ?_;refine PW.g (nq2 ua ul) ?_;obtain⟨m1,m2⟩:=zfB t r;have done:∀ F,slot F 6= .ptr (H.length+1) 0 0→True:=fun _ _=>trivial;by_cases hin:1≤t∧t<1+(r:Int)
   ·obtain⟨pp,hp⟩:=m1 hin;refine PW.f (fun K k=>by simp(disch:=omega) only[go_sem,↓reduceIte,reduceCtorEq,gi,hp,zdm,zab,zbv,zpT];exact k) ?_;by_cases htk:t=1+(k:Int)
    ·have d1:(t - 1==(k:Int))=true:=by rw[beq_iff_eq];omega
     rw[if_pos htk]at hf;refine PW.g d1 ?_;refine PW.t ?_;refine PW.e ?_;refine PW.ret ⟨cuV (some (t,q)),by simp(disch:=omega) only[go_sem,↓reduceIte,reduceCtorEq,zx,zK,List.mapM_cons,List.mapM_nil,Option.pure_def,jC,Option.bind_some,Array.toList,cuV],?_⟩;rw[←hf];exact Fin.base (.id (zs2 _ _))
    ·have d1:(t - 1==(k:Int))=false:=by rw[beq_eq_false_iff_ne];omega
     rw[if_neg htk]at hf;refine PW.g d1 ?_;refine PW.us ?_;refine PW.e ?_;exact PL.view (Vs.trim (F1:=[(1,.mp i 0),(2,.int .i64 (k:Int)),(6,.ptr (H.length+1) 0 0),(13,.slice (uq us) us.length false),(14,.int .i64 (us.length:Int)),(15,.int .i64 ((j+1:Nat):Int))]) (H1:=H++[⟨39,0,cdc p U us⟩,⟨58,0,[.int .i64 0,.slice [] 0 true]⟩]) hsc sp (qV _ [_,_] [_]).symm (fz (j+1) _ _ rfl rfl rfl rfl rfl rfl)) (ih (us.length - (j+1)) om (j+1) om hf rfl)
   ·have hp:=m2 hin;rw[if_neg om]at hf;refine PW.f (fun K k=>by simp(disch:=omega) only[go_sem,↓reduceIte,reduceCtorEq,gi,hp,zdm,zab,zbv,zpT];exact k) ?_;refine PW.e ?_;refine PW.us ?_;refine PW.e ?_;exact PL.view (Vs.trim (F1:=[(1,.mp i 0),(2,.int .i64 (k:Int)),(6,.ptr (H.length+1) 0 0),(13,.slice (uq us) us.length false),(14,.int .i64 (us.length:Int)),(15,.int .i64 ((j+1:Nat):Int))]) (H1:=H++[⟨39,0,cdc p U us⟩,⟨58,0,[.int .i64 0,.slice [] 0 true]⟩]) hsc sp (qV _ [_,_] [_]).symm (fz (j+1) _ _ rfl rfl rfl rfl rfl rfl)) (ih (us.length - (j+1)) om (j+1) om hf rfl)
  ·have hjr:j=us.length:=ofF h;subst hjr;rw[List.drop_length]at hf;refine PW.exit ?_;refine PW.e ?_;refine PW.ret ⟨cuV none,by simp(disch:=omega) only[go_sem,↓reduceIte,reduceCtorEq,zx,zK,List.mapM_cons,List.mapM_nil,Option.pure_def,jC,Option.bind_some,Array.toList,cuV],?_⟩;rw[←hf];exact Fin.base (.id (zs2 _ _))
theorem zv5{s:Sq}{p:Pi}{b:Bool}{t:Int}{q:List UInt8}{v:Nat}{l:List Mb}{a1:Nat}(h:slT s p b t q= .ok (v,l) a1):l.length≤4∧(∀ x∈l,x.lv.length=384)∧∀ x∈zmf (v:Int) l,1≤x∧x≤31:=by
 unfold slT at h;split at h
 ·rename_i hc;rw[qA]at hc;have hw:wmb s≤4:=by
   have hv:zP s p=true:=by have:=hc.1;unfold zeA at this;rw[qA]at this;exact this.1
   have:=zbg hv;have e:=Int.tdiv_eq_ediv_of_nonneg (a:=s.w) (b:=16) om;unfold wmb;omega
  split at h
  ·cases h
  rename_i hb;split at h
  ·cases h
  rename_i h5;split at h
  ·cases h
  obtain⟨z,a2,h1,h⟩:=Rr.bind_okE h;split at h
  ·injection h with h _;injection h with h3 h4;subst h3 h4;obtain⟨e1,e2⟩:=zg1 _ _ _ h1;exact⟨om,zqK _ _ _ h1 om,e2⟩
  ·cases h
 ·cases h
theorem znI(n:Nat):∀ r,∀ x∈zjk r,Scoped n x
 | 0=>fun x hx=>by cases hx
 | r+1=>fun x hx=>by
  rcases qW.1 hx with hx|hx
  ·exact znI n r x hx
  ·rw[List.mem_singleton]at hx;rw[hx];exact .tup (zaE fun x hx=>by
    simp only[qC,qB,or_false]at hx;rcases hx with rfl|rfl
    ·exact .int _ _
    ·exact .int _ _)
theorem zqL{c:Cx}{q:List UInt8}{n:Nat}(hv:vcx c=true):∀(r:Nat) (s:St) (a:Nat) {z:List Mb×St} {a1:Nat},slL c q n r s a= .ok z a1→∀ m∈z.1,fmS c m=true
 | 0,s,a,z,a1,h=>by
  rw[slL]at h;injection h with h _;rw[←h];intro m hm;cases hm
 | r+1,s,a,z,a1,h=>by
  rw[slL]at h;obtain⟨y,a2,h1,h⟩:=Rr.bind_okE h;obtain⟨z2,a3,h2,h⟩:=Rr.bind_okE h;injection h with h _;rw[←h];intro m hm;rcases qC.1 hm with rfl|hm
  ·unfold zig at h1;split at h1
   ·rename_i hc;rw[qA]at hc;exact zxu hv (znm hc.2).1 h1
   ·cases h1
  ·exact zqL hv r _ _ h2 m hm
theorem zqJ{s:Sq}{p:Pi}{b:Bool}{t:Int}{q:List UInt8}{v:Nat}{l:List Mb}{a1:Nat}(hv:vcx (cxP s p b)=true)(h:slT s p b t q= .ok (v,l) a1):l.length=wmb s∧∀ m∈l,fmS (cxP s p b) m=true:=by
 unfold slT at h;split at h
 ·split at h
  ·cases h
  split at h
  ·cases h
  split at h
  ·cases h
  obtain⟨z,a2,h1,h⟩:=Rr.bind_okE h;split at h
  ·injection h with h _;injection h with h3 h4;subst h4;exact⟨(zg1 _ _ _ h1).1,zqL hv _ _ _ h1⟩
  ·cases h
 ·cases h
def rwF(s:Sq)(p:Pi)(b:Bool)(pa fu fi:Fm)(A k:Nat):List Mb→Int→Nat→Fm→Fm
 | [],_,_,g=>g
 | m::r,q,X,g=>rwF s p b pa fu fi A k r (q+m.dl) (X+1) (smF A X k g (zg7 (cxP s p b) s.ia s.ie p.al (q+m.dl) m pa fu fi (X:Int) (k:Int)).1)
def zpa(s:Sq)(p:Pi)(b:Bool)(us:List (Int×List UInt8))(pa fu fi:Fm)(A k:Nat)(g:Fm):Fm×Bool:=
 match fnu us k with
 | none=>(g,false)
 | some u=>match slT s p b u.1 u.2 with
  | .ok x _=>(rwF s p b pa fu fi A k x.2 (x.1:Int) 0 g,true)
  | .er _ _=>(g,false)
def zbE(s:Sq)(p:Pi)(b:Bool)(us:List (Int×List UInt8))(pa fu fi:Fm)(A:Nat)(g:Fm):Nat→Fm×List Bool
 | 0=>(g,[])
 | k+1=>((zpa s p b us pa fu fi A k (zbE s p b us pa fu fi A g k).1).1,(zbE s p b us pa fu fi A g k).2++[(zpa s p b us pa fu fi A k (zbE s p b us pa fu fi A g k).1).2])
theorem zdZ(s:Sq)(p:Pi)(b:Bool)(us:List (Int×List UInt8))(pa fu fi:Fm)(A:Nat)(g:Fm):∀ k,(zbE s p b us pa fu fi A g k).2.length=k
 | 0=>rfl
 | k+1=>by rw[zbE,List.length_append,zdZ s p b us pa fu fi A g k];rfl
theorem zkc{s:Sq}{p:Pi}{pa fu fi:Fm}{b:Bool}{A B:Nat}(h:DecOk s p pa fu fi b A B):Gok A B (zlN s p pa):=by
 have ew:=h.w;have eg:=h.g;unfold zlN;by_cases hz:pa.w=0
 ·rw[if_pos hz,ew,eg,show(((16 * A:Nat):Int) / 16).toNat=A from om,show(((16 * B:Nat):Int) / 16).toNat=B from om];exact⟨rfl,rfl,h.ra,h.rb,by simp[flt],by simp[flt],by simp[flt]⟩
 ·rw[if_neg hz];obtain⟨g1,g2,g3⟩:=zjN h.mp hz;obtain⟨v1,v2⟩:=zmX h.hv g1 g2 g3;by_cases h3:p.st=3
  ·rw[if_pos h3];exact zks h.ra h.rb g1 om (by have:=h.h3 h3;omega)
  ·rw[if_neg h3];have:=(h.h4 h3).1;have:=h.st;exact zi1 h.ra h.rb v1 om om om
theorem znF{s:Sq}{p:Pi}{pa fu fi:Fm}{b:Bool}{A B k:Nat}(h:DecOk s p pa fu fi b A B)(hk:k<B):∀(l:List Mb) (q:Int) (X:Nat) (g:Fm),Gok A B g→X+l.length≤A→(∀ m∈l,fmS (cxP s p b) m=true)→(∀ x∈zmf q l,1≤x∧x≤31)→Gok A B (rwF s p b pa fu fi A k l q X g)
 | [],_,_,g,hg,_,_,_=>hg
 | m::r,q,X,g,hg,hX,hf,hq=>by rw[rwF];rw[List.length_cons]at hX;have e:=znL h (hf m (qI ..)) p.al (hq (q+m.dl) (qI ..)) (X:=X) (Y:=k) om hk;exact znF h hk r _ _ _ (zqI hg (znM e) om hk) om (fun m hm=>hf m (qJ _ hm)) (fun x hx=>hq x (qJ _ hx))
theorem zvT{s:Sq}{p:Pi}{pa fu fi:Fm}{b:Bool}{A B:Nat}(h:DecOk s p pa fu fi b A B):wmb s=A:=by unfold wmb;rw[h.w,zu _ _ om];omega
theorem zq9{s:Sq}{p:Pi}{pa fu fi:Fm}{b:Bool}{A B k:Nat}(h:DecOk s p pa fu fi b A B)(hk:k<B)(us:List (Int×List UInt8)){g:Fm}(hg:Gok A B g):Gok A B (zpa s p b us pa fu fi A k g).1:=by
 unfold zpa;split
 ·exact hg
 ·split
  ·rename_i x a1 hs;obtain⟨v,l⟩:=x;obtain⟨e1,e2⟩:=zqJ h.vc hs;exact znF h hk l _ 0 g hg (by rw[e1,zvT h];omega) e2 (zv5 hs).2.2
  ·exact hg
theorem zd0{s:Sq}{p:Pi}{pa fu fi:Fm}{b:Bool}{A B:Nat}(h:DecOk s p pa fu fi b A B)(us:List (Int×List UInt8)){g:Fm}(hg:Gok A B g):∀ k,k≤B→Gok A B (zbE s p b us pa fu fi A g k).1
 | 0,_=>hg
 | k+1,hk=>zq9 h om us (zd0 h us hg k om)
def flR(B:Nat)(l:List Bool):List PV:=(l++qR (B - l.length) false).map PV.bool
theorem zoo{B:Nat}{l:List Bool}(h:l.length≤B):(flR B l).length=B:=by simp[flR];omega
theorem zvh{B k:Nat}{l:List Bool}(h:l.length=k)(hk:k<B):(flR B l).set k (.bool true)=flR B (l++[true]):=by unfold flR;subst h;rw[show B - l.length=(B - (l++[true]).length)+1 by simp;omega,qT,qX,qX,qX,List.set_append_right _ _ sp];simp
theorem zx8{B k:Nat}{l:List Bool}(h:l.length=k)(hk:k<B):flR B l=flR B (l++[false]):=by unfold flR;subst h;rw[show B - l.length=(B - (l++[false]).length)+1 by simp;omega,qT];simp
theorem zzV(B:Nat):flR B []=qR B (.bool false):=by simp[flR]
theorem zvi{B:Nat}{l:List Bool}(h:l.length=B):flR B l=l.map PV.bool:=by simp[flR,h]
theorem zsL(B:Nat)(l:List Bool)(n:Nat):∀ x∈flR B l,Scoped n x:=fun x hx=>by obtain⟨y,_,rfl⟩:=List.mem_map.1 hx;exact .bool _
def dgH(H:za)(s:Sq)(p:Pi)(U:List (List UInt8))(us:List (Int×List UInt8))(pa fu fi g:Fm)(r:Nat)(l:List Bool):za:=H++[⟨29,0,sqc s⟩,⟨39,0,cdc p U us⟩,⟨84,0,fmc pa++(fmc fu++fmc fi)⟩,⟨33,0,[.int .i64 0,.int .i64 0,.slice [] 0 true,.slice [] 0 true,.slice [] 0 true]⟩,⟨33,0,fmc g⟩,⟨4,0,flR r l⟩,mpB r]
theorem zog(H:za)(s:Sq)(p:Pi)(U:List (List UInt8))(us:List (Int×List UInt8))(pa fu fi g:Fm)(r:Nat)(l:List Bool)(h:HSc H):HSc (dgH H s p U us pa fu fi g r l):=zey (fun b hb x hx=>by
 simp only[qC,qB,or_false]at hb;rcases hb with rfl|rfl|rfl|rfl|rfl|rfl|rfl
 ·exact zbm _ _ x hx
 ·exact zf0 _ _ _ _ x hx
 ·rcases qW.1 hx with hx|hx
  ·exact zbo _ _ _ _ _ _ _ _ _ _ _ _ x hx
  ·rcases qW.1 hx with hx|hx
   ·exact zbo _ _ _ _ _ _ _ _ _ _ _ _ x hx
   ·exact zbo _ _ _ _ _ _ _ _ _ _ _ _ x hx
 ·exact zbo _ 0 0 [] [] [] _ _ _ _ _ _ x hx
 ·exact zbo _ _ _ _ _ _ _ _ _ _ _ _ x hx
 ·exact zsL _ _ _ x hx
 ·exact znI _ _ x hx) h
def za9(s:Sq)(p:Pi)(us:List (Int×List UInt8))(pa fu fi:Fm)(b:Bool):(Fm×List Bool)×Int:=if zeE s p pa fu fi b=0 then(zbE s p b us pa fu fi (s.w / 16).toNat (zlN s p pa) (zaQ s p).toNat,0)else((f0,[]),zeE s p pa fu fi b)
def zfi(r:(Fm×List Bool)×Int):PV:=if r.2=0 then .tup [.agg (fmc r.1.1),.slice (r.1.2.map PV.bool) r.1.2.length false,.int .i64 0]else .tup [.agg [.int .i64 0,.int .i64 0,.slice [] 0 true,.slice [] 0 true,.slice [] 0 true],.slice [] 0 true,.int .i64 r.2]
set_option maxHeartbeats 16000000 in
set_option maxRecDepth 100000 in
theorem zfU(s:Sq)(p:Pi)(U:List (List UInt8))(us:List (Int×List UInt8))(pa fu fi:Fm)(b:Bool)(hs:SqOk s)(hu:us.length≤1000000)(hul:∀ u∈us,zih u.1∧u.2.length≤100000000)(H:za):
  CallOk Tryz.prog 33 [.agg (sqc s),.agg (cdc p U us),.agg (fmc pa++(fmc fu++fmc fi)),.bool b] H (zfi (za9 s p us pa fu fi b)) H:=by
 have h1:=zbt s;have h2:=zbK s hs;have h3:=zdy s hs;have c1:=zfk p U us;have c2:=zfj p U us;have c3:=zz5 p U us;have c4:=zz4 p U us;have c5:(cdc p U us)[5]? =some (.bool p.al):=rfl;have rl:(fmc pa++(fmc fu++fmc fi)).length=15:=rfl;have rc:(fmc pa++(fmc fu++fmc fi)).all PV.cell=true:=rfl;have rt:qF 15 (fmc pa++(fmc fu++fmc fi))=fmc pa++(fmc fu++fmc fi):=rfl;have r0:qF 5 (fmc pa++(fmc fu++fmc fi))=fmc pa:=rfl;have F5:∀ g:Fm,(fmc g).all PV.cell=true:=fun _=>rfl;have F7:∀ g:Fm,(fmc g).length=5:=fun _=>rfl;have F8:∀ g:Fm,qF 5 (fmc g)=fmc g:=fun _=>rfl;have F9:∀ g:Fm,qP 5 (fmc g)=[]:=fun _=>rfl;have z9:qP 5 [PV.int .i64 0,PV.int .i64 0,PV.slice [] 0 true,PV.slice [] 0 true,PV.slice [] 0 true]=[]:=rfl;have de:=fun K=>zyi s p pa fu fi b hs K;have h0:zeE s p pa fu fi b=0→∃ A B,DecOk s p pa fu fi b A B:=DecOk.of;unfold za9;generalize zeE s p pa fu fi b=e at de h0 ⊢;refine CallOk.go Tryz.func33 Tryz.ntmps33 Tryz.results33 ?_;refine PW.g (nq2 h1 (nq2 c1 rc)) ?_;(repeat refine PW.seq ?_);refine PW.scope ?_;refine PW.m (nq2 h2 (nq2 h3 (nq2 c2 (nq2 c3 (nq2 rl rt))))) de ?_;refine PW.e ?_;refine PW.c (fun h=> ?_) (fun h=> ?_)
 ·have he:e≠0:=by simpa using h
  rw[if_neg he];unfold zfi;rw[if_neg (by exact he)];refine PW.e ?_;refine PW.v (.tup [.agg [.int .i64 0,.int .i64 0,.slice [] 0 true,.slice [] 0 true,.slice [] 0 true],.slice [] 0 true,.int .i64 e]) ?_;exact Fin.base (.id (.tup (asc fun x hx=>by
   simp only[qC,qB,or_false]at hx;rcases hx with rfl|rfl|rfl
   ·exact zw (zbo _ 0 0 [] [] [] _ _ _ _ _ _)
   ·exact zj (fun x hx=>by cases hx)
   ·exact .int _ _)))
 have he:e=0:=by simpa using h
 subst he;rw[if_pos rfl];obtain⟨A,B,hd⟩:=h0 rfl;refine PW.skip ?_;have co:=fun K=>zyk s p pa hs hd.hv hd.mp K;have hcg:=zkc hd;have ro:=fun K=>zhf s p K hs;have er:=hd.r;have eA:(s.w / 16).toNat=A:=by rw[hd.w];omega
 rw[er]at ro ⊢;rw[eA,Int.toNat_natCast];generalize zlN s p pa=g0 at co hcg ⊢;have hB:=hd.rb;have rb:=fun K=>zxk B K om;have zb:(qR B [PV.bool false]).flatten=flR B []:=by
  rw[zzV];clear hd er ro rb hB hcg;induction B with
  | zero=>rfl
  | succ n ih=>simp[qT]
 refine PW.m (nq2 h2 (nq2 h3 (nq2 c2 (nq2 c3 (nq2 rl (nq2 r0 (nq2 F5 F7))))))) co ?_;refine PW.e ?_;refine PW.us ?_;refine PW.m (nq2 h2 (nq2 h3 (nq2 c2 c3))) ro ?_;refine PW.k rb ?_;rw[zb];refine PW.seq ?_;refine PW.label ?_;refine PW.e ?_;refine PW.l ?_;suffices hl1:∀ k:Nat,k≤B→PL Tryz.prog _ _ [(3,.bool b),(4,.ptr H.length 0 0),(5,.ptr (H.length+1) 0 0),(6,.ptr (H.length+2) 0 0),(8,.ptr (H.length+3) 0 0),(12,.ptr (H.length+4) 0 0),(14,.msl (H.length+5) 0 0 B 1 true),(15,.mp (H.length+6) 0),(59,.int .i64 (B:Int)),(60,.int .i64 (k:Int))] (dgH H s p U us pa fu fi (zbE s p b us pa fu fi A g0 k).1 B (zbE s p b us pa fu fi A g0 k).2) _ by exact PL.at [3,4,5,6,8,12,14,15,59,60] (hl1 0 om) rfl rfl
 clear ro rb co de;refine cnt B (fun k hk ih=> ?_) ?_
 ·have ct:=zcA hk;have hgk:=zd0 hd us hcg k om;have hlk:=zdZ s p b us pa fu fi A g0 k;rw[zbE]at ih;generalize zbE s p b us pa fu fi A g0 k=R at ih hgk hlk ⊢;obtain⟨g,fl⟩:=R;simp only at ih hgk hlk ⊢;have hlB:=zoo (B:=B) (l:=fl) om;have cu:=fun(K:za) (hK:K[H.length+6]? =some (mpB B))=>zs4 p U us (H.length+6) B k K hK hk hu;have vb:∀(g':Fm) (fl':List Bool) (K:za),Vs { N:=134,H0:=H } [(3,.bool b),(4,.ptr H.length 0 0),(5,.ptr (H.length+1) 0 0),(6,.ptr (H.length+2) 0 0),(8,.ptr (H.length+3) 0 0),(12,.ptr (H.length+4) 0 0),(14,.msl (H.length+5) 0 0 B 1 true),(15,.mp (H.length+6) 0),(59,.int .i64 (B:Int)),(60,.int .i64 ((k+1:Nat):Int))] (dgH H s p U us pa fu fi g' B fl'++K) [(3,.bool b),(4,.ptr H.length 0 0),(5,.ptr (H.length+1) 0 0),(6,.ptr (H.length+2) 0 0),(8,.ptr (H.length+3) 0 0),(12,.ptr (H.length+4) 0 0),(14,.msl (H.length+5) 0 0 B 1 true),(15,.mp (H.length+6) 0),(59,.int .i64 (B:Int)),(60,.int .i64 ((k+1:Nat):Int))] (dgH H s p U us pa fu fi g' B fl'):=fun g' fl' K=>by
   refine Vs.trim (zog H s p U us pa fu fi g' B fl') (by simp[dgH]) rfl ?_;have hl:(dgH H s p U us pa fu fi g' B fl').length=H.length+7:=by simp[dgH]
   rw[hl];exact⟨.id (.bool _),.id (.ptr om),.id (.ptr om),.id (.ptr om),.id (.ptr om),.id (.ptr om),.id (.msl om),.id (.mp om),.id (.int _ _),.id (.int _ _),trivial⟩
  refine PL.round ?_;refine PW.g ct ?_;refine PW.t ?_;refine PW.skip ?_;refine PW.b ?_;refine PW.e ?_;(repeat refine PW.seq ?_);refine PW.rg rfl fun K hK=> ?_;simp(maxSteps:=3000000) (disch:=omega) only[go_sem,↓reduceIte,reduceCtorEq,dgH,c2,c4];refine VCx.call (cu _ (apn _ _ 6)) rfl ?_;unfold zpa at ih;have hno:dgH H s p U us pa fu fi g B (fl++[false])=dgH H s p U us pa fu fi g B fl:=by unfold dgH;rw[←zx8 hlk hk]
  cases hfn:fnu us k with
  | none=>
   rw[hfn]at ih;simp only at ih;simp(maxSteps:=3000000) (disch:=omega) only[go_sem,↓reduceIte,reduceCtorEq,cuV,dgH,c2,c4];refine hK _ _ ?_;clear hK K;refine PW.e ?_;refine PW.t ?_;refine PW.exit ?_;refine PW.e ?_;exact PL.at [3,4,5,6,8,12,14,15,59,60] (PL.view (vb g fl [⟨58,0,[.int .i64 0,.slice [] 0 true]⟩]) (by rw[←hno];exact ih)) rfl (by unfold dgH;simp)
  | some u=>
   obtain⟨t,q⟩:=u;obtain⟨hmem,_⟩:=zol hfn;have hq:=hul _ hmem;have so:=fun K=>zkO s p b t q false K hs hq.1 hq.2;rw[hfn]at ih;dsimp only at ih;simp(maxSteps:=3000000) (disch:=omega) only[go_sem,↓reduceIte,reduceCtorEq,cuV,dgH,c2,c4];refine hK _ _ ?_;clear hK K;refine PW.e ?_;refine PW.us ?_;(repeat refine PW.seq ?_);refine PW.rg rfl fun K hK=> ?_;simp(maxSteps:=3000000) (disch:=omega) only[go_sem,↓reduceIte,reduceCtorEq,h2,h3,c2,c3];refine VCx.call (so _) rfl ?_;cases hsl:slT s p b t q with
   | er e a1=>
    rw[hsl]at ih;dsimp only at ih;have d0:((e:Int)+1 !=0)=true:=by simp;omega
    simp(maxSteps:=3000000) (disch:=omega) only[go_sem,↓reduceIte,reduceCtorEq,rvT,ecd];refine hK _ _ ?_;clear hK K;refine PW.g d0 ?_;refine PW.t ?_;refine PW.exit ?_;refine PW.e ?_;exact PL.at [3,4,5,6,8,12,14,15,59,60] (PL.view (vb g fl [⟨58,0,[.int .i64 t,.slice (bs q) q.length false]⟩]) (by rw[←hno];exact ih)) rfl (by unfold dgH;simp)
   | ok x a1=>
    obtain⟨v,l⟩:=x;rw[hsl]at ih;dsimp only at ih;have hsb:=zv5 hsl;obtain⟨e1,e2⟩:=zqJ hd.vc hsl;rw[zvT hd]at e1;have lm:=zaT mbc 408 l (fun x hx=>zW x (hsb.2.1 x hx));have hll:=hsb.1;clear so cu;simp(maxSteps:=3000000) (disch:=omega) only[go_sem,↓reduceIte,reduceCtorEq,rvT];refine hK _ _ ?_;clear hK K;refine PW.e ?_;refine PW.us ?_;refine PW.g (nq2 F5 (nq2 F7 F8)) ?_;refine PW.e ?_;refine PW.l ?_;obtain⟨G',hG'⟩:∃ G',rwF s p b pa fu fi A k l (v:Int) 0 g=G':=⟨_,rfl⟩;rw[hG']at ih;suffices hl2:∀(j:Nat) (q1:Int) (gg:Fm),j≤l.length→Gok A B gg→(∀ x∈zmf q1 (l.drop j),1≤x∧x≤31)→rwF s p b pa fu fi A k (l.drop j) q1 j gg=G'→PL Tryz.prog _ _ [(3,.bool b),(4,.ptr H.length 0 0),(5,.ptr (H.length+1) 0 0),(6,.ptr (H.length+2) 0 0),(8,.ptr (H.length+3) 0 0),(12,.ptr (H.length+4) 0 0),(14,.msl (H.length+5) 0 0 B 1 true),(15,.mp (H.length+6) 0),(16,.int .i64 (k:Int)),(19,.int .i64 q1),(22,.ptr (H.length+8) 0 0),(59,.int .i64 (B:Int)),(60,.int .i64 (k:Int)),(85,.slice (l.flatMap mbc) l.length false),(86,.int .i64 (l.length:Int)),(87,.int .i64 (j:Int))] (dgH H s p U us pa fu fi g B fl++[⟨58,0,[.int .i64 t,.slice (bs q) q.length false]⟩,⟨33,0,fmc gg⟩]) _ by exact PL.at [3,4,5,6,8,12,14,15,16,19,22,59,60,85,86,87] (hl2 0 v g om hgk hsb.2.2 hG') rfl (by unfold dgH;simp)
    intro j q1 gg hj hgg hbd hG;induction hd2:l.length - j using qZ generalizing j q1 gg with
    | _ d2 ih2=>
     refine PL.round ?_;refine PW.e ?_;refine PW.c (fun h=> ?_) (fun h=> ?_)
     ·have hjl:j<l.length:=ot h;have ha:=zbR mbc 408 l j hjl (fun x hx=>zW x (hsb.2.1 x hx));have hfm:=e2 _ (List.getElem_mem hjl);have hlv:=hsb.2.1 _ (List.getElem_mem hjl);rw[jA hjl]at hbd hG;simp only[zmf,rwF]at hbd hG;generalize l[j]=m at *;have hb1:=hbd (q1+m.dl) (qI ..);have hjA:j<A:=om;have re0:=znL hd hfm p.al hb1 hjA hk;have r16:=znM re0;have re:=fun K=>zrc (cxP s p b) s p.al (q1+m.dl) m pa fu fi (j:Int) (k:Int) K hlv hs.ia hs.ie;have cx:=fun K=>zs3 s p b K hs;generalize zg7 (cxP s p b) s.ia s.ie p.al (q1+m.dl) m pa fu fi (j:Int) (k:Int)=T at re re0 r16 hG;obtain⟨gm,em⟩:=T;simp only at re re0 r16 hG;subst re0;have sm:=fun K=>zqX A B j k gg gm hgg r16 hjA hk K;have hsm:=zqI hgg r16 hjA hk;generalize smF A j k gg gm=g2 at sm hsm hG;have m1:=zW m hlv;have m2:=ze1 m;have m3:qF 408 (mbc m)=mbc m:=jB om;have m17:(mbc m)[17]? =some (.int .i64 m.dl):=rfl;have cl4:(cxc (cxP s p b)).length=4:=rfl;refine PW.skip ?_;refine PW.b ?_;refine PW.g (nq2 ha (nq2 lm (nq2 m1 m2))) ?_;refine PW.g (nq2 m1 m17) ?_;refine PW.view (Vs.place 33) ?_;(repeat refine PW.seq ?_);refine PW.drawi [H.length+10] [(25,[0])] [(25,0)] [101,111] mix kr (by simp<;>omega) fun K hK=> ?_;simp(maxSteps:=3000000) (disch:=omega) only[go_sem,↓reduceIte,reduceCtorEq,zaU,dgH,h2,h3,c2,c3];refine VCj.read (fun _ _=>cx _) rfl ?_;simp(maxSteps:=3000000) (disch:=omega) only[go_sem,↓reduceIte,reduceCtorEq,zaU,dgH,h2,h3,c2,c3,c5,rl,rt,m1,m3];refine VCj.read (fun _ _=>re _) rfl ?_;refine sqx (nq2 F5 F7) ?_;refine hK _ _ ?_;clear hK K;refine PW.e ?_;refine PW.us ?_;refine PW.m (nq2 F5 (nq2 F7 (nq2 F8 F9))) sm ?_;refine PW.e ?_;refine PW.us ?_;refine PW.e ?_;have hnx:=ih2 (l.length - (j+1)) om (j+1) (q1+m.dl) g2 om hsm (fun x hx=>hbd x (qJ _ hx)) hG rfl;refine PL.view (Vs.trim (F1:=[(3,.bool b),(4,.ptr H.length 0 0),(5,.ptr (H.length+1) 0 0),(6,.ptr (H.length+2) 0 0),(8,.ptr (H.length+3) 0 0),(12,.ptr (H.length+4) 0 0),(14,.msl (H.length+5) 0 0 B 1 true),(15,.mp (H.length+6) 0),(16,.int .i64 (k:Int)),(19,.int .i64 (q1+m.dl)),(22,.ptr (H.length+8) 0 0),(59,.int .i64 (B:Int)),(60,.int .i64 (k:Int)),(85,.slice (l.flatMap mbc) l.length false),(86,.int .i64 (l.length:Int)),(87,.int .i64 ((j+1:Nat):Int))]) (H1:=dgH H s p U us pa fu fi g B fl++[⟨58,0,[.int .i64 t,.slice (bs q) q.length false]⟩,⟨33,0,fmc g2⟩]) (K:=[⟨149,0,mbc m⟩,⟨33,1,fmc gm⟩]) (fun hh=>zey (fun b' hb' x hx=> ?_) (zog H s p U us pa fu fi g B fl hh)) (by simp[dgH]) (by unfold dgH;simp) ?_) hnx
      ·simp only[qC,qB,or_false]at hb';rcases hb' with rfl|rfl
       ·simp only[qC,qB,or_false]at hx;rcases hx with rfl|rfl
        ·exact .int _ _
        ·exact zj (zn _ _)
       ·exact zbo _ _ _ _ _ _ _ _ _ _ _ _ x hx
      ·have hl:(dgH H s p U us pa fu fi g B fl++[⟨58,0,[.int .i64 t,.slice (bs q) q.length false]⟩,⟨33,0,fmc g2⟩]:za).length=H.length+9:=by simp[dgH]
       rw[hl];exact⟨.id (.bool _),.id (.ptr om),.id (.ptr om),.id (.ptr om),.id (.ptr om),.id (.ptr om),.id (.msl om),.id (.mp om),.id (.int _ _),.id (.int _ _),.id (.ptr om),.id (.int _ _),.id (.int _ _),.id (zj (zr5 _ _)),.id (.int _ _),.id (.int _ _),trivial⟩
     ·have hjl:j=l.length:=ofF h;subst hjl;rw[List.drop_length]at hG;simp only[rwF]at hG;subst hG;refine PW.exit ?_;refine PW.f (fun K k=>by simp(maxSteps:=3000000) (disch:=omega) only[go_sem,↓reduceIte,reduceCtorEq,dgH,F5,F7,F8,F9,hlB,zvh hlk hk];exact k) ?_;refine PW.e ?_;exact PL.at [3,4,5,6,8,12,14,15,59,60] (PL.view (vb gg (fl++[true]) [⟨58,0,[.int .i64 t,.slice (bs q) q.length false]⟩,⟨33,0,fmc gg⟩]) ih) rfl (by unfold dgH;simp)
 have hlen:=zdZ s p b us pa fu fi A g0 B;generalize zbE s p b us pa fu fi A g0 B=R at hlen ⊢;obtain⟨g,fl⟩:=R;simp only at hlen ⊢;refine PL.round ?_;refine PW.f (fun K k=>by simp(maxSteps:=3000000) (disch:=omega) only[go_sem,↓reduceIte,reduceCtorEq,ze3 B];exact k) ?_;refine PW.u ?_;refine PW.exit ?_;refine PW.f (fun K k=>by simp(maxSteps:=3000000) (disch:=omega) only[go_sem,↓reduceIte,reduceCtorEq,dgH,F5,F7,F8,z9];exact k) ?_;unfold zfi;rw[if_pos rfl];refine PW.w (.tup [.agg (fmc g),.msl (H.length+5) 0 0 B 1 true,.int .i64 0]) (nq2 F7 F8) ?_;rw[←zvi hlen,hlen];refine Fin.base (Fz.tupC ⟨.id (zw (zbo _ _ _ _ _ _ _ _ _ _ _ _)),Fz.mslC (e:=4) (xs:=flR B fl) om (apn _ _ 5) (by rw[zoo om];omega) (FzC.refl (zsL _ _ _)),.id (.int _ _),trivial⟩)
structure Cdd where
 p:Pi
 U:List (List UInt8)
 us:List (Int×List UInt8)
structure Sho where
 fr:Fm
 f:Int
 l:Int
 ty:Int
 ok:Bool
 fi:Int
 tf:Bool
def zkQ:Sho:=⟨f0,0,0,0,false,0,false⟩
def zgl(s:Sq)(cs:List Cdd):Bool:=(cs.all fun c=>zP s c.p)&&match cs with
 | [c]=>decide (c.p.st=3)
 | [c,d]=>zcV c.p&&zb7 c.p d.p
 | _=>false
def zh4(a b:Fm):Fm:=zo1 (a.w / 2).toNat (a.h / 2).toNat a b
def zhH(s:Sq)(cs:List Cdd)(pa fu:Fm):Fm×Bool×Int:=
 if zgl s cs then match cs with
  | [c]=>if(za9 s c.p c.us pa fu f0 false).2=0 then((za9 s c.p c.us pa fu f0 false).1.1,(za9 s c.p c.us pa fu f0 false).1.2.all id,0)else(f0,false,(za9 s c.p c.us pa fu f0 false).2)
  | [c,d]=>if(za9 s c.p c.us pa fu f0 false).2=0 then
    (if(za9 s d.p d.us pa fu (za9 s c.p c.us pa fu f0 false).1.1 true).2=0 then
     (if c.p.st=2 then zh4 (za9 s d.p d.us pa fu (za9 s c.p c.us pa fu f0 false).1.1 true).1.1 (za9 s c.p c.us pa fu f0 false).1.1 else zh4 (za9 s c.p c.us pa fu f0 false).1.1 (za9 s d.p d.us pa fu (za9 s c.p c.us pa fu f0 false).1.1 true).1.1,(za9 s c.p c.us pa fu f0 false).1.2.all id&&(za9 s d.p d.us pa fu (za9 s c.p c.us pa fu f0 false).1.1 true).1.2.all id,0)
     else(f0,false,(za9 s d.p d.us pa fu (za9 s c.p c.us pa fu f0 false).1.1 true).2))
   else(f0,false,(za9 s c.p c.us pa fu f0 false).2)
  | _=>(f0,false,1)
 else(f0,false,1)
def zcM(x:It):Cdd:=⟨x.p,x.U,x.us⟩
def zbV(L:List It)(e:Ent):List Cdd:=((L.drop e.1.f.toNat).take (e.1.l.toNat+1 - e.1.f.toNat)).map zcM
def zb4(l:List Sho)(n:Int):Sho:=if n<0 then zkQ else(l[n.toNat]?).getD zkQ
def shE(L:List It)(e:Ent)(l:List Sho):Sho:=⟨(zhH e.2.1 (zbV L e) (zb4 l e.1.pa).fr (zb4 l e.1.fu).fr).1,e.1.f,e.1.l,e.1.ty,((zhH e.2.1 (zbV L e) (zb4 l e.1.pa).fr (zb4 l e.1.fu).fr).2.1&&(decide (e.1.ty=1)||(zb4 l e.1.pa).ok))&&(!decide (e.1.ty=3)||(zb4 l e.1.fu).ok),if e.2.2.rp then 3 else 2,e.2.2.tf⟩
def dvN(L:List It)(es:List Ent):Nat→List Sho
 | 0=>[]
 | k+1=>dvN L es k++(match es[k]? with|some e=>[shE L e (dvN L es k)]|none=>[])
theorem zdi(L:List It)(es:List Ent):∀ k,k≤es.length→(dvN L es k).length=k
 | 0,_=>rfl
 | k+1,h=>by rw[dvN,qD om,List.length_append,zdi L es k om];rfl
theorem zsU(L:List It)(es:List Ent){j:Nat}:∀(k:Nat),j<k→k≤es.length→(dvN L es k)[j]? =(dvN L es (j+1))[j]?
 | 0,h,_=>om
 | k+1,h,hk=>by
  by_cases hj:j=k
  ·rw[hj]
  ·rw[dvN,qM (by rw[zdi L es k om];omega)];exact zsU L es k om om
def zdF(L:List It)(es:List Ent):Nat→List Sho
 | 0=>qR es.length zkQ
 | k+1=>match es[k]? with|some e=>(zdF L es k).set e.1.sh.toNat (shE L e (dvN L es k))|none=>zdF L es k
theorem zcS(L:List It)(es:List Ent):∀ k,(zdF L es k).length=es.length
 | 0=>by simp[zdF]
 | k+1=>by
  rw[zdF];split
  ·rw[List.length_set,zcS L es k]
  ·exact zcS L es k
theorem zjE{L:List It}{es:List Ent}(h:SInv L es):∀(k:Nat),k≤es.length→∀(j:Nat) (e:Ent),j<k→es[j]? =some e→(zdF L es k)[e.1.sh.toNat]? =(dvN L es k)[j]?
 | 0,_,j,_,hj,_=>om
 | k+1,hk,j,e,hj,he=>by
  have hkk:k<es.length:=om;have hl:=zcS L es k;have hs:=h.s k _ (qD hkk);rw[zdF,dvN,qD hkk];dsimp only;by_cases hjk:j=k
  ·subst hjk;rw[qD hkk]at he;injection he with he;subst he;rw[qU,if_pos rfl,if_pos om,List.getElem?_append_right (by rw[zdi L es j om];exact qO _),zdi L es j om,Nat.sub_self];rfl
  ·have hne:es[k].1.sh.toNat≠e.1.sh.toNat:=fun hh=>by have hs2:=h.s j e he;have:=h.i j k e es[k] he (qD hkk) om;exact hjk this
   rw[qU,if_neg hne,qM (by rw[zdi L es k om];omega)];exact zjE h k om j e om he
def zuh(es:List Ent)(out:List Sho)(n:Int):Sho:=if n<0 then zkQ else match es[n.toNat]? with|some e=>(out[e.1.sh.toNat]?).getD zkQ|none=>zkQ
theorem znK{L:List It}{es:List Ent}(h:SInv L es){k:Nat}(hk:k≤es.length){n:Int}(hn: -1≤n∧n<k):zuh es (zdF L es k) n=zb4 (dvN L es k) n:=by
 unfold zuh zb4;by_cases h0:n<0
 ·rw[if_pos h0,if_pos h0]
 ·rw[if_neg h0,if_neg h0,qD (show n.toNat<es.length from om)];dsimp only;rw[zjE h k hk n.toNat _ om (qD om)]
def zam(L:List It):List Sho:=zdF L (zaa L) (zaa L).length
theorem ziH:∀(n:Nat) (l:List Nat),l.Nodup→(∀ x∈l,x<n)→l.length≤n
 | 0,l,_,h=>by
  cases l with
  | nil=>exact qO _
  | cons a r=>exact absurd (h a (qI ..)) (Nat.not_lt_zero _)
 | n+1,l,hd,h=>by
  have h1:=ziH n (l.filter (· ≠n)) (hd.sublist jE) fun x hx=>by simp only[List.mem_filter,decide_eq_true_eq]at hx;have:=h x hx.1;omega
  have h2:(l.filter (fun x=> !decide (x≠n))).length≤1:=by
   have h3:(l.filter (fun x=> !decide (x≠n))).Nodup:=hd.sublist jE;have h4:∀ x∈l.filter (fun x=> !decide (x≠n)),x=n:=fun x hx=>by simp only[List.mem_filter]at hx;simpa using hx.2
   generalize l.filter (fun x=> !decide (x≠n))=m at h3 h4
   match m with
   | []=>exact Nat.zero_le _
   | [a]=>exact qO _
   | a::b::r=>have e1:=h4 a sp;have e2:=h4 b sp;rw[e1,e2]at h3;simp at h3
  have h5:(l.filter (· ≠n)).length+(l.filter (fun x=> !decide (x≠n))).length=l.length:=by rw[←qY,←qY];have:=List.length_eq_countP_add_countP (fun x=>decide (x≠n)) (l:=l);simp at this ⊢;omega
  omega
theorem zhx:∀(n:Nat) (l:List Nat),l.Nodup→(∀ x∈l,x<n)→l.length=n→l.Perm (List.range n)
 | 0,l,_,_,hl=>by
  rw[List.length_eq_zero_iff.1 hl];exact List.Perm.refl _
 | n+1,l,hd,h,hl=>by
  have hn:n∈l:=by
   refine Classical.byContradiction fun hn=> ?_;have:=ziH n l hd fun x hx=>by have:=h x hx;have:x≠n:=fun e=>hn (e▸hx);omega
   omega
  have hp:=List.perm_cons_erase hn;have h1:=zhx n (l.erase n) (hd.erase n) (fun x hx=>by
   have h2:=h x (List.mem_of_mem_erase hx);have h3:x≠n:=((List.Nodup.mem_erase_iff hd).1 hx).1;omega) (by rw[List.length_erase_of_mem hn,hl];rfl)
  rw[List.range_succ];exact hp.trans ((List.Perm.cons n h1).trans (List.perm_append_comm (l₁:=[n])))
def tw(H:za)(i j:Nat)(A B:Blk):za:=(H.set i A).set j B
theorem zwS(H:za)(i j:Nat)(A B:Blk)(h:i<H.length∧i≠j):(tw H i j A B)[i]? =some A:=by unfold tw;rw[List.getElem?_set_ne om];simp[h.1]
theorem tw_1(H:za)(i j:Nat)(A B:Blk)(h:j<H.length):(tw H i j A B)[j]? =some B:=by unfold tw;simp[h]
theorem zwR(H:za)(i j:Nat)(A B:Blk):(tw H i j A B).length=H.length:=by simp[tw]
theorem zvX(H:za)(i j:Nat)(A B C D:Blk)(h:i≠j):tw (tw H i j A B) i j C D=tw H i j C D:=by unfold tw;rw[List.set_comm _ _ (by omega:i≠j),List.set_set,List.set_comm _ _ (by omega:j≠i),List.set_set]
theorem zer{H:za}{i:Nat}{A:Blk}(h:H[i]? =some A):H.set i A=H:=by
 apply List.ext_getElem?;intro j;rw[qU];split
 ·rename_i e;subst e;split
  ·exact h.symm
  ·rename_i hn;exact absurd (qL.1 h).1 hn
 ·rfl
theorem zvY{H:za}{i j:Nat}{A B:Blk}(hA:∀ x∈A.cells,Scoped H.length x)(hB:∀ x∈B.cells,Scoped H.length x)(h:HSc H):HSc (tw H i j A B):=HSc.set (HSc.set h hA) (by rw[List.length_set];exact hB)
end Go.Proofs.YtpjlfoficnpfoaaGreatDoor.Sc
