/-
  Parts of the proof, put together in one text. No condition.
-/
import Derived.Test.YtjgmdlcjbgiekaaGreatDoorQ34
namespace Go.Proofs.YtjgmdlcjbgiekaaGreatDoor.Sc
set_option linter.all false
open Pm Ty Go.RowKit
theorem ztB (x y:Int) (H:za):CallOk Tryz.prog 294 [.agg [.int .i64 x,.int .i64 y]] H (.bool (vrg x y)) H:=by
 refine CallOk.body (F0:=[(0,.agg [.int .i64 x,.int .i64 y])]) Tryz.func294 rfl Tryz.ntmps294 Tryz.results294 rfl (by kernel_rfl) rfl ?_
 (repeat' (first|refine PW.seq ?_|refine PW.skip ?_|refine PW.block ?_|((first|refine PW.rg rfl fun K hK=> ?_|refine PW.draw mix (by kernel_rfl) fun K hK=> ?_);simp (disch:=omega) only [go_sem,↓reduceIte,reduceCtorEq])|((first|refine zj ?_ ?_|refine zn ?_ ?_|refine And.intro ?_ ?_)<;>intro h<;>(try simp only [nqb] at h)<;>simp (disch:=omega) only [go_sem,↓reduceIte,reduceCtorEq,h])|(refine hK _ _ ?_;clear hK K)|(refine PW.cond (t:=_) rfl (fun h=> ?_) (fun h=> ?_)<;>(try (cases h;done))<;>(try simp only [nqb] at h))))
 all_goals ((refine PW.ret ⟨_,rfl,?_⟩;first|refine .inl ⟨?_,rfl⟩|refine Fin.base (.id' ?_ (.bool _))|refine Fin.base (.id' ?_ (.int _ _)));(simp_all [vrg,win,slot,Nat.beq]<;>first|rfl|omega|(rw [Bool.eq_iff_iff];simp;done)|(rw [Bool.eq_iff_iff];simp;omega)))
def zfD (f:Fm) (x y h:Int):Bool:=decide (0≤x)&&(decide (x%2=0)&&(decide (x≤f.w - 16)&&(decide (0≤y)&&(decide (y%2=0)&&decide (y≤f.h - h)))))
def zhe (f:Fm) (x y:Int) (h:Nat) (vx vy:Int):Fm×Int:=
 if (fmd f&&zfD f x y h)=true then (if vrg vx vy=true then (prdF f x y h vx vy,0) else (f0,2)) else (f0,1)
theorem zoY (f:Fm) (x y:Int) (h:Nat) (vx vy:Int):fmc (prdF f x y h vx vy)=[.int .i64 16,.int .i64 (h:Int),.slice (bs (prdF f x y h vx vy).y) (16 * h) false,.slice (bs (prdF f x y h vx vy).u) (8 * (h / 2)) false,.slice (bs (prdF f x y h vx vy).v) (8 * (h / 2)) false]:=by
 have l1:(prdF f x y h vx vy).y.length=16 * h:=zak _ _ _ _ _ _ _ _ _
 have l2:(prdF f x y h vx vy).u.length=8 * (h / 2):=zak _ _ _ _ _ _ _ _ _
 have l3:(prdF f x y h vx vy).v.length=8 * (h / 2):=zak _ _ _ _ _ _ _ _ _
 unfold fmc
 rw [l1,l2,l3]
 rfl
theorem zsc {f:Fm} (h:fmd f=true):∃ V K:Nat,1≤V∧V≤32∧1≤K∧K≤32∧f.w=((2 * V:Nat):Int)∧f.h=((2 * K:Nat):Int)∧f.y.length=2 * V * (2 * K)∧f.u.length=V * K∧f.v.length=V * K:=by
 obtain ⟨w,ht,y,u,v⟩:=f
 simp only [fmd,Bool.and_eq_true,decide_eq_true_eq] at h
 obtain ⟨hs,hy,hu,hv⟩:=h
 obtain ⟨g1,g2,g3,g4,g5,g6⟩:=zcW hs
 obtain ⟨A,hA⟩:∃ A:Nat,(w / 2).toNat=A:=⟨_,rfl⟩
 obtain ⟨B,hB⟩:∃ B:Nat,(ht / 2).toNat=B:=⟨_,rfl⟩
 have e1:w=((2 * A:Nat):Int):=by omega
 have e2:ht=((2 * B:Nat):Int):=by omega
 have e3:w / 2=(A:Int):=by omega
 have e4:ht / 2=(B:Int):=by omega
 rw [e3,e4] at hu hv
 rw [e1,e2] at hy
 refine ⟨A,B,by omega,by omega,by omega,by omega,e1,e2,?_,?_,?_⟩
 ·exact Int.ofNat_inj.1 (hy.trans (Int.natCast_mul _ _).symm)
 ·exact Int.ofNat_inj.1 (hu.trans (Int.natCast_mul _ _).symm)
 ·exact Int.ofNat_inj.1 (hv.trans (Int.natCast_mul _ _).symm)
set_option maxHeartbeats 3200000 in
set_option maxRecDepth 10000 in
theorem zdi (f:Fm) (x y vx vy:Int) (hg:Nat) (hgb:hg=8∨hg=16) (hb: -10000≤x∧x≤10000∧-10000≤y∧y≤10000) (H:za):
  CallOk Tryz.prog 219 [.agg (fmc f),.int .i64 x,.int .i64 y,.int .i64 16,.int .i64 (hg:Int),.agg [.int .i64 vx,.int .i64 vy]] H (.tup [.agg (fmc (zhe f x y hg vx vy).1),.int .i64 (zhe f x y hg vx vy).2]) H:=by
 have fo:=fun K=>zaR f K
 have vo:=fun K=>ztB vx vy K
 have h16:((hg:Int) !=8&&(hg:Int) !=16)=false:=by rcases hgb with rfl|rfl<;>rfl
 generalize hr:zhe f x y hg vx vy=r
 have hrf:r=zhe f x y hg vx vy:=hr.symm
 obtain ⟨w,ht,Y,U,V⟩:=f
 by_cases hf:fmd ⟨w,ht,Y,U,V⟩=true
 case neg=>
  have hf:fmd ⟨w,ht,Y,U,V⟩=false:=by simpa using hf
  rw [hf] at fo
  rw [zhe,hf,Bool.false_and,if_neg (by simp)] at hr
  simp only [fmc] at fo ⊢
  refine CallOk.body (F0:=[(0,.agg [.int .i64 w,.int .i64 ht,.slice (bs Y) Y.length false,.slice (bs U) U.length false,.slice (bs V) V.length false]),(1,.int .i64 x),(2,.int .i64 y),(3,.int .i64 16),(4,.int .i64 (hg:Int)),(5,.agg [.int .i64 vx,.int .i64 vy])]) Tryz.func219 rfl Tryz.ntmps219 Tryz.results219 rfl (by kernel_rfl) rfl ?_
  refine PW.e ?_
  (repeat refine PW.seq ?_)
  refine PW.rgv (P:=Tryz.prog) [6,12,13] 31 (.bool true) ?_ ?_ ?_
  ·rfl
  ·simp (disch:=omega) only [go_sem,↓reduceIte,reduceCtorEq];(repeat' (first|((first|refine zj ?_ ?_|refine And.intro ?_ ?_)<;>intro h<;>(try simp only [nqb] at h)<;>simp (disch:=omega) only [go_sem,↓reduceIte,reduceCtorEq,h])|((first|refine VCx.call (fo _) rfl ?_);simp (disch:=omega) only [go_sem,↓reduceIte,reduceCtorEq])))
   all_goals (simp_all [slot,Nat.beq]<;>first|rfl|omega|(rw [Bool.eq_iff_iff];simp;done)|(rw [Bool.eq_iff_iff];simp;omega))
  refine PW.t ?_
  refine PW.e ?_
  refine PW.ret ⟨.tup [.agg [.int .i64 0,.int .i64 0,.slice [] 0 true,.slice [] 0 true,.slice [] 0 true],.int .i64 1],by simp (disch:=omega) only [go_sem,↓reduceIte,reduceCtorEq,zd,zg,List.mapM_cons,List.mapM_nil,Option.pure_def,Option.bind_eq_bind,Option.bind_some,Array.toList],?_⟩
  rw [←hr]
  exact Fin.base (fz0 _ _ _)
 rw [hf] at fo
 rw [zhe,hf,Bool.true_and] at hr
 obtain ⟨A,B,a1,a2,b1,b2,ew,eh,ly,lu,lv⟩:=zsc hf
 simp only at ew eh ly lu lv
 subst ew eh
 simp only [fmc] at fo ⊢
 refine CallOk.body (F0:=[(0,.agg [.int .i64 ((2 * A:Nat):Int),.int .i64 ((2 * B:Nat):Int),.slice (bs Y) Y.length false,.slice (bs U) U.length false,.slice (bs V) V.length false]),(1,.int .i64 x),(2,.int .i64 y),(3,.int .i64 16),(4,.int .i64 (hg:Int)),(5,.agg [.int .i64 vx,.int .i64 vy])]) Tryz.func219 rfl Tryz.ntmps219 Tryz.results219 rfl (by kernel_rfl) rfl ?_
 refine PW.e ?_
 (repeat refine PW.seq ?_)
 refine PW.rgv (P:=Tryz.prog) [1,2,3,4,6,11,12,13] 31 (.bool false) ?_ ?_ ?_
 ·rfl
 ·clear hr
  rcases hgb with rfl|rfl
  all_goals (simp (disch:=omega) only [go_sem,↓reduceIte,reduceCtorEq];(repeat' (first|((first|refine zj ?_ ?_|refine And.intro ?_ ?_)<;>intro h<;>(try simp only [nqb] at h)<;>simp (disch:=omega) only [go_sem,↓reduceIte,reduceCtorEq,h])|((first|refine VCx.call (fo _) rfl ?_);simp (disch:=omega) only [go_sem,↓reduceIte,reduceCtorEq]))))
  all_goals (simp_all [slot,Nat.beq]<;>first|rfl|omega|(rw [Bool.eq_iff_iff];simp;done)|(rw [Bool.eq_iff_iff];simp;omega))
 refine PW.us ?_
 (repeat refine PW.seq ?_)
 refine PW.rgv (P:=Tryz.prog) [1,2,3,4,6,11,12,13] 64 (.bool (!(zfD ⟨((2 * A:Nat):Int),((2 * B:Nat):Int),Y,U,V⟩ x y hg))) ?_ ?_ ?_
 ·rfl
 ·clear hr fo vo
  simp (disch:=omega) only [go_sem,↓reduceIte,reduceCtorEq];(repeat' ((first|refine zj ?_ ?_|refine zn ?_ ?_|refine zN ?_ ?_|refine VOh_cond ?_ ?_|refine zM ?_ ?_|refine And.intro ?_ ?_)<;>intro h<;>(try simp only [nqb] at h)<;>simp (disch:=omega) only [go_sem,↓reduceIte,reduceCtorEq,zV,h]))
  all_goals (simp_all [zfD,slot,Nat.beq]<;>first|rfl|omega|(rw [Bool.eq_iff_iff];simp;done)|(rw [Bool.eq_iff_iff];simp;omega))
 (repeat refine PW.seq ?_);refine PW.cond (t:=_) rfl (fun h=> ?_) (fun h=> ?_)
 ·have hp:zfD ⟨((2 * A:Nat):Int),((2 * B:Nat):Int),Y,U,V⟩ x y hg=false:=by simpa using h
  rw [hp,if_neg (by simp)] at hr
  refine PW.e ?_
  refine PW.ret ⟨.tup [.agg [.int .i64 0,.int .i64 0,.slice [] 0 true,.slice [] 0 true,.slice [] 0 true],.int .i64 1],by simp (disch:=omega) only [go_sem,↓reduceIte,reduceCtorEq,zd,zg,List.mapM_cons,List.mapM_nil,Option.pure_def,Option.bind_eq_bind,Option.bind_some,Array.toList],?_⟩
  rw [←hr]
  exact Fin.base (fz0 _ _ _)
 have hp:zfD ⟨((2 * A:Nat):Int),((2 * B:Nat):Int),Y,U,V⟩ x y hg=true:=by simpa using h
 rw [hp,if_pos rfl] at hr
 refine PW.skip ?_
 refine PW.f (fun K k=>by simp (disch:=omega) only [go_sem,↓reduceIte,reduceCtorEq];refine VCx.call (vo _) rfl ?_;simp (disch:=omega) only [go_sem,↓reduceIte,reduceCtorEq];exact k) ?_
 (repeat refine PW.seq ?_);refine PW.cond (t:=_) rfl (fun h=> ?_) (fun h=> ?_)
 ·have hv:vrg vx vy=false:=by simpa using h
  rw [hv,if_neg (by simp)] at hr
  refine PW.e ?_
  refine PW.ret ⟨.tup [.agg [.int .i64 0,.int .i64 0,.slice [] 0 true,.slice [] 0 true,.slice [] 0 true],.int .i64 2],by simp (disch:=omega) only [go_sem,↓reduceIte,reduceCtorEq,zd,zg,List.mapM_cons,List.mapM_nil,Option.pure_def,Option.bind_eq_bind,Option.bind_some,Array.toList],?_⟩
  rw [←hr]
  exact Fin.base (fz0 _ _ _)
 have hv:vrg vx vy=true:=by simpa using h
 rw [hv,if_pos rfl] at hr
 refine PW.skip ?_
 have hvb: -63≤vx∧vx≤63∧-63≤vy∧vy≤63:=by simp [vrg,win] at hv;omega
 simp only [zfD,Bool.and_eq_true,decide_eq_true_eq] at hp
 obtain ⟨p1,p2,p3,p4,p5,p6⟩:=hp
 have d1:((2 * A:Nat):Int).tdiv 2=(A:Int):=by rw [zx _ _ (by omega)];omega
 have d2:((2 * B:Nat):Int).tdiv 2=(B:Int):=by rw [zx _ _ (by omega)];omega
 have d3:x.tdiv 2=x / 2:=zx _ _ (by omega)
 have d4:y.tdiv 2=y / 2:=zx _ _ (by omega)
 have d5:(hg:Int).tdiv 2=((hg / 2:Nat):Int):=by rw [zx _ _ (by omega)];omega
 have d6:(16:Int).tdiv 2=8:=rfl
 have t1: -63≤vx.tdiv 2∧vx.tdiv 2≤63:=by have:=zef vx 2;omega
 have t2: -63≤vy.tdiv 2∧vy.tdiv 2≤63:=by have:=zef vy 2;omega
 have c1:=fun K=>zd1 Y (2 * A) (2 * B) 16 hg x y vx vy K ly (by omega) (by omega) (by omega) (by omega) (by omega) hvb
 have c2:=fun K=>zd1 U A B 8 (hg / 2) (x / 2) (y / 2) (vx.tdiv 2) (vy.tdiv 2) K lu (by omega) (by omega) (by omega) (by omega) (by omega) (by omega)
 have c3:=fun K=>zd1 V A B 8 (hg / 2) (x / 2) (y / 2) (vx.tdiv 2) (vy.tdiv 2) K lv (by omega) (by omega) (by omega) (by omega) (by omega) (by omega)
 have q1:(prdF ⟨((2 * A:Nat):Int),((2 * B:Nat):Int),Y,U,V⟩ x y hg vx vy).y=prd Y ((2 * A:Nat):Int) ((2 * B:Nat):Int) x y 16 hg vx vy:=rfl
 have dA:((2 * A:Nat):Int) / 2=(A:Int):=by omega
 have dB:((2 * B:Nat):Int) / 2=(B:Int):=by omega
 have q2:(prdF ⟨((2 * A:Nat):Int),((2 * B:Nat):Int),Y,U,V⟩ x y hg vx vy).u=prd U (A:Int) (B:Int) (x / 2) (y / 2) 8 (hg / 2) (vx.tdiv 2) (vy.tdiv 2):=by
  show prd U (((2 * A:Nat):Int) / 2) (((2 * B:Nat):Int) / 2) _ _ _ _ _ _=_
  rw [dA,dB]
 have q3:(prdF ⟨((2 * A:Nat):Int),((2 * B:Nat):Int),Y,U,V⟩ x y hg vx vy).v=prd V (A:Int) (B:Int) (x / 2) (y / 2) 8 (hg / 2) (vx.tdiv 2) (vy.tdiv 2):=by
  show prd V (((2 * A:Nat):Int) / 2) (((2 * B:Nat):Int) / 2) _ _ _ _ _ _=_
  rw [dA,dB]
 have hc:=zoY ⟨((2 * A:Nat):Int),((2 * B:Nat):Int),Y,U,V⟩ x y hg vx vy
 rw [q1,q2,q3] at hc
 generalize prd Y ((2 * A:Nat):Int) ((2 * B:Nat):Int) x y 16 hg vx vy=PY at c1 hc
 generalize prd U (A:Int) (B:Int) (x / 2) (y / 2) 8 (hg / 2) (vx.tdiv 2) (vy.tdiv 2)=PU at c2 hc
 generalize prd V (A:Int) (B:Int) (x / 2) (y / 2) 8 (hg / 2) (vx.tdiv 2) (vy.tdiv 2)=PV1 at c3 hc
 have hcr:fmc r.1=[.int .i64 16,.int .i64 (hg:Int),.slice (bs PY) (16 * hg) false,.slice (bs PU) (8 * (hg / 2)) false,.slice (bs PV1) (8 * (hg / 2)) false]:=by rw [←hr];exact hc
 have hcr2:r.2=0:=by rw [←hr]
 simp only [fmc] at hcr
 rw [hcr,hcr2]
 clear hr hrf q1 q2 q3 hc hcr
 refine PW.e ?_
 refine PW.f (fun K k=>by simp (disch:=omega) only [go_sem,↓reduceIte,reduceCtorEq,d3,d4,d5,d6];exact k) ?_
 (repeat refine PW.seq ?_);refine PW.draw mix (by kernel_rfl) fun K hK=> ?_;simp (disch:=omega) only [go_sem,↓reduceIte,reduceCtorEq,d1,d2]
 (repeat' (first|((first|refine zn ?_ ?_|refine And.intro ?_ ?_)<;>intro h<;>(try simp only [nqb] at h)<;>simp (disch:=omega) only [go_sem,↓reduceIte,reduceCtorEq,d1,d2,h])|((first|refine VCy.call (c1 _) rfl ?_|refine VCy.call (c2 _) rfl ?_|refine VCy.call (c3 _) rfl ?_);simp (disch:=omega) only [go_sem,↓reduceIte,reduceCtorEq,d1,d2])))
 refine hK _ _ ?_;clear hK K
 refine PW.ret ⟨.tup [.agg [.int .i64 16,.int .i64 (hg:Int),.slice (bs PY) (16 * hg) false,.slice (bs PU) (8 * (hg / 2)) false,.slice (bs PV1) (8 * (hg / 2)) false],.int .i64 0],by simp (disch:=omega) only [go_sem,↓reduceIte,reduceCtorEq,zd,zg,List.mapM_cons,List.mapM_nil,Option.pure_def,Option.bind_eq_bind,Option.bind_some,Array.toList],?_⟩
 exact Fin.base (.id (zQ _ _ _ _ _ _ _ _ _ _))
theorem zwp {a:Fm} (h:F16 a) (b:Fm):fmc (mnF a b)=[.int .i64 16,.int .i64 16,.slice (bs (mnb a.y b.y)) 256 false,.slice (bs (mnb a.u b.u)) 64 false,.slice (bs (mnb a.v b.v)) 64 false]:=by
 have h':=zpt h b
 unfold fmc
 rw [h'.ly,h'.lu,h'.lv,h'.w,h'.h]
 rfl
set_option maxHeartbeats 1600000 in
theorem zlt (a b:Fm) (ha:F16 a) (hb:F16 b) (H:za):CallOk Tryz.prog 221 [.agg (fmc a),.agg (fmc b)] H (.tup [.agg (fmc (mnF a b)),.int .i64 0]) H:=by
 have fa:=fun K=>zaR a K
 have fb:=fun K=>zaR b K
 have va:=ha.fvd
 have vb:=hb.fvd
 unfold fvd at va vb
 rw [Bool.and_eq_true] at va vb
 rw [va.1] at fa
 rw [vb.1] at fb
 rw [zwp ha]
 obtain ⟨w,ht,y,u,v⟩:=a
 obtain ⟨w',ht',y',u',v'⟩:=b
 obtain ⟨hw,hh,l1,l2,l3⟩:=ha
 obtain ⟨hw',hh',l1',l2',l3'⟩:=hb
 simp only at hw hh l1 l2 l3 hw' hh' l1' l2' l3'
 subst hw hh hw' hh'
 have m1:=fun K=>zir y y' false false K (by omega) (by omega)
 have m2:=fun K=>zir u u' false false K (by omega) (by omega)
 have m3:=fun K=>zir v v' false false K (by omega) (by omega)
 simp only [fmc,l1,l2,l3,l1',l2',l3'] at fa fb m1 m2 m3 ⊢
 refine CallOk.body (F0:=[(0,.agg [.int .i64 16,.int .i64 16,.slice (bs y) 256 false,.slice (bs u) 64 false,.slice (bs v) 64 false]),(1,.agg [.int .i64 16,.int .i64 16,.slice (bs y') 256 false,.slice (bs u') 64 false,.slice (bs v') 64 false])]) Tryz.func221 rfl Tryz.ntmps221 Tryz.results221 rfl (by kernel_rfl) rfl ?_
 refine PW.e ?_
 (repeat refine PW.seq ?_)
 refine PW.rgv (P:=Tryz.prog) [2,3,4] 27 (.bool false) ?_ ?_ ?_
 ·rfl
 ·simp (disch:=omega) only [go_sem,↓reduceIte,reduceCtorEq];(repeat' (first|((first|refine zj ?_ ?_|refine And.intro ?_ ?_)<;>intro h<;>(try simp only [nqb] at h)<;>simp (disch:=omega) only [go_sem,↓reduceIte,reduceCtorEq,h])|((first|refine VCx.call (fa _) rfl ?_|refine VCx.call (fb _) rfl ?_);simp (disch:=omega) only [go_sem,↓reduceIte,reduceCtorEq])))
  all_goals (simp_all [slot,Nat.beq]<;>first|rfl|omega|(rw [Bool.eq_iff_iff];simp;done)|(rw [Bool.eq_iff_iff];simp;omega))
 refine PW.us ?_
 (repeat refine PW.seq ?_);refine PW.draw mix (by kernel_rfl) fun K hK=> ?_;simp (disch:=omega) only [go_sem,↓reduceIte,reduceCtorEq]
 (repeat' (first|((first|refine zn ?_ ?_|refine And.intro ?_ ?_)<;>intro h<;>(try simp only [nqb] at h)<;>simp (disch:=omega) only [go_sem,↓reduceIte,reduceCtorEq,h])|((first|refine VCy.call (m1 _) rfl ?_|refine VCy.call (m2 _) rfl ?_|refine VCy.call (m3 _) rfl ?_);simp (disch:=omega) only [go_sem,↓reduceIte,reduceCtorEq])))
 refine hK _ _ ?_;clear hK K
 refine PW.ret ⟨.tup [.agg [.int .i64 16,.int .i64 16,.slice (bs (mnb y y')) 256 false,.slice (bs (mnb u u')) 64 false,.slice (bs (mnb v v')) 64 false],.int .i64 0],by simp (disch:=omega) only [go_sem,↓reduceIte,reduceCtorEq,zd,zg,List.mapM_cons,List.mapM_nil,Option.pure_def,Option.bind_eq_bind,Option.bind_some,Array.toList],?_⟩
 exact Fin.base (.id (zQ _ _ _ _ _ _ _ _ _ _))
theorem zrS (m:Mb):List.take 6 (List.drop 18 (mbc m))=fs (cdl m):=rfl
theorem zrR (m:Mb):(mbc m)[4]? =some (.bool m.fd):=rfl
theorem zrQ (m:Mb) (n:Nat):List.take 64 (List.drop (24+n * 64) (mbc m))=is (lvl m.lv n):=by
 rw [show 24+n * 64=n * 64+24 by omega]
 show List.take 64 (List.drop (n * 64) (is m.lv))=_
 rw [zew,zdG];rfl
theorem zb8 (m:Mb) (hl:m.lv.length=384):(mbc m).length=408:=by simp [mbc,is,hl]
theorem zrX (lv:List Int) (n:Nat) (hl:lv.length=384) (hn:n<6):(lvl lv n).length=64:=by simp [lvl,hl];omega
def lrm (lv:List Int):Prop:=∀ i,-4095≤zh lv i∧zh lv i≤4095
theorem zur {lv:List Int} (h:lrm lv) (n:Nat):lrg (lvl lv n):=fun i=>by
 unfold lvl zh
 rw [List.getD_eq_getElem?_getD,List.getElem?_take]
 split
 ·rw [List.getElem?_drop]
  have:=h (n * 64+i)
  unfold zh at this
  rw [List.getD_eq_getElem?_getD] at this
  exact this
 ·simp
theorem zpG {lv:List Int} (hl:lv.length=384) (h:lvr lv=true):lrm lv:=fun i=>by
 by_cases hi:i<384
 ·have:=List.all_eq_true.1 h i (List.mem_range.2 hi)
  simp [win] at this;omega
 ·unfold zh
  rw [List.getD_eq_getElem?_getD,List.getElem?_eq_none (by omega)]
  simp
theorem zr9 (l:List Int) (al:Bool):(frs l al).length=64:=zfT _ _ _
theorem zuG {l:List Int} (h:lrg l) (al:Bool):lrg (frs l al):=fun i=>zgR (B:=4095) (by omega) (zmj (by omega) (fun i=>by have:=h i;omega) 64) i
theorem zmy (l:List Int) (m:List UInt8) (q:Int):(dqz l m q).length=64:=zbt _ _
theorem zr3 (y:List Int):(inv y).length=64:=zbt _ _
def adk (d b:List Int) (k:Nat):List Int:=rgI 64 fun j=>if j<k then zh d j+zh b j else zh b j
theorem zsM (d b:List Int) (k:Nat):(adk d b k).length=64:=zbt _ _
theorem zwW {d b:List Int} (h:b.length=64):adk d b 0=b:=by
 have:adk d b 0=rgI 64 (zh b):=zdE fun j _=>if_neg (by omega)
 rw [this,←h,zt1]
theorem zvf (d b:List Int) {k:Nat} (h:k<64):zh (adk d b k) k=zh b k:=by rw [adk,zbN _ h,if_neg (by omega)]
theorem zsL (d b:List Int) (k:Nat):(adk d b k).set k (zh b k+zh d k)=adk d b (k+1):=by
 rw [adk,zh6]
 refine zdE fun j hj=> ?_
 by_cases h1:j=k
 ·rw [if_pos h1,if_pos (by omega),h1,Int.add_comm]
 ·rw [if_neg h1]
  by_cases h2:j<k
  ·rw [if_pos h2,if_pos (by omega)]
  ·rw [if_neg h2,if_neg (by omega)]
theorem zsN (d b:List Int):adk d b 64=rgI 64 fun k=>zh d k+zh b k:=zdE fun j hj=>if_pos hj
theorem zu8 (p:List UInt8) (n:Nat) (fd:Bool) (k:Nat):0≤zh (blk p n fd) k∧zh (blk p n fd) k≤255:=by
 by_cases h:k<64
 ·rw [blk,zbN _ h];exact zaa _ _
 ·have hl:(blk p n fd).length=64:=zbt _ _
  unfold zh
  rw [List.getD_eq_getElem?_getD,List.getElem?_eq_none (by omega)]
  simp
set_option maxHeartbeats 6400000 in
set_option maxRecDepth 100000 in
theorem zqL (f:Fm) (hf:F16 f) (m:Mb) (i:Nat) (mat:List UInt8) (q:Int) (al:Bool) (H:za) (hi:H[i]? =some (mB m)) (hml:m.lv.length=384) (hlr:lrm m.lv) (hm:mat.length=64) (hmx:zbH mat=true) (hq:qnB q=true):
  CallOk Tryz.prog 135 [.agg (fmc f),.ptr i 0 0,.agg (bs mat),.int .i64 q,.bool al] H (.tup [.agg (fmc (addN m al mat q f 6)),.int .i64 0]) H:=by
 have hil:=(List.getElem?_eq_some_iff.1 hi).1
 have hx:=fun K=>zY (K:=K) hi
 have e1:=zrS m
 have e2:=zrR m
 have e3:=fun n=>zrQ m n
 have e4:=zb8 m hml
 have hcl:(cdl m).length=6:=rfl
 have hcl2:(fs (cdl m)).length=6:=rfl
 have hg:=fun n (hn:n<6)=>zlb (cdl m) n hn
 have hcm:(bs mat).all PV.cell=true:=by simp [bs,PV.cell]
 have tkm:List.take 64 (bs mat)=bs mat:=List.take_of_length_le (by rw [ze];omega)
 have lm:(bs mat).length=64:=by rw [ze,hm]
 refine CallOk.body (F0:=[(0,.agg (fmc f)),(1,.ptr i 0 0),(2,.agg (bs mat)),(3,.int .i64 q),(4,.bool al)]) Tryz.func135 rfl Tryz.ntmps135 Tryz.results135 rfl (by kernel_rfl) rfl ?_
 have f5:(fmc f).all PV.cell=true:=rfl
 refine PW.f (fun K k=>by simp (disch:=omega) only [go_sem,↓reduceIte,reduceCtorEq,hcm,f5];exact k) ?_
 refine PW.f (fun K k=>by simp (disch:=omega) only [go_sem,↓reduceIte,reduceCtorEq,hi,hx,mB,e1,e4];exact k) ?_
 (repeat refine PW.seq ?_);refine PW.block (PW.loop ?_)
 suffices h1:∀ n:Nat,n≤6→PL Tryz.prog _ _ [(1,.ptr i 0 0),(3,.int .i64 q),(4,.bool al),(5,.ptr H.length 0 0),(7,.ptr (H.length+1) 0 0),(10,.ptr (H.length+2) 0 0),(22,.agg (fs (cdl m))),(23,.int .i64 (n:Int))] (H++[⟨33,0,fmc (addN m al mat q f n)⟩,⟨27,0,bs mat⟩,⟨33,0,[.int .i64 0,.int .i64 0,.slice [] 0 true,.slice [] 0 true,.slice [] 0 true]⟩]) _ by
  exact PL.at [1,3,4,5,7,10,22,23] (h1 0 (by omega)) rfl rfl
 refine cnt 6 (fun n hn ih=> ?_) ?_
 ·have ct:=zhk hn
  refine PL.round ?_;refine PW.e ?_;refine PW.t ?_
  refine PW.skip ?_;(repeat refine PW.seq ?_);refine PW.block ?_
  refine PW.f (fun K k=>by simp (disch:=omega) only [go_sem,↓reduceIte,reduceCtorEq,hg,hcl2];exact k) ?_
  refine PW.e ?_
  (repeat refine PW.seq ?_);refine PW.cond (t:=_) rfl (fun h=> ?_) (fun h=> ?_)
  ·have hc:zaz (cdl m) n=false:=by simpa using h
   rw [addN,hc,if_neg (by simp)] at ih
   refine PW.exit ?_
   refine PW.e ?_
   exact PL.at [1,3,4,5,7,10,22,23] ih rfl rfl
  have hc:zaz (cdl m) n=true:=by simpa using h
  rw [addN,hc,if_pos rfl] at ih
  have g16:=hf.addN m al mat q n (by omega)
  obtain ⟨g,hgg⟩:∃ g,addN m al mat q f n=g:=⟨_,rfl⟩
  rw [hgg] at g16 ih ⊢
  have g7:(fmc g).length=5:=rfl
  have g8:List.take 5 (fmc g)=fmc g:=rfl
  have ll:=zrX m.lv n hml hn
  have lr:=zur hlr n
  have c1:=fun K=>zjY (lvl m.lv n) al ll K
  have c2:=fun K=>zlk (frs (lvl m.lv n) al) mat q (zr9 _ _) (zuG lr al) hm hmx hq K
  have hr:rsd m.lv al mat q n=inv (dqz (frs (lvl m.lv n) al) mat q):=rfl
  have c3:=fun K=>zk7 (dqz (frs (lvl m.lv n) al) mat q) (zmy _ _ _) K
  rw [←hr] at c3
  have il:(rsd m.lv al mat q n).length=64:=zr3 _
  have ib:=fun k=>zuA (dqz (frs (lvl m.lv n) al) mat q) k
  rw [←hr] at ib
  have dl:=zmy (frs (lvl m.lv n) al) mat q
  have dcel:=zU (dqz (frs (lvl m.lv n) al) mat q)
  generalize dqz (frs (lvl m.lv n) al) mat q=D at c2 c3 dl dcel
  have tkD:List.take 64 (is D)=is D:=List.take_of_length_le (by rw [zt];omega)
  generalize frs (lvl m.lv n) al=S at c1 c2
  generalize rsd m.lv al mat q n=I at c3 il ib ih
  clear hr
  have c4:=fun K=>zqz g g16 n hn m.fd K
  have bb:=fun k=>zu8 (cmp g n) n m.fd k
  have bl:(blk (cmp g n) n m.fd).length=64:=zbt _ _
  have bcel:=zU (blk (cmp g n) n m.fd)
  refine PW.skip ?_
  refine PW.view (Vs.place 151) ?_
  (repeat refine PW.seq ?_);refine PW.drawi [H.length+3] [(14,[0])] [(14,0)] [37,40] mix (by kernel_rfl) (by simp<;>omega) fun K hK=> ?_
  simp (disch:=omega) only [go_sem,↓reduceIte,reduceCtorEq,zaF,hi,hx,mB,e3,e4]
  refine VCj.read (fun _ _=>c1 _) rfl ?_
  simp (disch:=omega) only [go_sem,↓reduceIte,reduceCtorEq,zaF,hi,hx,mB,e3,e4,lm,tkm]
  refine VCj.read (fun _ _=>c2 _) rfl ?_
  simp (disch:=omega) only [go_sem,↓reduceIte,reduceCtorEq,zt,dl,dcel]
  refine hK _ _ ?_;clear hK K
  refine PW.e ?_
  refine PW.us ?_
  refine PW.view (Vs.place 151) ?_
  (repeat refine PW.seq ?_);refine PW.drawi [H.length+4] [(16,[0])] [(16,0)] [54] mix (by kernel_rfl) (by simp<;>omega) fun K hK=> ?_
  simp (disch:=omega) only [go_sem,↓reduceIte,reduceCtorEq,zaF,hi,hx,mB,e2,e4,g7,g8]
  refine VCj.read (fun _ _=>c4 _) rfl ?_
  simp (disch:=omega) only [go_sem,↓reduceIte,reduceCtorEq,zt,bl,bcel]
  refine hK _ _ ?_;clear hK K
  refine PW.e ?_
  refine PW.us ?_
  refine PW.f (fun K k=>by simp (disch:=omega) only [go_sem,↓reduceIte,reduceCtorEq,zt,dl,tkD];refine VCx.call (c3 _) rfl ?_;simp (disch:=omega) only [go_sem,↓reduceIte,reduceCtorEq,zt,dl,tkD];exact k) ?_
  (repeat refine PW.seq ?_);refine PW.block (PW.loop ?_)
  suffices h2:∀ k:Nat,k≤64→PL Tryz.prog _ _ [(1,.ptr i 0 0),(3,.int .i64 q),(4,.bool al),(5,.ptr H.length 0 0),(7,.ptr (H.length+1) 0 0),(10,.ptr (H.length+2) 0 0),(12,.int .i64 (n:Int)),(16,.ptr (H.length+4) 1 0),(22,.agg (fs (cdl m))),(23,.int .i64 (n:Int)),(62,.agg (is I)),(63,.int .i64 (k:Int))] (H++[⟨33,0,fmc g⟩,⟨27,0,bs mat⟩,⟨33,0,[.int .i64 0,.int .i64 0,.slice [] 0 true,.slice [] 0 true,.slice [] 0 true]⟩,⟨151,1,is D⟩,⟨151,1,is (adk I (blk (cmp g n) n m.fd) k)⟩]) _ by
   exact PL.at [1,3,4,5,7,10,12,16,22,23,62,63] (h2 0 (by omega)) rfl (by rw [zwW bl])
  refine cnt 64 (fun k hk ih2=> ?_) ?_
  ·refine PL.round ?_;refine PW.e ?_;refine PW.t ?_
   have b1:=bb k
   have b2:=ib k
   have a1:=zvf I (blk (cmp g n) n m.fd) hk
   have a2:=zsL I (blk (cmp g n) n m.fd) k
   have a3:=zsM I (blk (cmp g n) n m.fd) k
   have a4:∀ v,((is (adk I (blk (cmp g n) n m.fd) k)).set k v).length=64:=fun v=>by simp [zt,a3]
   refine PW.skip ?_;(repeat refine PW.seq ?_);refine PW.block ?_
   refine PW.f (fun K k=>by simp (disch:=omega) only [go_sem,↓reduceIte,reduceCtorEq,zbq,zt,il];exact k) ?_
   refine PW.f (fun K k=>by simp (disch:=omega) only [go_sem,↓reduceIte,reduceCtorEq,zbq,zt,a3,a1,zbO,a2,a4];exact k) ?_
   refine PW.e ?_
   exact PL.at [1,3,4,5,7,10,12,16,22,23,62,63] ih2 rfl rfl
  refine PL.round ?_;refine PW.e ?_;refine PW.u ?_
  refine PW.exit ?_
  rw [zsN]
  have xl:(rgI 64 fun k=>zh I k+zh (blk (cmp g n) n m.fd) k).length=64:=zbt _ _
  have c5:=fun K=>zjo g g16 n hn m.fd (rgI 64 fun k=>zh I k+zh (blk (cmp g n) n m.fd) k) xl K
  have e5:zhb g n (zeh (cmp g n) n m.fd (rgI 64 fun k=>zh I k+zh (blk (cmp g n) n m.fd) k))=addB g n m.fd I:=rfl
  rw [e5] at c5
  generalize (rgI 64 fun k=>zh I k+zh (blk (cmp g n) n m.fd) k)=X at xl c5
  have xt:List.take 64 (is X)=is X:=List.take_of_length_le (by rw [zt];omega)
  generalize addB g n m.fd I=g' at c5 ih
  have g5:(fmc g').all PV.cell=true:=rfl
  have g6:(fmc g').length=5:=rfl
  have g9:List.drop 5 (fmc g)=[]:=rfl
  (repeat refine PW.seq ?_);refine PW.drawi [H.length] [(5,[0])] [] [82] mix (by kernel_rfl) (by simp<;>omega) fun K hK=> ?_
  simp (disch:=omega) only [go_sem,↓reduceIte,reduceCtorEq,zaF,hi,hx,mB,e2,e4,zt,xl,xt,g7,g8]
  refine VCj.read (fun _ _=>c5 _) rfl ?_
  simp (disch:=omega) only [go_sem,↓reduceIte,reduceCtorEq,g5,g6,g7,g8,g9]
  refine hK _ _ ?_;clear hK K
  refine PW.e ?_
  refine PW.us ?_
  refine PW.e ?_
  refine PL.view (Vs.trim (F1:=[(1,.ptr i 0 0),(3,.int .i64 q),(4,.bool al),(5,.ptr H.length 0 0),(7,.ptr (H.length+1) 0 0),(10,.ptr (H.length+2) 0 0),(22,.agg (fs (cdl m))),(23,.int .i64 ((n+1:Nat):Int))]) (H1:=H++[⟨33,0,fmc g'⟩,⟨27,0,bs mat⟩,⟨33,0,[.int .i64 0,.int .i64 0,.slice [] 0 true,.slice [] 0 true,.slice [] 0 true]⟩]) (ziA ?_) (by simp) (List.append_assoc _ [_,_,_] [_,_]).symm ?_) ih
  ·intro b hb z hz
   simp only [List.mem_cons,List.not_mem_nil,or_false] at hb
   rcases hb with rfl|rfl|rfl
   ·exact za3 _ _ _ _ _ _ _ _ _ _ _ _ z hz
   ·exact zq _ _ z hz
   ·exact za3 _ 0 0 [] [] [] _ _ _ _ _ _ z hz
  ·rw [hl3]
   exact ⟨.id (.ptr (by omega)),.id (.int _ _),.id (.bool _),.id (.ptr (by omega)),.id (.ptr (by omega)),.id (.ptr (by omega)),.id (zB (zhJ _ _)),.id (.int _ _),trivial⟩
 refine PL.round ?_;refine PW.e ?_;refine PW.u ?_
 refine PW.exit ?_
 obtain ⟨g,hgg⟩:∃ g,addN m al mat q f 6=g:=⟨_,rfl⟩
 rw [hgg]
 have g5:(fmc g).all PV.cell=true:=rfl
 have g7:(fmc g).length=5:=rfl
 have g8:List.take 5 (fmc g)=fmc g:=rfl
 have g9:List.drop 5 [PV.int .i64 0,PV.int .i64 0,PV.slice [] 0 true,PV.slice [] 0 true,PV.slice [] 0 true]=[]:=rfl
 refine PW.f (fun K k=>by simp (disch:=omega) only [go_sem,↓reduceIte,reduceCtorEq,g5,g7,g8,g9];exact k) ?_
 refine PW.ret ⟨.tup [.agg (fmc g),.int .i64 0],by simp (disch:=omega) only [go_sem,↓reduceIte,reduceCtorEq,zd,zg,List.mapM_cons,List.mapM_nil,Option.pure_def,Option.bind_eq_bind,Option.bind_some,Array.toList,g7,g8],?_⟩
 exact Fin.base (.id (zQ _ _ _ _ _ _ _ _ _ _))
theorem rows_in {W R X Y w h L:Nat} (hp:L=W * R) (hx:X+w≤W) (hy:Y+h≤R):∀ k,k<h→Y * W+X+k * W+w≤L:=fun k hk=>by
 have h1:(Y+k+1) * W≤R * W:=Nat.mul_le_mul_right _ (by omega)
 rw [Nat.add_mul,Nat.add_mul,Nat.one_mul] at h1
 rw [hp,Nat.mul_comm W R]
 omega
theorem ziC {f:Fm} (h:fvd f=true):∃ A B:Nat,1≤A∧A≤4∧1≤B∧B≤4∧f.w=((16 * A:Nat):Int)∧f.h=((16 * B:Nat):Int)∧f.y.length=16 * A * (16 * B)∧f.u.length=8 * A * (8 * B)∧f.v.length=8 * A * (8 * B):=by
 obtain ⟨w,ht,y,u,v⟩:=f
 simp only [fvd,fmd,Bool.and_eq_true,decide_eq_true_eq] at h
 obtain ⟨⟨hs,hy,hu,hv⟩,hw,hh⟩:=h
 obtain ⟨g1,g2,g3,g4,g5,g6⟩:=zcW hs
 obtain ⟨A,hA⟩:∃ A:Nat,(w / 16).toNat=A:=⟨_,rfl⟩
 obtain ⟨B,hB⟩:∃ B:Nat,(ht / 16).toNat=B:=⟨_,rfl⟩
 have e1:w=((16 * A:Nat):Int):=by omega
 have e2:ht=((16 * B:Nat):Int):=by omega
 have e3:w / 2=((8 * A:Nat):Int):=by omega
 have e4:ht / 2=((8 * B:Nat):Int):=by omega
 rw [e3,e4] at hu hv
 rw [e1,e2] at hy
 refine ⟨A,B,by omega,by omega,by omega,by omega,e1,e2,?_,?_,?_⟩
 ·exact Int.ofNat_inj.1 (hy.trans (Int.natCast_mul _ _).symm)
 ·exact Int.ofNat_inj.1 (hu.trans (Int.natCast_mul _ _).symm)
 ·exact Int.ofNat_inj.1 (hv.trans (Int.natCast_mul _ _).symm)
theorem F16.fmd {f:Fm} (h:F16 f):fmd f=true:=by
 have:=h.fvd
 unfold Sc.fvd at this
 rw [Bool.and_eq_true] at this
 exact this.1
theorem zlV {c:Cx} {si sq:List UInt8} {al:Bool} {q:Int} {m:Mb} {pa fu fi:Fm} {mx my:Int} (h:(zgt c si sq al q m pa fu fi mx my).2=0):F16 (zgt c si sq al q m pa fu fi mx my).1:=by
 unfold zgt at h ⊢
 split at h
 ·rename_i hok
  rw [if_pos hok]
  by_cases h1:m.k=1
  ·rw [if_pos h1];exact F16.gry.addN _ _ _ _ 6 (by omega)
  ·rw [if_neg h1] at h ⊢
   generalize (if m.k=0 then stl c else m)=m' at h ⊢
   split at h
   ·rename_i h2;exact absurd h h2
   ·rename_i h2;rw [if_neg h2];exact (zoZ (Decidable.not_not.1 h2)).addN _ _ _ _ 6 (by omega)
 ·simp at h
end Go.Proofs.YtjgmdlcjbgiekaaGreatDoor.Sc
