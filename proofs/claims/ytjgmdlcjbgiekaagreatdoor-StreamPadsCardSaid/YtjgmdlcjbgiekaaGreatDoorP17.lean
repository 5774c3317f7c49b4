/-
  Parts of the proof, put together in one text. No condition.
-/
import Derived.Test.YtjgmdlcjbgiekaaGreatDoorP16
namespace Go.Proofs.YtjgmdlcjbgiekaaGreatDoor.Sc
set_option linter.all false
open Pm Ty Go.RowKit
theorem ztD (x y:Int) (H:za):CallOk Tryz.prog 294 [.agg [.int .i64 x,.int .i64 y]] H (.bool (vrg x y)) H:=by
 refine CallOk.body (F0:=[(0,.agg [.int .i64 x,.int .i64 y])]) Tryz.func294 rfl Tryz.ntmps294 Tryz.results294 rfl (by kernel_rfl) rfl ?_
 (repeat' (first|refine PW.seq ?_|refine PW.skip ?_|refine PW.block ?_|((first|refine PW.rg rfl fun K hK=> ?_|refine PW.draw mix (by kernel_rfl) fun K hK=> ?_);simp (disch:=omega) only [go_sem,↓reduceIte,reduceCtorEq])|((first|refine zk ?_ ?_|refine zn ?_ ?_|refine And.intro ?_ ?_)<;>intro h<;>(try simp only [nqb] at h)<;>simp (disch:=omega) only [go_sem,↓reduceIte,reduceCtorEq,h])|(refine hK _ _ ?_;clear hK K)|(refine PW.cond (t:=_) rfl (fun h=> ?_) (fun h=> ?_)<;>(try (cases h;done))<;>(try simp only [nqb] at h))))
 all_goals ((refine PW.ret ⟨_,rfl,?_⟩;first|refine .inl ⟨?_,rfl⟩|refine Fin.base (.id' ?_ (.bool _))|refine Fin.base (.id' ?_ (.int _ _)));(simp_all [vrg,win,slot,Nat.beq]<;>first|rfl|omega|(rw [Bool.eq_iff_iff];simp;done)|(rw [Bool.eq_iff_iff];simp;omega)))
def zfF (f:Fm) (x y h:Int):Bool:=decide (0≤x)&&(decide (x%2=0)&&(decide (x≤f.w - 16)&&(decide (0≤y)&&(decide (y%2=0)&&decide (y≤f.h - h)))))
def zhg (f:Fm) (x y:Int) (h:Nat) (vx vy:Int):Fm×Int:=
 if (fmd f&&zfF f x y h)=true then (if vrg vx vy=true then (prdF f x y h vx vy,0) else (f0,2)) else (f0,1)
theorem zoX (f:Fm) (x y:Int) (h:Nat) (vx vy:Int):fmc (prdF f x y h vx vy)=[.int .i64 16,.int .i64 (h:Int),.slice (bs (prdF f x y h vx vy).y) (16 * h) false,.slice (bs (prdF f x y h vx vy).u) (8 * (h / 2)) false,.slice (bs (prdF f x y h vx vy).v) (8 * (h / 2)) false]:=by
 have l1:(prdF f x y h vx vy).y.length=16 * h:=zan _ _ _ _ _ _ _ _ _
 have l2:(prdF f x y h vx vy).u.length=8 * (h / 2):=zan _ _ _ _ _ _ _ _ _
 have l3:(prdF f x y h vx vy).v.length=8 * (h / 2):=zan _ _ _ _ _ _ _ _ _
 unfold fmc
 rw [l1,l2,l3]
 rfl
theorem zsf {f:Fm} (h:fmd f=true):∃ V K:Nat,1≤V∧V≤32∧1≤K∧K≤32∧f.w=((2 * V:Nat):Int)∧f.h=((2 * K:Nat):Int)∧f.y.length=2 * V * (2 * K)∧f.u.length=V * K∧f.v.length=V * K:=by
 obtain ⟨w,ht,y,u,v⟩:=f
 simp only [fmd,Bool.and_eq_true,decide_eq_true_eq] at h
 obtain ⟨hs,hy,hu,hv⟩:=h
 obtain ⟨g1,g2,g3,g4,g5,g6⟩:=zcV hs
 obtain ⟨A,hA⟩:∃ A:Nat,(w / 2).toNat=A:=⟨_,rfl⟩
 obtain ⟨B,hB⟩:∃ B:Nat,(ht / 2).toNat=B:=⟨_,rfl⟩
 have e1:w=((2 * A:Nat):Int):=by omega
 have e2:ht=((2 * B:Nat):Int):=by omega
 have e3:w / 2=(A:Int):=by omega
 have e4:ht / 2=(B:Int):=by omega
 rw [e3,e4] at hu hv
 rw [e1,e2] at hy
 refine ⟨A,B,by omega,by omega,by omega,by omega,e1,e2,?_,?_,?_⟩
 ·exact Int.ofNat_inj.1 (hy.trans (Int.natCast_mul _ _).symm)
 ·exact Int.ofNat_inj.1 (hu.trans (Int.natCast_mul _ _).symm)
 ·exact Int.ofNat_inj.1 (hv.trans (Int.natCast_mul _ _).symm)
set_option maxHeartbeats 3200000 in
set_option maxRecDepth 10000 in
theorem zde (f:Fm) (x y vx vy:Int) (hg:Nat) (hgb:hg=8∨hg=16) (hb: -10000≤x∧x≤10000∧-10000≤y∧y≤10000) (H:za):
  CallOk Tryz.prog 219 [.agg (fmc f),.int .i64 x,.int .i64 y,.int .i64 16,.int .i64 (hg:Int),.agg [.int .i64 vx,.int .i64 vy]] H (.tup [.agg (fmc (zhg f x y hg vx vy).1),.int .i64 (zhg f x y hg vx vy).2]) H:=by
 have fo:=fun K=>zaS f K
 have vo:=fun K=>ztD vx vy K
 have h16:((hg:Int) !=8&&(hg:Int) !=16)=false:=by rcases hgb with rfl|rfl<;>rfl
 generalize hr:zhg f x y hg vx vy=r
 have hrf:r=zhg f x y hg vx vy:=hr.symm
 obtain ⟨w,ht,Y,U,V⟩:=f
 by_cases hf:fmd ⟨w,ht,Y,U,V⟩=true
 case neg=>
  have hf:fmd ⟨w,ht,Y,U,V⟩=false:=by simpa using hf
  rw [hf] at fo
  rw [zhg,hf,Bool.false_and,if_neg (by simp)] at hr
  simp only [fmc] at fo ⊢
  refine CallOk.body (F0:=[(0,.agg [.int .i64 w,.int .i64 ht,.slice (bs Y) Y.length false,.slice (bs U) U.length false,.slice (bs V) V.length false]),(1,.int .i64 x),(2,.int .i64 y),(3,.int .i64 16),(4,.int .i64 (hg:Int)),(5,.agg [.int .i64 vx,.int .i64 vy])]) Tryz.func219 rfl Tryz.ntmps219 Tryz.results219 rfl (by kernel_rfl) rfl ?_
  refine PW.e ?_
  (repeat refine PW.seq ?_)
  refine PW.rgv (P:=Tryz.prog) [6,12,13] 31 (.bool true) ?_ ?_ ?_
  ·rfl
  ·simp (disch:=omega) only [go_sem,↓reduceIte,reduceCtorEq];(repeat' (first|((first|refine zk ?_ ?_|refine And.intro ?_ ?_)<;>intro h<;>(try simp only [nqb] at h)<;>simp (disch:=omega) only [go_sem,↓reduceIte,reduceCtorEq,h])|((first|refine VCx.call (fo _) rfl ?_);simp (disch:=omega) only [go_sem,↓reduceIte,reduceCtorEq])))
   all_goals (simp_all [slot,Nat.beq]<;>first|rfl|omega|(rw [Bool.eq_iff_iff];simp;done)|(rw [Bool.eq_iff_iff];simp;omega))
  (repeat refine PW.seq ?_);refine PW.cond (t:=_) rfl (fun h=> ?_) (fun h=> ?_)
  rotate_left
  ·cases h
  refine PW.e ?_
  refine PW.ret ⟨.tup [.agg [.int .i64 0,.int .i64 0,.slice [] 0 true,.slice [] 0 true,.slice [] 0 true],.int .i64 1],by simp (disch:=omega) only [go_sem,↓reduceIte,reduceCtorEq,zd,zg,List.mapM_cons,List.mapM_nil,Option.pure_def,Option.bind_eq_bind,Option.bind_some,Array.toList],?_⟩
  rw [←hr]
  exact Fin.base (fz0 _ _ _)
 rw [hf] at fo
 rw [zhg,hf,Bool.true_and] at hr
 obtain ⟨A,B,a1,a2,b1,b2,ew,eh,ly,lu,lv⟩:=zsf hf
 simp only at ew eh ly lu lv
 subst ew eh
 simp only [fmc] at fo ⊢
 refine CallOk.body (F0:=[(0,.agg [.int .i64 ((2 * A:Nat):Int),.int .i64 ((2 * B:Nat):Int),.slice (bs Y) Y.length false,.slice (bs U) U.length false,.slice (bs V) V.length false]),(1,.int .i64 x),(2,.int .i64 y),(3,.int .i64 16),(4,.int .i64 (hg:Int)),(5,.agg [.int .i64 vx,.int .i64 vy])]) Tryz.func219 rfl Tryz.ntmps219 Tryz.results219 rfl (by kernel_rfl) rfl ?_
 refine PW.e ?_
 (repeat refine PW.seq ?_)
 refine PW.rgv (P:=Tryz.prog) [1,2,3,4,6,11,12,13] 31 (.bool false) ?_ ?_ ?_
 ·rfl
 ·clear hr
  rcases hgb with rfl|rfl
  all_goals (simp (disch:=omega) only [go_sem,↓reduceIte,reduceCtorEq];(repeat' (first|((first|refine zk ?_ ?_|refine And.intro ?_ ?_)<;>intro h<;>(try simp only [nqb] at h)<;>simp (disch:=omega) only [go_sem,↓reduceIte,reduceCtorEq,h])|((first|refine VCx.call (fo _) rfl ?_);simp (disch:=omega) only [go_sem,↓reduceIte,reduceCtorEq]))))
  all_goals (simp_all [slot,Nat.beq]<;>first|rfl|omega|(rw [Bool.eq_iff_iff];simp;done)|(rw [Bool.eq_iff_iff];simp;omega))
 (repeat refine PW.seq ?_);refine PW.cond (t:=_) rfl (fun h=> ?_) (fun h=> ?_)
 ·cases h
 refine PW.skip ?_
 (repeat refine PW.seq ?_)
 refine PW.rgv (P:=Tryz.prog) [1,2,3,4,6,11,12,13] 64 (.bool (!(zfF ⟨((2 * A:Nat):Int),((2 * B:Nat):Int),Y,U,V⟩ x y hg))) ?_ ?_ ?_
 ·rfl
 ·clear hr fo vo
  simp (disch:=omega) only [go_sem,↓reduceIte,reduceCtorEq];(repeat' ((first|refine zk ?_ ?_|refine zn ?_ ?_|refine zT ?_ ?_|refine zS ?_ ?_|refine zR ?_ ?_|refine And.intro ?_ ?_)<;>intro h<;>(try simp only [nqb] at h)<;>simp (disch:=omega) only [go_sem,↓reduceIte,reduceCtorEq,zP,h]))
  all_goals (simp_all [zfF,slot,Nat.beq]<;>first|rfl|omega|(rw [Bool.eq_iff_iff];simp;done)|(rw [Bool.eq_iff_iff];simp;omega))
 (repeat refine PW.seq ?_);refine PW.cond (t:=_) rfl (fun h=> ?_) (fun h=> ?_)
 ·have hp:zfF ⟨((2 * A:Nat):Int),((2 * B:Nat):Int),Y,U,V⟩ x y hg=false:=by simpa using h
  rw [hp,if_neg (by simp)] at hr
  refine PW.e ?_
  refine PW.ret ⟨.tup [.agg [.int .i64 0,.int .i64 0,.slice [] 0 true,.slice [] 0 true,.slice [] 0 true],.int .i64 1],by simp (disch:=omega) only [go_sem,↓reduceIte,reduceCtorEq,zd,zg,List.mapM_cons,List.mapM_nil,Option.pure_def,Option.bind_eq_bind,Option.bind_some,Array.toList],?_⟩
  rw [←hr]
  exact Fin.base (fz0 _ _ _)
 have hp:zfF ⟨((2 * A:Nat):Int),((2 * B:Nat):Int),Y,U,V⟩ x y hg=true:=by simpa using h
 rw [hp,if_pos rfl] at hr
 refine PW.skip ?_
 refine PW.f (fun K k=>by simp (disch:=omega) only [go_sem,↓reduceIte,reduceCtorEq];refine VCx.call (vo _) rfl ?_;simp (disch:=omega) only [go_sem,↓reduceIte,reduceCtorEq];exact k) ?_
 (repeat refine PW.seq ?_);refine PW.cond (t:=_) rfl (fun h=> ?_) (fun h=> ?_)
 ·have hv:vrg vx vy=false:=by simpa using h
  rw [hv,if_neg (by simp)] at hr
  refine PW.e ?_
  refine PW.ret ⟨.tup [.agg [.int .i64 0,.int .i64 0,.slice [] 0 true,.slice [] 0 true,.slice [] 0 true],.int .i64 2],by simp (disch:=omega) only [go_sem,↓reduceIte,reduceCtorEq,zd,zg,List.mapM_cons,List.mapM_nil,Option.pure_def,Option.bind_eq_bind,Option.bind_some,Array.toList],?_⟩
  rw [←hr]
  exact Fin.base (fz0 _ _ _)
 have hv:vrg vx vy=true:=by simpa using h
 rw [hv,if_pos rfl] at hr
 refine PW.skip ?_
 have hvb: -63≤vx∧vx≤63∧-63≤vy∧vy≤63:=by simp [vrg,win] at hv;omega
 simp only [zfF,Bool.and_eq_true,decide_eq_true_eq] at hp
 obtain ⟨p1,p2,p3,p4,p5,p6⟩:=hp
 have d1:((2 * A:Nat):Int).tdiv 2=(A:Int):=by rw [zx _ _ (by omega)];omega
 have d2:((2 * B:Nat):Int).tdiv 2=(B:Int):=by rw [zx _ _ (by omega)];omega
 have d3:x.tdiv 2=x / 2:=zx _ _ (by omega)
 have d4:y.tdiv 2=y / 2:=zx _ _ (by omega)
 have d5:(hg:Int).tdiv 2=((hg / 2:Nat):Int):=by rw [zx _ _ (by omega)];omega
 have d6:(16:Int).tdiv 2=8:=rfl
 have t1: -63≤vx.tdiv 2∧vx.tdiv 2≤63:=by have:=zec vx 2;omega
 have t2: -63≤vy.tdiv 2∧vy.tdiv 2≤63:=by have:=zec vy 2;omega
 have c1:=fun K=>zdU Y (2 * A) (2 * B) 16 hg x y vx vy K ly (by omega) (by omega) (by omega) (by omega) (by omega) hvb
 have c2:=fun K=>zdU U A B 8 (hg / 2) (x / 2) (y / 2) (vx.tdiv 2) (vy.tdiv 2) K lu (by omega) (by omega) (by omega) (by omega) (by omega) (by omega)
 have c3:=fun K=>zdU V A B 8 (hg / 2) (x / 2) (y / 2) (vx.tdiv 2) (vy.tdiv 2) K lv (by omega) (by omega) (by omega) (by omega) (by omega) (by omega)
 have q1:(prdF ⟨((2 * A:Nat):Int),((2 * B:Nat):Int),Y,U,V⟩ x y hg vx vy).y=prd Y ((2 * A:Nat):Int) ((2 * B:Nat):Int) x y 16 hg vx vy:=rfl
 have dA:((2 * A:Nat):Int) / 2=(A:Int):=by omega
 have dB:((2 * B:Nat):Int) / 2=(B:Int):=by omega
 have q2:(prdF ⟨((2 * A:Nat):Int),((2 * B:Nat):Int),Y,U,V⟩ x y hg vx vy).u=prd U (A:Int) (B:Int) (x / 2) (y / 2) 8 (hg / 2) (vx.tdiv 2) (vy.tdiv 2):=by
  show prd U (((2 * A:Nat):Int) / 2) (((2 * B:Nat):Int) / 2) _ _ _ _ _ _=_
  rw [dA,dB]
 have q3:(prdF ⟨((2 * A:Nat):Int),((2 * B:Nat):Int),Y,U,V⟩ x y hg vx vy).v=prd V (A:Int) (B:Int) (x / 2) (y / 2) 8 (hg / 2) (vx.tdiv 2) (vy.tdiv 2):=by
  show prd V (((2 * A:Nat):Int) / 2) (((2 * B:Nat):Int) / 2) _ _ _ _ _ _=_
  rw [dA,dB]
 have hc:=zoX ⟨((2 * A:Nat):Int),((2 * B:Nat):Int),Y,U,V⟩ x y hg vx vy
 rw [q1,q2,q3] at hc
 generalize prd Y ((2 * A:Nat):Int) ((2 * B:Nat):Int) x y 16 hg vx vy=PY at c1 hc
 generalize prd U (A:Int) (B:Int) (x / 2) (y / 2) 8 (hg / 2) (vx.tdiv 2) (vy.tdiv 2)=PU at c2 hc
 generalize prd V (A:Int) (B:Int) (x / 2) (y / 2) 8 (hg / 2) (vx.tdiv 2) (vy.tdiv 2)=PV1 at c3 hc
 have hcr:fmc r.1=[.int .i64 16,.int .i64 (hg:Int),.slice (bs PY) (16 * hg) false,.slice (bs PU) (8 * (hg / 2)) false,.slice (bs PV1) (8 * (hg / 2)) false]:=by rw [←hr];exact hc
 have hcr2:r.2=0:=by rw [←hr]
 simp only [fmc] at hcr
 rw [hcr,hcr2]
 clear hr hrf q1 q2 q3 hc hcr
 refine PW.e ?_
 refine PW.f (fun K k=>by simp (disch:=omega) only [go_sem,↓reduceIte,reduceCtorEq,d3,d4,d5,d6];exact k) ?_
 (repeat refine PW.seq ?_);refine PW.draw mix (by kernel_rfl) fun K hK=> ?_;simp (disch:=omega) only [go_sem,↓reduceIte,reduceCtorEq,d1,d2]
 (repeat' (first|((first|refine zn ?_ ?_|refine And.intro ?_ ?_)<;>intro h<;>(try simp only [nqb] at h)<;>simp (disch:=omega) only [go_sem,↓reduceIte,reduceCtorEq,d1,d2,h])|((first|refine VCy.call (c1 _) rfl ?_|refine VCy.call (c2 _) rfl ?_|refine VCy.call (c3 _) rfl ?_);simp (disch:=omega) only [go_sem,↓reduceIte,reduceCtorEq,d1,d2])))
 refine hK _ _ ?_;clear hK K
 refine PW.ret ⟨.tup [.agg [.int .i64 16,.int .i64 (hg:Int),.slice (bs PY) (16 * hg) false,.slice (bs PU) (8 * (hg / 2)) false,.slice (bs PV1) (8 * (hg / 2)) false],.int .i64 0],by simp (disch:=omega) only [go_sem,↓reduceIte,reduceCtorEq,zd,zg,List.mapM_cons,List.mapM_nil,Option.pure_def,Option.bind_eq_bind,Option.bind_some,Array.toList],?_⟩
 exact Fin.base (.id (zO _ _ _ _ _ _ _ _ _ _))
theorem zws {a:Fm} (h:F16 a) (b:Fm):fmc (mnF a b)=[.int .i64 16,.int .i64 16,.slice (bs (mnb a.y b.y)) 256 false,.slice (bs (mnb a.u b.u)) 64 false,.slice (bs (mnb a.v b.v)) 64 false]:=by
 have h':=zps h b
 unfold fmc
 rw [h'.ly,h'.lu,h'.lv,h'.w,h'.h]
 rfl
set_option maxHeartbeats 1600000 in
theorem zln (a b:Fm) (ha:F16 a) (hb:F16 b) (H:za):CallOk Tryz.prog 221 [.agg (fmc a),.agg (fmc b)] H (.tup [.agg (fmc (mnF a b)),.int .i64 0]) H:=by
 have fa:=fun K=>zaS a K
 have fb:=fun K=>zaS b K
 have va:=ha.fvd
 have vb:=hb.fvd
 unfold fvd at va vb
 rw [Bool.and_eq_true] at va vb
 rw [va.1] at fa
 rw [vb.1] at fb
 rw [zws ha]
 obtain ⟨w,ht,y,u,v⟩:=a
 obtain ⟨w',ht',y',u',v'⟩:=b
 obtain ⟨hw,hh,l1,l2,l3⟩:=ha
 obtain ⟨hw',hh',l1',l2',l3'⟩:=hb
 simp only at hw hh l1 l2 l3 hw' hh' l1' l2' l3'
 subst hw hh hw' hh'
 have m1:=fun K=>zio y y' false false K (by omega) (by omega)
 have m2:=fun K=>zio u u' false false K (by omega) (by omega)
 have m3:=fun K=>zio v v' false false K (by omega) (by omega)
 simp only [fmc,l1,l2,l3,l1',l2',l3'] at fa fb m1 m2 m3 ⊢
 refine CallOk.body (F0:=[(0,.agg [.int .i64 16,.int .i64 16,.slice (bs y) 256 false,.slice (bs u) 64 false,.slice (bs v) 64 false]),(1,.agg [.int .i64 16,.int .i64 16,.slice (bs y') 256 false,.slice (bs u') 64 false,.slice (bs v') 64 false])]) Tryz.func221 rfl Tryz.ntmps221 Tryz.results221 rfl (by kernel_rfl) rfl ?_
 refine PW.e ?_
 (repeat refine PW.seq ?_)
 refine PW.rgv (P:=Tryz.prog) [2,3,4] 27 (.bool false) ?_ ?_ ?_
 ·rfl
 ·simp (disch:=omega) only [go_sem,↓reduceIte,reduceCtorEq];(repeat' (first|((first|refine zk ?_ ?_|refine And.intro ?_ ?_)<;>intro h<;>(try simp only [nqb] at h)<;>simp (disch:=omega) only [go_sem,↓reduceIte,reduceCtorEq,h])|((first|refine VCx.call (fa _) rfl ?_|refine VCx.call (fb _) rfl ?_);simp (disch:=omega) only [go_sem,↓reduceIte,reduceCtorEq])))
  all_goals (simp_all [slot,Nat.beq]<;>first|rfl|omega|(rw [Bool.eq_iff_iff];simp;done)|(rw [Bool.eq_iff_iff];simp;omega))
 (repeat refine PW.seq ?_);refine PW.cond (t:=_) rfl (fun h=> ?_) (fun h=> ?_)
 ·cases h
 refine PW.skip ?_
 (repeat refine PW.seq ?_);refine PW.draw mix (by kernel_rfl) fun K hK=> ?_;simp (disch:=omega) only [go_sem,↓reduceIte,reduceCtorEq]
 (repeat' (first|((first|refine zn ?_ ?_|refine And.intro ?_ ?_)<;>intro h<;>(try simp only [nqb] at h)<;>simp (disch:=omega) only [go_sem,↓reduceIte,reduceCtorEq,h])|((first|refine VCy.call (m1 _) rfl ?_|refine VCy.call (m2 _) rfl ?_|refine VCy.call (m3 _) rfl ?_);simp (disch:=omega) only [go_sem,↓reduceIte,reduceCtorEq])))
 refine hK _ _ ?_;clear hK K
 refine PW.ret ⟨.tup [.agg [.int .i64 16,.int .i64 16,.slice (bs (mnb y y')) 256 false,.slice (bs (mnb u u')) 64 false,.slice (bs (mnb v v')) 64 false],.int .i64 0],by simp (disch:=omega) only [go_sem,↓reduceIte,reduceCtorEq,zd,zg,List.mapM_cons,List.mapM_nil,Option.pure_def,Option.bind_eq_bind,Option.bind_some,Array.toList],?_⟩
 exact Fin.base (.id (zO _ _ _ _ _ _ _ _ _ _))
theorem zrV (m:Mb):List.take 6 (List.drop 18 (mbc m))=fs (cdl m):=rfl
theorem zrU (m:Mb):(mbc m)[4]? =some (.bool m.fd):=rfl
theorem zrS (m:Mb) (n:Nat):List.take 64 (List.drop (24+n * 64) (mbc m))=is (lvl m.lv n):=by
 rw [show 24+n * 64=n * 64+24 by omega]
 show List.take 64 (List.drop (n * 64) (is m.lv))=_
 rw [zev,zdy];rfl
theorem zb3 (m:Mb) (hl:m.lv.length=384):(mbc m).length=408:=by simp [mbc,is,hl]
theorem zrZ (lv:List Int) (n:Nat) (hl:lv.length=384) (hn:n<6):(lvl lv n).length=64:=by simp [lvl,hl];omega
def lrm (lv:List Int):Prop:=∀ i,-4095≤zh lv i∧zh lv i≤4095
theorem zuu {lv:List Int} (h:lrm lv) (n:Nat):lrg (lvl lv n):=fun i=>by
 unfold lvl zh
 rw [List.getD_eq_getElem?_getD,List.getElem?_take]
 split
 ·rw [List.getElem?_drop]
  have:=h (n * 64+i)
  unfold zh at this
  rw [List.getD_eq_getElem?_getD] at this
  exact this
 ·simp
theorem zpE {lv:List Int} (hl:lv.length=384) (h:lvr lv=true):lrm lv:=fun i=>by
 by_cases hi:i<384
 ·have:=List.all_eq_true.1 h i (List.mem_range.2 hi)
  simp [win] at this;omega
 ·unfold zh
  rw [List.getD_eq_getElem?_getD,List.getElem?_eq_none (by omega)]
  simp
theorem zsc (l:List Int) (al:Bool):(frs l al).length=64:=zfT _ _ _
theorem zuH {l:List Int} (h:lrg l) (al:Bool):lrg (frs l al):=fun i=>zgR (B:=4095) (by omega) (zma (by omega) (fun i=>by have:=h i;omega) 64) i
theorem zmo (l:List Int) (m:List UInt8) (q:Int):(dqz l m q).length=64:=zbs _ _
theorem zr7 (y:List Int):(inv y).length=64:=zbs _ _
def adk (d b:List Int) (k:Nat):List Int:=rgI 64 fun j=>if j<k then zh d j+zh b j else zh b j
theorem zsP (d b:List Int) (k:Nat):(adk d b k).length=64:=zbs _ _
theorem zw0 {d b:List Int} (h:b.length=64):adk d b 0=b:=by
 have:adk d b 0=rgI 64 (zh b):=zdw fun j _=>if_neg (by omega)
 rw [this,←h,zt4]
theorem zvf (d b:List Int) {k:Nat} (h:k<64):zh (adk d b k) k=zh b k:=by rw [adk,zbI _ h,if_neg (by omega)]
theorem zsO (d b:List Int) (k:Nat):(adk d b k).set k (zh b k+zh d k)=adk d b (k+1):=by
 rw [adk,zh6]
 refine zdw fun j hj=> ?_
 by_cases h1:j=k
 ·rw [if_pos h1,if_pos (by omega),h1,Int.add_comm]
 ·rw [if_neg h1]
  by_cases h2:j<k
  ·rw [if_pos h2,if_pos (by omega)]
  ·rw [if_neg h2,if_neg (by omega)]
theorem zsQ (d b:List Int):adk d b 64=rgI 64 fun k=>zh d k+zh b k:=zdw fun j hj=>if_pos hj
theorem zu8 (p:List UInt8) (n:Nat) (fd:Bool) (k:Nat):0≤zh (blk p n fd) k∧zh (blk p n fd) k≤255:=by
 by_cases h:k<64
 ·rw [blk,zbI _ h];exact zab _ _
 ·have hl:(blk p n fd).length=64:=zbs _ _
  unfold zh
  rw [List.getD_eq_getElem?_getD,List.getElem?_eq_none (by omega)]
  simp
set_option maxHeartbeats 6400000 in
set_option maxRecDepth 100000 in
theorem zqJ (f:Fm) (hf:F16 f) (m:Mb) (i:Nat) (mat:List UInt8) (q:Int) (al:Bool) (H:za) (hi:H[i]? =some (mB m)) (hml:m.lv.length=384) (hlr:lrm m.lv) (hm:mat.length=64) (hmx:zb2 mat=true) (hq:qnB q=true):
  CallOk Tryz.prog 135 [.agg (fmc f),.ptr i 0 0,.agg (bs mat),.int .i64 q,.bool al] H (.tup [.agg (fmc (addN m al mat q f 6)),.int .i64 0]) H:=by
 have hil:=(List.getElem?_eq_some_iff.1 hi).1
 have hx:=fun K=>zZ (K:=K) hi
 have e1:=zrV m
 have e2:=zrU m
 have e3:=fun n=>zrS m n
 have e4:=zb3 m hml
 have hcl:(cdl m).length=6:=rfl
 have hcl2:(fs (cdl m)).length=6:=rfl
 have hg:=fun n (hn:n<6)=>zk8 (cdl m) n hn
 have hcm:(bs mat).all PV.cell=true:=by simp [bs,PV.cell]
 have tkm:List.take 64 (bs mat)=bs mat:=List.take_of_length_le (by rw [ze];omega)
 have lm:(bs mat).length=64:=by rw [ze,hm]
 refine CallOk.body (F0:=[(0,.agg (fmc f)),(1,.ptr i 0 0),(2,.agg (bs mat)),(3,.int .i64 q),(4,.bool al)]) Tryz.func135 rfl Tryz.ntmps135 Tryz.results135 rfl (by kernel_rfl) rfl ?_
 have f5:(fmc f).all PV.cell=true:=rfl
 refine PW.f (fun K k=>by simp (disch:=omega) only [go_sem,↓reduceIte,reduceCtorEq,hcm,f5];exact k) ?_
 refine PW.f (fun K k=>by simp (disch:=omega) only [go_sem,↓reduceIte,reduceCtorEq,hi,hx,mB,e1,e4];exact k) ?_
 (repeat refine PW.seq ?_);refine PW.block (PW.loop ?_)
 suffices h1:∀ n:Nat,n≤6→PL Tryz.prog _ _ [(1,.ptr i 0 0),(3,.int .i64 q),(4,.bool al),(5,.ptr H.length 0 0),(7,.ptr (H.length+1) 0 0),(10,.ptr (H.length+2) 0 0),(22,.agg (fs (cdl m))),(23,.int .i64 (n:Int))] (H++[⟨33,0,fmc (addN m al mat q f n)⟩,⟨27,0,bs mat⟩,⟨33,0,[.int .i64 0,.int .i64 0,.slice [] 0 true,.slice [] 0 true,.slice [] 0 true]⟩]) _ by
  exact PL.at [1,3,4,5,7,10,22,23] (h1 0 (by omega)) rfl rfl
 refine cnt 6 (fun n hn ih=> ?_) ?_
 ·have ct:=zgQ hn
  refine PL.round ?_;refine PW.e ?_;(repeat refine PW.seq ?_);refine PW.cond (t:=_) rfl (fun h=> ?_) (fun h=> ?_)
  rotate_left
  ·cases h
  refine PW.skip ?_;(repeat refine PW.seq ?_);refine PW.block ?_
  refine PW.f (fun K k=>by simp (disch:=omega) only [go_sem,↓reduceIte,reduceCtorEq,hg,hcl2];exact k) ?_
  refine PW.e ?_
  (repeat refine PW.seq ?_);refine PW.cond (t:=_) rfl (fun h=> ?_) (fun h=> ?_)
  ·have hc:zaB (cdl m) n=false:=by simpa using h
   rw [addN,hc,if_neg (by simp)] at ih
   refine PW.exit ?_
   refine PW.e ?_
   exact PL.at [1,3,4,5,7,10,22,23] ih rfl rfl
  have hc:zaB (cdl m) n=true:=by simpa using h
  rw [addN,hc,if_pos rfl] at ih
  have g16:=hf.addN m al mat q n (by omega)
  obtain ⟨g,hgg⟩:∃ g,addN m al mat q f n=g:=⟨_,rfl⟩
  rw [hgg] at g16 ih ⊢
  have g7:(fmc g).length=5:=rfl
  have g8:List.take 5 (fmc g)=fmc g:=rfl
  have ll:=zrZ m.lv n hml hn
  have lr:=zuu hlr n
  have c1:=fun K=>zjZ (lvl m.lv n) al ll K
  have c2:=fun K=>zlf (frs (lvl m.lv n) al) mat q (zsc _ _) (zuH lr al) hm hmx hq K
  have hr:rsd m.lv al mat q n=inv (dqz (frs (lvl m.lv n) al) mat q):=rfl
  have c3:=fun K=>zk4 (dqz (frs (lvl m.lv n) al) mat q) (zmo _ _ _) K
  rw [←hr] at c3
  have il:(rsd m.lv al mat q n).length=64:=zr7 _
  have ib:=fun k=>zuB (dqz (frs (lvl m.lv n) al) mat q) k
  rw [←hr] at ib
  have dl:=zmo (frs (lvl m.lv n) al) mat q
  have dcel:=zW (dqz (frs (lvl m.lv n) al) mat q)
  generalize dqz (frs (lvl m.lv n) al) mat q=D at c2 c3 dl dcel
  have tkD:List.take 64 (is D)=is D:=List.take_of_length_le (by rw [zu];omega)
  generalize frs (lvl m.lv n) al=S at c1 c2
  generalize rsd m.lv al mat q n=I at c3 il ib ih
  clear hr
  have c4:=fun K=>zqw g g16 n hn m.fd K
  have bb:=fun k=>zu8 (cmp g n) n m.fd k
  have bl:(blk (cmp g n) n m.fd).length=64:=zbs _ _
  have bcel:=zW (blk (cmp g n) n m.fd)
  refine PW.skip ?_
  refine PW.view (Vs.place 151) ?_
  (repeat refine PW.seq ?_);refine PW.drawi [H.length+3] [(14,[0])] [(14,0)] [37,40] mix (by kernel_rfl) (by simp<;>omega) fun K hK=> ?_
  simp (disch:=omega) only [go_sem,↓reduceIte,reduceCtorEq,zaH,hi,hx,mB,e3,e4]
  refine VCj.read (fun _ _=>c1 _) rfl ?_
  simp (disch:=omega) only [go_sem,↓reduceIte,reduceCtorEq,zaH,hi,hx,mB,e3,e4,lm,tkm]
  refine VCj.read (fun _ _=>c2 _) rfl ?_
  simp (disch:=omega) only [go_sem,↓reduceIte,reduceCtorEq,zu,dl,dcel]
  refine hK _ _ ?_;clear hK K
  refine PW.e ?_
  (repeat refine PW.seq ?_);refine PW.cond (t:=_) rfl (fun h=> ?_) (fun h=> ?_)
  ·cases h
  refine PW.skip ?_
  refine PW.view (Vs.place 151) ?_
  (repeat refine PW.seq ?_);refine PW.drawi [H.length+4] [(16,[0])] [(16,0)] [54] mix (by kernel_rfl) (by simp<;>omega) fun K hK=> ?_
  simp (disch:=omega) only [go_sem,↓reduceIte,reduceCtorEq,zaH,hi,hx,mB,e2,e4,g7,g8]
  refine VCj.read (fun _ _=>c4 _) rfl ?_
  simp (disch:=omega) only [go_sem,↓reduceIte,reduceCtorEq,zu,bl,bcel]
  refine hK _ _ ?_;clear hK K
  refine PW.e ?_
  (repeat refine PW.seq ?_);refine PW.cond (t:=_) rfl (fun h=> ?_) (fun h=> ?_)
  ·cases h
  refine PW.skip ?_
  refine PW.f (fun K k=>by simp (disch:=omega) only [go_sem,↓reduceIte,reduceCtorEq,zu,dl,tkD];refine VCx.call (c3 _) rfl ?_;simp (disch:=omega) only [go_sem,↓reduceIte,reduceCtorEq,zu,dl,tkD];exact k) ?_
  (repeat refine PW.seq ?_);refine PW.block (PW.loop ?_)
  suffices h2:∀ k:Nat,k≤64→PL Tryz.prog _ _ [(1,.ptr i 0 0),(3,.int .i64 q),(4,.bool al),(5,.ptr H.length 0 0),(7,.ptr (H.length+1) 0 0),(10,.ptr (H.length+2) 0 0),(12,.int .i64 (n:Int)),(16,.ptr (H.length+4) 1 0),(22,.agg (fs (cdl m))),(23,.int .i64 (n:Int)),(62,.agg (is I)),(63,.int .i64 (k:Int))] (H++[⟨33,0,fmc g⟩,⟨27,0,bs mat⟩,⟨33,0,[.int .i64 0,.int .i64 0,.slice [] 0 true,.slice [] 0 true,.slice [] 0 true]⟩,⟨151,1,is D⟩,⟨151,1,is (adk I (blk (cmp g n) n m.fd) k)⟩]) _ by
   exact PL.at [1,3,4,5,7,10,12,16,22,23,62,63] (h2 0 (by omega)) rfl (by rw [zw0 bl])
  refine cnt 64 (fun k hk ih2=> ?_) ?_
  ·refine PL.round ?_;refine PW.e ?_;(repeat refine PW.seq ?_);refine PW.cond (t:=_) rfl (fun h=> ?_) (fun h=> ?_)
   rotate_left
   ·cases h
   have b1:=bb k
   have b2:=ib k
   have a1:=zvf I (blk (cmp g n) n m.fd) hk
   have a2:=zsO I (blk (cmp g n) n m.fd) k
   have a3:=zsP I (blk (cmp g n) n m.fd) k
   have a4:∀ v,((is (adk I (blk (cmp g n) n m.fd) k)).set k v).length=64:=fun v=>by simp [zu,a3]
   refine PW.skip ?_;(repeat refine PW.seq ?_);refine PW.block ?_
   refine PW.f (fun K k=>by simp (disch:=omega) only [go_sem,↓reduceIte,reduceCtorEq,zbq,zu,il];exact k) ?_
   refine PW.f (fun K k=>by simp (disch:=omega) only [go_sem,↓reduceIte,reduceCtorEq,zbq,zu,a3,a1,zbJ,a2,a4];exact k) ?_
   refine PW.e ?_
   exact PL.at [1,3,4,5,7,10,12,16,22,23,62,63] ih2 rfl rfl
  refine PL.round ?_;refine PW.e ?_;(repeat refine PW.seq ?_);refine PW.cond (t:=_) rfl (fun h=> ?_) (fun h=> ?_)
  ·cases h
  refine PW.exit ?_
  rw [zsQ]
  have xl:(rgI 64 fun k=>zh I k+zh (blk (cmp g n) n m.fd) k).length=64:=zbs _ _
  have c5:=fun K=>zjp g g16 n hn m.fd (rgI 64 fun k=>zh I k+zh (blk (cmp g n) n m.fd) k) xl K
  have e5:zhd g n (zee (cmp g n) n m.fd (rgI 64 fun k=>zh I k+zh (blk (cmp g n) n m.fd) k))=addB g n m.fd I:=rfl
  rw [e5] at c5
  generalize (rgI 64 fun k=>zh I k+zh (blk (cmp g n) n m.fd) k)=X at xl c5
  have xt:List.take 64 (is X)=is X:=List.take_of_length_le (by rw [zu];omega)
  generalize addB g n m.fd I=g' at c5 ih
  have g5:(fmc g').all PV.cell=true:=rfl
  have g6:(fmc g').length=5:=rfl
  have g9:List.drop 5 (fmc g)=[]:=rfl
  (repeat refine PW.seq ?_);refine PW.drawi [H.length] [(5,[0])] [] [82] mix (by kernel_rfl) (by simp<;>omega) fun K hK=> ?_
  simp (disch:=omega) only [go_sem,↓reduceIte,reduceCtorEq,zaH,hi,hx,mB,e2,e4,zu,xl,xt,g7,g8]
  refine VCj.read (fun _ _=>c5 _) rfl ?_
  simp (disch:=omega) only [go_sem,↓reduceIte,reduceCtorEq,g5,g6,g7,g8,g9]
  refine hK _ _ ?_;clear hK K
  refine PW.e ?_
  (repeat refine PW.seq ?_);refine PW.cond (t:=_) rfl (fun h=> ?_) (fun h=> ?_)
  ·cases h
  refine PW.skip ?_
  refine PW.e ?_
  refine PL.view (Vs.trim (F1:=[(1,.ptr i 0 0),(3,.int .i64 q),(4,.bool al),(5,.ptr H.length 0 0),(7,.ptr (H.length+1) 0 0),(10,.ptr (H.length+2) 0 0),(22,.agg (fs (cdl m))),(23,.int .i64 ((n+1:Nat):Int))]) (H1:=H++[⟨33,0,fmc g'⟩,⟨27,0,bs mat⟩,⟨33,0,[.int .i64 0,.int .i64 0,.slice [] 0 true,.slice [] 0 true,.slice [] 0 true]⟩]) (ziz ?_) (by simp) (List.append_assoc _ [_,_,_] [_,_]).symm ?_) ih
  ·intro b hb z hz
   simp only [List.mem_cons,List.not_mem_nil,or_false] at hb
   rcases hb with rfl|rfl|rfl
   ·exact za5 _ _ _ _ _ _ _ _ _ _ _ _ z hz
   ·exact zq _ _ z hz
   ·exact za5 _ 0 0 [] [] [] _ _ _ _ _ _ z hz
  ·rw [hl3]
   exact ⟨.id (.ptr (by omega)),.id (.int _ _),.id (.bool _),.id (.ptr (by omega)),.id (.ptr (by omega)),.id (.ptr (by omega)),.id (zB (zhI _ _)),.id (.int _ _),trivial⟩
 refine PL.round ?_;refine PW.e ?_;(repeat refine PW.seq ?_);refine PW.cond (t:=_) rfl (fun h=> ?_) (fun h=> ?_)
 ·cases h
 refine PW.exit ?_
 obtain ⟨g,hgg⟩:∃ g,addN m al mat q f 6=g:=⟨_,rfl⟩
 rw [hgg]
 have g5:(fmc g).all PV.cell=true:=rfl
 have g7:(fmc g).length=5:=rfl
 have g8:List.take 5 (fmc g)=fmc g:=rfl
 have g9:List.drop 5 [PV.int .i64 0,PV.int .i64 0,PV.slice [] 0 true,PV.slice [] 0 true,PV.slice [] 0 true]=[]:=rfl
 refine PW.f (fun K k=>by simp (disch:=omega) only [go_sem,↓reduceIte,reduceCtorEq,g5,g7,g8,g9];exact k) ?_
 refine PW.ret ⟨.tup [.agg (fmc g),.int .i64 0],by simp (disch:=omega) only [go_sem,↓reduceIte,reduceCtorEq,zd,zg,List.mapM_cons,List.mapM_nil,Option.pure_def,Option.bind_eq_bind,Option.bind_some,Array.toList,g7,g8],?_⟩
 exact Fin.base (.id (zO _ _ _ _ _ _ _ _ _ _))
theorem rows_in {W R X Y w h L:Nat} (hp:L=W * R) (hx:X+w≤W) (hy:Y+h≤R):∀ k,k<h→Y * W+X+k * W+w≤L:=fun k hk=>by
 have h1:(Y+k+1) * W≤R * W:=Nat.mul_le_mul_right _ (by omega)
 rw [Nat.add_mul,Nat.add_mul,Nat.one_mul] at h1
 rw [hp,Nat.mul_comm W R]
 omega
theorem ziA {f:Fm} (h:fvd f=true):∃ A B:Nat,1≤A∧A≤4∧1≤B∧B≤4∧f.w=((16 * A:Nat):Int)∧f.h=((16 * B:Nat):Int)∧f.y.length=16 * A * (16 * B)∧f.u.length=8 * A * (8 * B)∧f.v.length=8 * A * (8 * B):=by
 obtain ⟨w,ht,y,u,v⟩:=f
 simp only [fvd,fmd,Bool.and_eq_true,decide_eq_true_eq] at h
 obtain ⟨⟨hs,hy,hu,hv⟩,hw,hh⟩:=h
 obtain ⟨g1,g2,g3,g4,g5,g6⟩:=zcV hs
 obtain ⟨A,hA⟩:∃ A:Nat,(w / 16).toNat=A:=⟨_,rfl⟩
 obtain ⟨B,hB⟩:∃ B:Nat,(ht / 16).toNat=B:=⟨_,rfl⟩
 have e1:w=((16 * A:Nat):Int):=by omega
 have e2:ht=((16 * B:Nat):Int):=by omega
 have e3:w / 2=((8 * A:Nat):Int):=by omega
 have e4:ht / 2=((8 * B:Nat):Int):=by omega
 rw [e3,e4] at hu hv
 rw [e1,e2] at hy
 refine ⟨A,B,by omega,by omega,by omega,by omega,e1,e2,?_,?_,?_⟩
 ·exact Int.ofNat_inj.1 (hy.trans (Int.natCast_mul _ _).symm)
 ·exact Int.ofNat_inj.1 (hu.trans (Int.natCast_mul _ _).symm)
 ·exact Int.ofNat_inj.1 (hv.trans (Int.natCast_mul _ _).symm)
theorem F16.fmd {f:Fm} (h:F16 f):fmd f=true:=by
 have:=h.fvd
 unfold Sc.fvd at this
 rw [Bool.and_eq_true] at this
 exact this.1
theorem zlN {c:Cx} {si sq:List UInt8} {al:Bool} {q:Int} {m:Mb} {pa fu fi:Fm} {mx my:Int} (h:(zgs c si sq al q m pa fu fi mx my).2=0):F16 (zgs c si sq al q m pa fu fi mx my).1:=by
 unfold zgs at h ⊢
 split at h
 ·rename_i hok
  rw [if_pos hok]
  by_cases h1:m.k=1
  ·rw [if_pos h1];exact F16.gry.addN _ _ _ _ 6 (by omega)
  ·rw [if_neg h1] at h ⊢
   generalize (if m.k=0 then stl c else m)=m' at h ⊢
   split at h
   ·rename_i h2;exact absurd h h2
   ·rename_i h2;rw [if_neg h2];exact (zoY (Decidable.not_not.1 h2)).addN _ _ _ _ 6 (by omega)
 ·simp at h
theorem zme {V K P:Nat} {y u v:List UInt8} (h:Fok V K y u v) (hP:P≤1):Hok V K (fld V K P y u v):=by
 obtain ⟨rv,rk,ly,lu,lv⟩:=h
 exact ⟨rfl,rfl,rv,rk,zaT y _ _ _ _ (zaC _ _ _ hP _ ly),zaT u _ _ _ _ (zaC _ _ _ hP _ lu),zaT v _ _ _ _ (zaC _ _ _ hP _ lv)⟩
theorem zjv (f:Fm) (x y vx vy:Int):Hok 8 4 (prdF f x y 8 vx vy):=⟨rfl,rfl,by omega,by omega,zan _ _ _ _ _ _ _ _ _,zan _ _ _ _ _ _ _ _ _,zan _ _ _ _ _ _ _ _ _⟩
theorem zt8 (f:Fm) (x y vx vy:Int):fmc (prdF f x y 8 vx vy)=[.int .i64 16,.int .i64 8,.slice (bs (prdF f x y 8 vx vy).y) 128 false,.slice (bs (prdF f x y 8 vx vy).u) 32 false,.slice (bs (prdF f x y 8 vx vy).v) 32 false]:=zoX f x y 8 vx vy
theorem F16.c {f:Fm} (h:F16 f):fmc f=[.int .i64 16,.int .i64 16,.slice (bs f.y) 256 false,.slice (bs f.u) 64 false,.slice (bs f.v) 64 false]:=by
 unfold fmc;rw [h.w,h.h,h.ly,h.lu,h.lv]
theorem zju {f:Fm} {mx my va vb s:Int} (hm:zc9 f mx my=true) (h32:f.h%32=0) (hs:s=0∨s=1) (hv:vrg va vb=true):zhg (fieldOf f s) (16 * mx) (8 * my) 8 va vb=(prdF (fieldOf f s) (16 * mx) (8 * my) 8 va vb,0):=by
 simp only [zc9,Bool.and_eq_true,decide_eq_true_eq] at hm
 obtain ⟨hf,m1,m2,m3,m4⟩:=hm
 obtain ⟨w,ht,y,u,v⟩:=f
 simp only at h32 m2 m4
 obtain ⟨V,K,rfl,rfl,hok⟩:=zdB hf h32
 obtain ⟨P,hP,rfl⟩:∃ P:Nat,P≤1∧s=(P:Int):=by
  rcases hs with e|e
  ·exact ⟨0,by omega,by omega⟩
  ·exact ⟨1,by omega,by omega⟩
 have e1:=zaO V K P y u v
 unfold fr4 at e1
 rw [e1]
 have h1:=(zme hok hP).fmd
 have h2:zfF (fld V K P y u v) (16 * mx) (8 * my) ((8:Nat):Int)=true:=by
  have w1:(fld V K P y u v).w=((2 * V:Nat):Int):=rfl
  have w2:(fld V K P y u v).h=((2 * K:Nat):Int):=rfl
  unfold zfF
  rw [w1,w2]
  simp only [Bool.and_eq_true,decide_eq_true_eq]
  omega
 unfold zhg
 rw [h1,h2,if_pos (by rfl),hv,if_pos rfl]
theorem zhy (n:Int) (H:za):CallOk Tryz.prog 220 [.int .i64 n] H (.int .i64 (16 * min (max n (-1)) 128)) H:=by
 refine CallOk.body (F0:=[(0,.int .i64 n)]) Tryz.func220 rfl Tryz.ntmps220 Tryz.results220 rfl (by kernel_rfl) rfl ?_
 refine PW.e ?_
 have cl:(if 128<(if n< -1 then -1 else n) then 128 else (if n< -1 then -1 else n))=min (max n (-1)) 128:=by omega
 refine PW.f (fun K k=>by simp (maxSteps:=3000000) (disch:=omega) only [go_sem,↓reduceIte,reduceCtorEq,cl];exact k) ?_
 (refine PW.ret ⟨_,rfl,?_⟩;first|refine .inl ⟨?_,rfl⟩|refine Fin.base (.id' ?_ (.bool _))|refine Fin.base (.id' ?_ (.int _ _)))
 rfl
theorem zwW (b:Bool):zdX Tryz.prog 154 [(0,.int .i64 2),(1,.agg [.bool true,.bool b])]=some (.agg (mbc ⟨2,true,b,false,false,0,0,0,0,0,0,0,0,0,0,0,0,0,false,false,false,false,false,false,zl384⟩)):=by cases b<;>kernel_rfl
attribute [go_sem high] zwW
theorem zsW:zj Tryz.prog 154=some zmv:=by kernel_rfl
theorem zcJ:zl384.length=384:=List.length_replicate
theorem znE:zmv.length=408:=zb3 zMb zcJ
theorem zcA (m:Mb):(mbc m).all PV.cell=true:=by
 have hall:=zW m.lv
 simp [mbc,PV.cell,hall]
theorem zmI:zmv.all PV.cell=true:=zcA zMb
theorem ziq (k:Nat) (m:Mb):∀ x∈mbc m,Scoped k x:=fun x hx=>by
 simp only [mbc,List.mem_cons] at hx
 rcases hx with rfl|rfl|rfl|rfl|rfl|rfl|rfl|rfl|rfl|rfl|rfl|rfl|rfl|rfl|rfl|rfl|rfl|rfl|rfl|rfl|rfl|rfl|rfl|rfl|hx
 all_goals first|exact .int _ _|exact .bool _|exact zat _ _ _ hx
set_option maxHeartbeats 1600000 in
set_option maxRecDepth 100000 in
theorem zoc (c:Cx) (H:za):CallOk Tryz.prog 136 [.agg (cxc c)] H (.agg (mbc (stl c))) H:=by
 have fo:=fun L=>zlc c L
 have po:=fun L=>zkS c L
 obtain ⟨t,s,ii,nn⟩:=c
 simp only [cxc] at fo po ⊢
 refine CallOk.body (F0:=[(0,.agg [.int .i64 t,.int .i64 s,.bool ii,.bool nn])]) Tryz.func136 rfl Tryz.ntmps136 Tryz.results136 rfl (by kernel_rfl) rfl ?_
 have zl:=znE
 have zc:=zmI
 have ml:=fun b=>zb3 ⟨2,true,b,false,false,0,0,0,0,0,0,0,0,0,0,0,0,0,false,false,false,false,false,false,zl384⟩ zcJ
 have mc:=fun b=>zcA ⟨2,true,b,false,false,0,0,0,0,0,0,0,0,0,0,0,0,0,false,false,false,false,false,false,zl384⟩
 have dl1:(List.drop 1 zmv).length=407:=by rw [List.length_drop,zl]
 have em:∀ b,PV.int .i64 2::PV.bool true::PV.bool b::List.drop (1+1) (List.drop 1 zmv)=mbc ⟨2,true,b,false,false,0,0,0,0,0,0,0,0,0,0,0,0,0,false,false,false,false,false,false,zl384⟩:=fun b=>rfl
 have dz:List.drop 408 zmv=[]:=List.drop_of_length_le (by omega)
 refine PW.f (fun K k=>by simp (maxSteps:=3000000) (disch:=omega) only [go_sem,↓reduceIte,reduceCtorEq,↓zsW];exact k) ?_
 refine PW.f (fun K k=>by simp (maxSteps:=3000000) (disch:=omega) only [go_sem,↓reduceIte,reduceCtorEq,↓zsW,zl,ml,mc,dz,dl1,em,Nat.reduceAdd,Nat.reduceLeDiff];exact k) ?_
 obtain ⟨B,hB⟩:∃ B,(t==3)=B:=⟨_,rfl⟩
 rw [hB]
 have hs:stl ⟨t,s,ii,nn⟩=⟨2,true,B,false,false,0,0,0,0,0,0,0,0,pcx ⟨t,s,ii,nn⟩,0,if B=true then pcx ⟨t,s,ii,nn⟩ else 0,0,0,false,false,false,false,false,false,zl384⟩:=by
  unfold stl
  by_cases h3:t=3
  ·have:B=true:=by rw [←hB,h3];rfl
   subst this
   simp [h3]
  ·have:B=false:=by rw [←hB];simp [h3]
   subst this
   simp [h3]
 rw [hs]
 clear hs hB
 refine PW.f (fun K k=>by simp (maxSteps:=3000000) (disch:=omega) only [go_sem,↓reduceIte,reduceCtorEq];refine VCx.call (fo _) rfl ?_;simp (maxSteps:=3000000) (disch:=omega) only [go_sem,↓reduceIte,reduceCtorEq];exact k) ?_
 (repeat refine PW.seq ?_);refine PW.cond (t:=_) rfl (fun h=> ?_) (fun h=> ?_)
 rotate_left
 ·have hf:pcx ⟨t,s,ii,nn⟩=0:=by
   have h':fcx ⟨t,s,ii,nn⟩=false:=h
   unfold fcx at h'
   have h3:s=3:=by simpa using h'
   show (if s=2 then (1:Int) else 0)=0
   rw [if_neg (by omega)]
  rw [hf]
  simp only [ite_self]
  refine PW.skip ?_
  have tk:=fun b=>(List.take_of_length_le (by rw [ml b];exact Nat.le_refl _):List.take 408 (mbc ⟨2,true,b,false,false,0,0,0,0,0,0,0,0,0,0,0,0,0,false,false,false,false,false,false,zl384⟩)=_)
  refine PW.f (fun K k=>by simp (maxSteps:=3000000) (disch:=omega) only [go_sem,↓reduceIte,reduceCtorEq,ml,mc,zl,dz,tk];exact k) ?_
  refine PW.ret ⟨.agg (mbc ⟨2,true,B,false,false,0,0,0,0,0,0,0,0,0,0,0,0,0,false,false,false,false,false,false,zl384⟩),by simp (maxSteps:=3000000) (disch:=omega) only [go_sem,↓reduceIte,reduceCtorEq,zd,zg,List.mapM_cons,List.mapM_nil,Option.pure_def,Option.bind_eq_bind,Option.bind_some,Array.toList,ml,tk],?_⟩
  exact Fin.base (.id (zB (ziq _ _)))
 generalize pcx ⟨t,s,ii,nn⟩=p at *
 have ml2:=fun b p q=>zb3 ⟨2,true,b,false,false,0,0,0,0,0,0,0,0,p,0,q,0,0,false,false,false,false,false,false,zl384⟩ zcJ
 have mc2:=fun b p q=>zcA ⟨2,true,b,false,false,0,0,0,0,0,0,0,0,p,0,q,0,0,false,false,false,false,false,false,zl384⟩
 have s1:∀ b p q x,(mbc ⟨2,true,b,false,false,0,0,0,0,0,0,0,0,p,0,q,0,0,false,false,false,false,false,false,zl384⟩).set 13 (.int .i64 x)=mbc ⟨2,true,b,false,false,0,0,0,0,0,0,0,0,x,0,q,0,0,false,false,false,false,false,false,zl384⟩:=fun _ _ _ _=>rfl
 have s2:∀ b p q x,(mbc ⟨2,true,b,false,false,0,0,0,0,0,0,0,0,p,0,q,0,0,false,false,false,false,false,false,zl384⟩).set 15 (.int .i64 x)=mbc ⟨2,true,b,false,false,0,0,0,0,0,0,0,0,p,0,x,0,0,false,false,false,false,false,false,zl384⟩:=fun _ _ _ _=>rfl
 have tk:=fun b p q=>(List.take_of_length_le (by rw [ml2 b p q];exact Nat.le_refl _):List.take 408 (mbc ⟨2,true,b,false,false,0,0,0,0,0,0,0,0,p,0,q,0,0,false,false,false,false,false,false,zl384⟩)=_)
 have t2:∀ b p q,List.take 2 (List.drop 1 (mbc ⟨2,true,b,false,false,0,0,0,0,0,0,0,0,p,0,q,0,0,false,false,false,false,false,false,zl384⟩))=[.bool true,.bool b]:=fun _ _ _=>rfl
 refine PW.f (fun K k=>by simp (maxSteps:=3000000) (disch:=omega) only [go_sem,↓reduceIte,reduceCtorEq,ml2,t2];exact k) ?_
 (repeat refine PW.seq ?_);refine PW.block (PW.loop ?_)
 refine PL.round ?_;refine PW.e ?_;(repeat refine PW.seq ?_);refine PW.cond (t:=_) rfl (fun h=> ?_) (fun h=> ?_)
 rotate_left
 ·cases h
 refine PW.skip ?_;(repeat refine PW.seq ?_);refine PW.block ?_
 refine PW.e ?_
 refine PW.e ?_
 (repeat refine PW.seq ?_);refine PW.cond (t:=_) rfl (fun h=> ?_) (fun h=> ?_)
 rotate_left
 ·cases h
 (repeat refine PW.seq ?_);refine PW.drawi [H.length+2] [(3,[0]),(23,[0]),(24,[0]),(25,[0])] [] [22] mix (by kernel_rfl) (by simp<;>omega) fun K hK=> ?_
 simp (maxSteps:=3000000) (disch:=omega) only [go_sem,↓reduceIte,reduceCtorEq,zaH,ml2]
 refine VCj.read (fun _ _=>po _) rfl ?_
 simp (maxSteps:=3000000) (disch:=omega) only [go_sem,↓reduceIte,reduceCtorEq,ml2,s1]
 refine hK _ _ ?_;clear hK K
 refine PW.e ?_
 refine PL.round ?_;refine PW.e ?_;(repeat refine PW.seq ?_);refine PW.cond (t:=_) rfl (fun h=> ?_) (fun h=> ?_)
 rotate_left
 ·cases h
 refine PW.skip ?_;(repeat refine PW.seq ?_);refine PW.block ?_
 refine PW.e ?_
 cases B
 ·refine PW.e ?_
  (repeat refine PW.seq ?_);refine PW.cond (t:=_) rfl (fun h=> ?_) (fun h=> ?_)
  ·cases h
  refine PW.skip ?_
  refine PW.e ?_
  refine PL.round ?_;refine PW.e ?_;(repeat refine PW.seq ?_);refine PW.cond (t:=_) rfl (fun h=> ?_) (fun h=> ?_)
  ·cases h
  refine PW.exit ?_
  refine PW.f (fun K k=>by simp (maxSteps:=3000000) (disch:=omega) only [go_sem,↓reduceIte,reduceCtorEq,ml2,mc2,zl,dz,tk];exact k) ?_
  refine PW.ret ⟨.agg (mbc ⟨2,true,false,false,false,0,0,0,0,0,0,0,0,p,0,0,0,0,false,false,false,false,false,false,zl384⟩),by simp (maxSteps:=3000000) (disch:=omega) only [go_sem,↓reduceIte,reduceCtorEq,zd,zg,List.mapM_cons,List.mapM_nil,Option.pure_def,Option.bind_eq_bind,Option.bind_some,Array.toList,ml2,tk],?_⟩
  exact Fin.base (.id (zB (ziq _ _)))
 ·refine PW.e ?_
  (repeat refine PW.seq ?_);refine PW.cond (t:=_) rfl (fun h=> ?_) (fun h=> ?_)
  rotate_left
  ·cases h
  (repeat refine PW.seq ?_);refine PW.drawi [H.length+2] [(3,[0]),(23,[0]),(24,[0]),(25,[0])] [] [22] mix (by kernel_rfl) (by simp<;>omega) fun K hK=> ?_
  simp (maxSteps:=3000000) (disch:=omega) only [go_sem,↓reduceIte,reduceCtorEq,zaH,ml2]
  refine VCj.read (fun _ _=>po _) rfl ?_
  simp (maxSteps:=3000000) (disch:=omega) only [go_sem,↓reduceIte,reduceCtorEq,ml2,s2]
  refine hK _ _ ?_;clear hK K
  refine PW.e ?_
  refine PL.round ?_;refine PW.e ?_;(repeat refine PW.seq ?_);refine PW.cond (t:=_) rfl (fun h=> ?_) (fun h=> ?_)
  ·cases h
  refine PW.exit ?_
  refine PW.f (fun K k=>by simp (maxSteps:=3000000) (disch:=omega) only [go_sem,↓reduceIte,reduceCtorEq,ml2,mc2,zl,dz,tk];exact k) ?_
  refine PW.ret ⟨.agg (mbc ⟨2,true,true,false,false,0,0,0,0,0,0,0,0,p,0,p,0,0,false,false,false,false,false,false,zl384⟩),by simp (maxSteps:=3000000) (disch:=omega) only [go_sem,↓reduceIte,reduceCtorEq,zd,zg,List.mapM_cons,List.mapM_nil,Option.pure_def,Option.bind_eq_bind,Option.bind_some,Array.toList,ml2,tk],?_⟩
  exact Fin.base (.id (zB (ziq _ _)))
set_option maxHeartbeats 6400000 in
set_option maxRecDepth 100000 in
theorem zno (f:Fm) (mx my va vb vc vd sa sb:Int) (hsa:sa=0∨sa=1) (hsb:sb=0∨sb=1) (hv1:vrg va vb=true) (hv2:vrg vc vd=true) (H:za):
  CallOk Tryz.prog 218 [.agg (fmc f),.int .i64 mx,.int .i64 my,.agg [.int .i64 va,.int .i64 vb,.int .i64 vc,.int .i64 vd],.agg [.int .i64 sa,.int .i64 sb]] H (.tup [.agg (fmc (fldS f mx my va vb vc vd sa sb).1),.int .i64 (fldS f mx my va vb vc vd sa sb).2]) H:=by
 have vo:=fun L=>zgb f L
 generalize hr:fldS f mx my va vb vc vd sa sb=r
 by_cases hc:(zc9 f mx my&&decide (f.h%32=0))=true
 case neg=>
  have hc':(zc9 f mx my&&decide (f.h%32=0))=false:=by simpa using hc
  rw [fldS,if_neg hc] at hr
  obtain ⟨w,ht,y,u,v⟩:=f
  simp only at hc'
  cases hf:fvd ⟨w,ht,y,u,v⟩
  ·rw [hf] at vo
   simp only [fmc] at vo ⊢
   refine CallOk.body (F0:=[(0,.agg [.int .i64 w,.int .i64 ht,.slice (bs y) y.length false,.slice (bs u) u.length false,.slice (bs v) v.length false]),(1,.int .i64 mx),(2,.int .i64 my),(3,.agg [.int .i64 va,.int .i64 vb,.int .i64 vc,.int .i64 vd]),(4,.agg [.int .i64 sa,.int .i64 sb])]) Tryz.func218 rfl Tryz.ntmps218 Tryz.results218 rfl (by kernel_rfl) rfl ?_
   refine PW.e ?_
   (repeat refine PW.seq ?_)
   refine PW.rgv (P:=Tryz.prog) [10,11] 49 (.bool true) ?_ ?_ ?_
   ·rfl
   ·simp (maxSteps:=3000000) (disch:=omega) only [go_sem,↓reduceIte,reduceCtorEq];(repeat' (first|((first|refine zk ?_ ?_|refine And.intro ?_ ?_)<;>intro h<;>(try simp only [nqb] at h)<;>simp (maxSteps:=3000000) (disch:=omega) only [go_sem,↓reduceIte,reduceCtorEq,h])|((first|refine VCx.call (vo _) rfl ?_);simp (maxSteps:=3000000) (disch:=omega) only [go_sem,↓reduceIte,reduceCtorEq])))
    all_goals (simp_all [slot,Nat.beq]<;>first|rfl|omega|(rw [Bool.eq_iff_iff];simp;done)|(rw [Bool.eq_iff_iff];simp;omega))
   (repeat refine PW.seq ?_);refine PW.cond (t:=_) rfl (fun h=> ?_) (fun h=> ?_)
   rotate_left
   ·cases h
   refine PW.e ?_
   refine PW.ret ⟨.tup [.agg [.int .i64 0,.int .i64 0,.slice [] 0 true,.slice [] 0 true,.slice [] 0 true],.int .i64 1],by simp (maxSteps:=3000000) (disch:=omega) only [go_sem,↓reduceIte,reduceCtorEq,zd,zg,List.mapM_cons,List.mapM_nil,Option.pure_def,Option.bind_eq_bind,Option.bind_some,Array.toList],?_⟩
   rw [←hr]
   exact Fin.base (fz0 _ _ _)
  ·have hp:(0≤w∧w≤64)∧0≤ht∧ht≤64:=by
    unfold fvd fmd at hf
    simp only [Bool.and_eq_true] at hf
    have:=zcV hf.1.1
    omega
   rw [hf] at vo
   unfold zc9 at hc'
   rw [hf,Bool.true_and] at hc'
   simp only [fmc] at vo hc' ⊢
   clear hf hc
   refine CallOk.body (F0:=[(0,.agg [.int .i64 w,.int .i64 ht,.slice (bs y) y.length false,.slice (bs u) u.length false,.slice (bs v) v.length false]),(1,.int .i64 mx),(2,.int .i64 my),(3,.agg [.int .i64 va,.int .i64 vb,.int .i64 vc,.int .i64 vd]),(4,.agg [.int .i64 sa,.int .i64 sb])]) Tryz.func218 rfl Tryz.ntmps218 Tryz.results218 rfl (by kernel_rfl) rfl ?_
   refine PW.e ?_
   (repeat refine PW.seq ?_)
   refine PW.rgv (P:=Tryz.prog) [10,11] 49 (.bool true) ?_ ?_ ?_
   ·rfl
   ·clear hr hv1 hv2
    simp (maxSteps:=3000000) (disch:=omega) only [go_sem,↓reduceIte,reduceCtorEq];(repeat' (first|((first|refine zk ?_ ?_|refine And.intro ?_ ?_)<;>intro h<;>(try simp only [nqb] at h)<;>simp (maxSteps:=3000000) (disch:=omega) only [go_sem,↓reduceIte,reduceCtorEq,zx,zP,h])|((first|refine VCx.call (vo _) rfl ?_);simp (maxSteps:=3000000) (disch:=omega) only [go_sem,↓reduceIte,reduceCtorEq,zx,zP])))
    all_goals (clear vo;simp_all [slot,Nat.beq]<;>grind)
   (repeat refine PW.seq ?_);refine PW.cond (t:=_) rfl (fun h=> ?_) (fun h=> ?_)
   rotate_left
   ·cases h
   refine PW.e ?_
   refine PW.ret ⟨.tup [.agg [.int .i64 0,.int .i64 0,.slice [] 0 true,.slice [] 0 true,.slice [] 0 true],.int .i64 1],by simp (maxSteps:=3000000) (disch:=omega) only [go_sem,↓reduceIte,reduceCtorEq,zd,zg,List.mapM_cons,List.mapM_nil,Option.pure_def,Option.bind_eq_bind,Option.bind_some,Array.toList],?_⟩
   rw [←hr]
   exact Fin.base (fz0 _ _ _)
 rw [fldS,if_pos hc] at hr
 have hc2:=hc
 rw [Bool.and_eq_true,decide_eq_true_eq] at hc2
 obtain ⟨hm,h32⟩:=hc2
 have ga:=zju hm h32 hsa hv1
 have gb:=zju hm h32 hsb hv2
 simp only [zc9,Bool.and_eq_true,decide_eq_true_eq] at hm
 obtain ⟨hf,m1,m2,m3,m4⟩:=hm
 have hb:=ziA hf
 obtain ⟨A0,B0,a1,a2,b1,b2,ew,eh,_⟩:=hb
 have hmb:mx≤3∧my≤3:=by omega
 have hp:(0≤f.w∧f.w≤64)∧0≤f.h∧f.h≤64:=by omega
 have pa:=fun L=>zde (fieldOf f sa) (16 * mx) (8 * my) va vb 8 (.inl rfl) (by omega) L
 have pb:=fun L=>zde (fieldOf f sb) (16 * mx) (8 * my) vc vd 8 (.inl rfl) (by omega) L
 rw [ga] at pa
 rw [gb] at pb
 have w1:=fun L=>zf9 8 4 _ _ (zjv (fieldOf f sa) (16 * mx) (8 * my) va vb) (zjv (fieldOf f sb) (16 * mx) (8 * my) vc vd) L
 have wc:=(zls (fieldOf f sa) (fieldOf f sb) (16 * mx) (8 * my) (16 * mx) (8 * my) va vb vc vd).c
 simp only [ztz] at w1
 have fl:∀ s,(s=0∨s=1)→∀ L,CallOk Tryz.prog 130 [.agg (fmc f),.int .i64 s] L (.tup [.agg (fmc (fieldOf f s)),.int .i64 0]) L:=fun s hs L=>by
  obtain ⟨w,ht,y,u,v⟩:=f
  obtain ⟨V,K,rfl,rfl,hok⟩:=zdB hf h32
  obtain ⟨P,hP,rfl⟩:∃ P:Nat,P≤1∧s=(P:Int):=by
   rcases hs with e|e
   ·exact ⟨0,by omega,by omega⟩
   ·exact ⟨1,by omega,by omega⟩
  have e1:=zaO V K P y u v
  have e2:=zgZ V K P y u v L hok hP
  unfold fr4 at e1 e2
  rw [e1];exact e2
 have fa:=fl sa hsa
 have fb:=fl sb hsb
 have hr1:fmc r.1=fmc (wovF (prdF (fieldOf f sa) (16 * mx) (8 * my) 8 va vb) (prdF (fieldOf f sb) (16 * mx) (8 * my) 8 vc vd)):=by rw [←hr]
 have hr2:r.2=0:=by rw [←hr]
 rw [hr1,hr2,wc]
 rw [wc] at w1
 simp only [zt8] at pa pb w1
 generalize wovF (prdF (fieldOf f sa) (16 * mx) (8 * my) 8 va vb) (prdF (fieldOf f sb) (16 * mx) (8 * my) 8 vc vd)=W at w1 ⊢
 generalize prdF (fieldOf f sa) (16 * mx) (8 * my) 8 va vb=PA at pa w1
 generalize prdF (fieldOf f sb) (16 * mx) (8 * my) 8 vc vd=PB at pb w1
 generalize fieldOf f sa=FA at fa pa
 generalize fieldOf f sb=FB at fb pb
 rw [hf] at vo
 clear hr hr1 hr2 wc ga gb fl hc hf ew eh
 obtain ⟨w,ht,y,u,v⟩:=f
 obtain ⟨aw,ah,ay,au,av⟩:=FA
 obtain ⟨bw,bh,by',bu,bv⟩:=FB
 simp only [fmc] at vo fa fb pa pb h32 m2 m4 hp ⊢
 refine CallOk.body (F0:=[(0,.agg [.int .i64 w,.int .i64 ht,.slice (bs y) y.length false,.slice (bs u) u.length false,.slice (bs v) v.length false]),(1,.int .i64 mx),(2,.int .i64 my),(3,.agg [.int .i64 va,.int .i64 vb,.int .i64 vc,.int .i64 vd]),(4,.agg [.int .i64 sa,.int .i64 sb])]) Tryz.func218 rfl Tryz.ntmps218 Tryz.results218 rfl (by kernel_rfl) rfl ?_
 refine PW.e ?_
 (repeat refine PW.seq ?_)
 refine PW.rgv (P:=Tryz.prog) [1,2,5,8,9,10,11] 49 (.bool false) ?_ ?_ ?_
 ·rfl
 ·clear fa fb pa pb w1
  simp (maxSteps:=3000000) (disch:=omega) only [go_sem,↓reduceIte,reduceCtorEq];(repeat' (first|((first|refine zk ?_ ?_|refine And.intro ?_ ?_)<;>intro h<;>(try simp only [nqb] at h)<;>simp (maxSteps:=3000000) (disch:=omega) only [go_sem,↓reduceIte,reduceCtorEq,zx,zP,h])|((first|refine VCx.call (vo _) rfl ?_);simp (maxSteps:=3000000) (disch:=omega) only [go_sem,↓reduceIte,reduceCtorEq,zx,zP])))
  all_goals (clear vo;simp_all [slot,Nat.beq]<;>grind)
 (repeat refine PW.seq ?_);refine PW.cond (t:=_) rfl (fun h=> ?_) (fun h=> ?_)
 ·cases h
 refine PW.skip ?_
 refine PW.e ?_
 (repeat refine PW.seq ?_);refine PW.block (PW.loop ?_)
 refine PL.round ?_;refine PW.e ?_;(repeat refine PW.seq ?_);refine PW.cond (t:=_) rfl (fun h=> ?_) (fun h=> ?_)
 rotate_left
 ·cases h
 refine PW.skip ?_;(repeat refine PW.seq ?_);refine PW.block ?_
 refine PW.e ?_
 (repeat refine PW.seq ?_)
 refine PW.rgv (P:=Tryz.prog) [1,2,5,8,9,10,51,52] 60 (.bool false) ?_ ?_ ?_
 ·rfl
 ·clear fa fb pa pb w1 vo
  simp (maxSteps:=3000000) (disch:=omega) only [go_sem,↓reduceIte,reduceCtorEq];(repeat' ((first|refine zk ?_ ?_|refine zn ?_ ?_|refine zT ?_ ?_|refine zS ?_ ?_|refine zR ?_ ?_|refine And.intro ?_ ?_)<;>intro h<;>(try simp only [nqb] at h)<;>simp (maxSteps:=3000000) (disch:=omega) only [go_sem,↓reduceIte,reduceCtorEq,h]))
  all_goals (simp_all [slot,Nat.beq]<;>first|rfl|omega|(rw [Bool.eq_iff_iff];simp;done)|(rw [Bool.eq_iff_iff];simp;omega))
 (repeat refine PW.seq ?_);refine PW.cond (t:=_) rfl (fun h=> ?_) (fun h=> ?_)
 ·cases h
 refine PW.skip ?_
 refine PW.e ?_
 refine PL.round ?_;refine PW.e ?_;(repeat refine PW.seq ?_);refine PW.cond (t:=_) rfl (fun h=> ?_) (fun h=> ?_)
 rotate_left
 ·cases h
 refine PW.skip ?_;(repeat refine PW.seq ?_);refine PW.block ?_
 refine PW.e ?_
 (repeat refine PW.seq ?_)
 refine PW.rgv (P:=Tryz.prog) [1,2,5,8,9,10,51,52] 60 (.bool false) ?_ ?_ ?_
 ·rfl
 ·clear fa fb pa pb w1 vo
  simp (maxSteps:=3000000) (disch:=omega) only [go_sem,↓reduceIte,reduceCtorEq];(repeat' ((first|refine zk ?_ ?_|refine zn ?_ ?_|refine zT ?_ ?_|refine zS ?_ ?_|refine zR ?_ ?_|refine And.intro ?_ ?_)<;>intro h<;>(try simp only [nqb] at h)<;>simp (maxSteps:=3000000) (disch:=omega) only [go_sem,↓reduceIte,reduceCtorEq,h]))
  all_goals (simp_all [slot,Nat.beq]<;>first|rfl|omega|(rw [Bool.eq_iff_iff];simp;done)|(rw [Bool.eq_iff_iff];simp;omega))
 (repeat refine PW.seq ?_);refine PW.cond (t:=_) rfl (fun h=> ?_) (fun h=> ?_)
 ·cases h
 refine PW.skip ?_
 refine PW.e ?_
 refine PL.round ?_;refine PW.e ?_;(repeat refine PW.seq ?_);refine PW.cond (t:=_) rfl (fun h=> ?_) (fun h=> ?_)
 ·cases h
 refine PW.exit ?_
 refine PW.e ?_
 refine PW.e ?_
 (repeat refine PW.seq ?_);refine PW.block (PW.loop ?_)
 refine PL.round ?_;refine PW.e ?_;(repeat refine PW.seq ?_);refine PW.cond (t:=_) rfl (fun h=> ?_) (fun h=> ?_)
 rotate_left
 ·cases h
 refine PW.skip ?_;(repeat refine PW.seq ?_);refine PW.block ?_
 refine PW.e ?_
 refine PW.f (fun K k=>by simp (maxSteps:=3000000) (disch:=omega) only [go_sem,↓reduceIte,reduceCtorEq];refine VCx.call (fa _) rfl ?_;simp (maxSteps:=3000000) (disch:=omega) only [go_sem,↓reduceIte,reduceCtorEq];exact k) ?_
 refine PW.e ?_
 (repeat refine PW.seq ?_);refine PW.cond (t:=_) rfl (fun h=> ?_) (fun h=> ?_)
 ·cases h
 refine PW.skip ?_
 (repeat refine PW.seq ?_);refine PW.drawi [H.length+4] [(14,[0]),(91,[0])] [] [88] mix (by kernel_rfl) (by simp<;>omega) fun K hK=> ?_
 simp (maxSteps:=3000000) (disch:=omega) only [go_sem,↓reduceIte,reduceCtorEq,zaH]
 refine VCj.read (fun _ _=>pa _) rfl ?_
 simp (maxSteps:=3000000) (disch:=omega) only [go_sem,↓reduceIte,reduceCtorEq]
 refine hK _ _ ?_;clear hK K
 refine PW.e ?_
 (repeat refine PW.seq ?_);refine PW.cond (t:=_) rfl (fun h=> ?_) (fun h=> ?_)
 ·cases h
 refine PW.skip ?_
 refine PW.e ?_
 refine PL.round ?_;refine PW.e ?_;(repeat refine PW.seq ?_);refine PW.cond (t:=_) rfl (fun h=> ?_) (fun h=> ?_)
 rotate_left
 ·cases h
 refine PW.skip ?_;(repeat refine PW.seq ?_);refine PW.block ?_
 refine PW.e ?_
 refine PW.f (fun K k=>by simp (maxSteps:=3000000) (disch:=omega) only [go_sem,↓reduceIte,reduceCtorEq];refine VCx.call (fb _) rfl ?_;simp (maxSteps:=3000000) (disch:=omega) only [go_sem,↓reduceIte,reduceCtorEq];exact k) ?_
 refine PW.e ?_
 (repeat refine PW.seq ?_);refine PW.cond (t:=_) rfl (fun h=> ?_) (fun h=> ?_)
 ·cases h
 refine PW.skip ?_
 (repeat refine PW.seq ?_);refine PW.drawi [H.length+4] [(14,[0]),(91,[0])] [] [88] mix (by kernel_rfl) (by simp<;>omega) fun K hK=> ?_
 simp (maxSteps:=3000000) (disch:=omega) only [go_sem,↓reduceIte,reduceCtorEq,zaH]
 refine VCj.read (fun _ _=>pb _) rfl ?_
 simp (maxSteps:=3000000) (disch:=omega) only [go_sem,↓reduceIte,reduceCtorEq]
 refine hK _ _ ?_;clear hK K
 refine PW.e ?_
 (repeat refine PW.seq ?_);refine PW.cond (t:=_) rfl (fun h=> ?_) (fun h=> ?_)
 ·cases h
 refine PW.skip ?_
 refine PW.e ?_
 refine PL.round ?_;refine PW.e ?_;(repeat refine PW.seq ?_);refine PW.cond (t:=_) rfl (fun h=> ?_) (fun h=> ?_)
 ·cases h
 refine PW.exit ?_
 refine PW.f (fun K k=>by simp (maxSteps:=3000000) (disch:=omega) only [go_sem,↓reduceIte,reduceCtorEq];refine VCx.call (w1 _) rfl ?_;simp (maxSteps:=3000000) (disch:=omega) only [go_sem,↓reduceIte,reduceCtorEq];exact k) ?_
 refine PW.ret ⟨.tup [.agg [.int .i64 16,.int .i64 16,.slice (bs W.y) 256 false,.slice (bs W.u) 64 false,.slice (bs W.v) 64 false],.int .i64 0],by simp (maxSteps:=3000000) (disch:=omega) only [go_sem,↓reduceIte,reduceCtorEq,zd,zg,List.mapM_cons,List.mapM_nil,Option.pure_def,Option.bind_eq_bind,Option.bind_some,Array.toList],?_⟩
 exact Fin.base (.id (zO _ _ _ _ _ _ _ _ _ _))
def v1 (m:Mb) (d:Nat):Int:=if d=0 then m.va else m.ve
def v2 (m:Mb) (d:Nat):Int:=if d=0 then m.vb else m.vf
def v3 (m:Mb) (d:Nat):Int:=if d=0 then m.vc else m.vg
def v4 (m:Mb) (d:Nat):Int:=if d=0 then m.vd else m.vh
def s1 (m:Mb) (d:Nat):Int:=if d=0 then m.sa else m.sc
def s2 (m:Mb) (d:Nat):Int:=if d=0 then m.sb else m.sd
def us (m:Mb) (d:Nat):Bool:=if d=0 then m.ua else m.ub
def ziH (c:Cx) (m:Mb) (pa fu fi:Fm) (d:Nat) (mx my:Int):Fm×Int:=dirP c m.fp (v1 m d) (v2 m d) (v3 m d) (v4 m d) (s1 m d) (s2 m d) pa fu fi (d:Int) mx my
def zli (m:Mb) (d:Nat):Nat:=(if 0<d∧m.ua=true then 1 else 0)+(if 1<d∧m.ub=true then 1 else 0)
def zsn:List Fm→Fm
 | []=>f0
 | [a]=>a
 | a::b::_=>mnF a b
def goP (c:Cx) (m:Mb) (pa fu fi:Fm) (mx my:Int):Nat→List Fm→Fm×Int
 | 0,l=>(zsn l,0)
 | n+1,l=>if us m (1 - n)=true then (if (ziH c m pa fu fi (1 - n) mx my).2≠0 then (f0,(ziH c m pa fu fi (1 - n) mx my).2) else goP c m pa fu fi mx my n (l++[(ziH c m pa fu fi (1 - n) mx my).1])) else goP c m pa fu fi mx my n l
theorem zqh {c:Cx} {fp:Bool} {va vb vc vd sa sb:Int} {pa fu fi:Fm} {d mx my:Int} (h:(dirP c fp va vb vc vd sa sb pa fu fi d mx my).2≠0):(dirP c fp va vb vc vd sa sb pa fu fi d mx my).1=f0:=by
 unfold dirP at h ⊢
 by_cases h1:(refS c pa fu fi d sa).2≠0
 ·rw [if_pos h1]
 ·rw [if_neg h1] at h ⊢
  generalize (refS c pa fu fi d sa).1=g at h ⊢
  cases fp
  ·rw [if_neg (by simp)] at h ⊢
   unfold prdS at h ⊢
   split at h
   ·rename_i a
    rw [if_pos a]
    split at h
    ·exact absurd rfl h
    ·rename_i b
     rw [if_neg b]
   ·rename_i a
    rw [if_neg a]
  ·rw [if_pos rfl] at h ⊢
   unfold fldS at h ⊢
   split at h
   ·exact absurd rfl h
   ·rename_i a
    rw [if_neg a]
theorem zr9 (c:Cx) (m:Mb) (pa fu fi:Fm) (mx my:Int) (h:m.ua=true∨m.ub=true):goP c m pa fu fi mx my 2 []=prS c m pa fu fi mx my:=by
 have d0:ziH c m pa fu fi 0 mx my=zhp c m pa fu fi mx my:=rfl
 have d1:ziH c m pa fu fi 1 mx my=zfH c m pa fu fi mx my:=rfl
 have u0:us m 0=m.ua:=rfl
 have u1:us m 1=m.ub:=rfl
 have e0:1 - 1=0:=rfl
 have e1:1 - 0=1:=rfl
 unfold prS
 rw [goP,e0,u0,d0]
 generalize zhp c m pa fu fi mx my=r0
 cases ha:m.ua
 ·rw [if_neg (by simp),if_neg (by simp),goP,e1,u1,d1]
  have hbad:(zfH c m pa fu fi mx my).2≠0→(zfH c m pa fu fi mx my).1=f0:=zqh
  generalize zfH c m pa fu fi mx my=r1 at hbad ⊢
  rw [ha] at h
  have hb:m.ub=true:=by simpa using h
  rw [hb,if_pos rfl]
  obtain ⟨g,e⟩:=r1
  by_cases he:e=0
  ·subst he;simp [goP,zsn]
  ·rw [if_pos (by exact he)]
   exact Prod.ext (hbad he).symm rfl
 ·rw [if_pos rfl,if_pos rfl]
  by_cases he:r0.2=0
  ·rw [if_neg (by simp [he]),if_neg (by simp [he]),goP,e1,u1,d1]
   generalize zfH c m pa fu fi mx my=r1
   cases hb:m.ub
   ·rw [if_neg (by simp),if_neg (by simp)]
    obtain ⟨g,e⟩:=r0
    simp only at he
    subst he;rfl
   ·rw [if_pos rfl,if_pos rfl]
    by_cases he1:r1.2=0
    ·rw [if_neg (by simp [he1]),if_neg (by simp [he1])];rfl
    ·rw [if_pos he1,if_pos he1]
  ·rw [if_pos he,if_pos he]
structure PrOk (m:Mb):Prop where
 u:m.ua=true∨m.ub=true
 f:∀ d,us m d=true→m.fp=true→(s1 m d=0∨s1 m d=1)∧(s2 m d=0∨s2 m d=1)∧vrg (v1 m d) (v2 m d)=true∧vrg (v3 m d) (v4 m d)=true
theorem zt7 (f:Fm) (mx my vx vy:Int):zhg f (16 * min (max mx (-1)) 128) (16 * min (max my (-1)) 128) 16 vx vy=prdS f mx my vx vy:=by
 unfold zhg prdS
 by_cases hf:fmd f=true
 ·have hb:f.w≤64∧f.h≤64:=by
   unfold fmd at hf
   rw [Bool.and_eq_true] at hf
   have:=zcV hf.1
   omega
  by_cases hc:0≤mx∧16 * mx+16≤f.w∧0≤my∧16 * my+16≤f.h
  ·have e1:min (max mx (-1)) 128=mx:=by omega
   have e2:min (max my (-1)) 128=my:=by omega
   have h1:zfF f (16 * mx) (16 * my) ((16:Nat):Int)=true:=by
    simp only [zfF,Bool.and_eq_true,decide_eq_true_eq];omega
   have h2:(fmd f&&(decide (0≤mx)&&(decide (16 * mx+16≤f.w)&&(decide (0≤my)&&decide (16 * my+16≤f.h)))))=true:=by
    simp only [hf,Bool.true_and,Bool.and_eq_true,decide_eq_true_eq];exact hc
   rw [e1,e2,if_pos h2,hf,h1,if_pos (by rfl)]
  ·have h1:zfF f (16 * min (max mx (-1)) 128) (16 * min (max my (-1)) 128) ((16:Nat):Int)=false:=by
    rw [Bool.eq_false_iff]
    intro h
    simp only [zfF,Bool.and_eq_true,decide_eq_true_eq] at h
    obtain ⟨q1,q2,q3,q4,q5,q6⟩:=h
    have hx:min (max mx (-1)) 128=mx∨min (max mx (-1)) 128= -1∨min (max mx (-1)) 128=128:=by omega
    have hy:min (max my (-1)) 128=my∨min (max my (-1)) 128= -1∨min (max my (-1)) 128=128:=by omega
    apply hc
    generalize min (max mx (-1)) 128=X at *
    generalize min (max my (-1)) 128=Y at *
    rcases hx with rfl|rfl|rfl<;>rcases hy with rfl|rfl|rfl<;>omega
   have h2:¬ (fmd f&&(decide (0≤mx)&&(decide (16 * mx+16≤f.w)&&(decide (0≤my)&&decide (16 * my+16≤f.h)))))=true:=by
    simp only [Bool.and_eq_true,decide_eq_true_eq];omega
   rw [h1,Bool.and_false,if_neg (by simp),if_neg h2]
 ·have hf':fmd f=false:=by simpa using hf
  rw [hf',Bool.false_and,Bool.false_and]
  rfl
theorem zwG (l:List Fm):(l.flatMap fmc).length=l.length * 5:=zaF fmc 5 l fun x _=>rfl
set_option maxHeartbeats 6400000 in
set_option maxRecDepth 100000 in
theorem zjt (c:Cx) (m:Mb) (i:Nat) (pa fu fi:Fm) (mx my:Int) (H:za) (hi:H[i]? =some (mB m)) (hml:m.lv.length=384) (hp:PrOk m):
  CallOk Tryz.prog 137 [.agg (cxc c),.ptr i 0 0,.agg (fmc pa++(fmc fu++fmc fi)),.int .i64 mx,.int .i64 my] H (.tup [.agg (fmc (prS c m pa fu fi mx my).1),.int .i64 (prS c m pa fu fi mx my).2]) H:=by
 have hil:=(List.getElem?_eq_some_iff.1 hi).1
 have hx:=fun K=>zZ (K:=K) hi
 have e4:=zb3 m hml
 have eu:List.take 2 (List.drop 1 (mbc m))=[.bool m.ua,.bool m.ub]:=rfl
 have efp:(mbc m)[3]? =some (.bool m.fp):=rfl
 have es:∀ d,d<2→(mbc m)[13+d * 2]? =some (.int .i64 (s1 m d)):=fun d hd=>by
  have:d=0∨d=1:=by omega
  rcases this with rfl|rfl<;>rfl
 have ess:∀ d,d<2→List.take 2 (List.drop (13+d * 2) (mbc m))=[.int .i64 (s1 m d),.int .i64 (s2 m d)]:=fun d hd=>by
  have:d=0∨d=1:=by omega
  rcases this with rfl|rfl<;>rfl
 have ev4:∀ d,d<2→List.take 4 (List.drop (5+d * 4) (mbc m))=[.int .i64 (v1 m d),.int .i64 (v2 m d),.int .i64 (v3 m d),.int .i64 (v4 m d)]:=fun d hd=>by
  have:d=0∨d=1:=by omega
  rcases this with rfl|rfl<;>rfl
 have ev2:∀ d,d<2→List.take 2 (List.drop (5+d * 4) (mbc m))=[.int .i64 (v1 m d),.int .i64 (v2 m d)]:=fun d hd=>by
  have:d=0∨d=1:=by omega
  rcases this with rfl|rfl<;>rfl
 have cl:(cxc c).length=4:=rfl
 have cc:(cxc c).all PV.cell=true:=rfl
 have ct4:List.take 4 (cxc c)=cxc c:=rfl
 have rl:(fmc pa++(fmc fu++fmc fi)).length=15:=rfl
 have rc:(fmc pa++(fmc fu++fmc fi)).all PV.cell=true:=rfl
 have rt:List.take 15 (fmc pa++(fmc fu++fmc fi))=fmc pa++(fmc fu++fmc fi):=rfl
 have hgo:=zr9 c m pa fu fi mx my hp.u
 generalize prS c m pa fu fi mx my=r at hgo ⊢
 refine CallOk.body (F0:=[(0,.agg (cxc c)),(1,.ptr i 0 0),(2,.agg (fmc pa++(fmc fu++fmc fi))),(3,.int .i64 mx),(4,.int .i64 my)]) Tryz.func137 rfl Tryz.ntmps137 Tryz.results137 rfl (by kernel_rfl) rfl ?_
 refine PW.f (fun K k=>by simp (maxSteps:=3000000) (disch:=omega) only [go_sem,↓reduceIte,reduceCtorEq,cc,rc];exact k) ?_
 refine PW.e ?_
 refine PW.f (fun K k=>by simp (maxSteps:=3000000) (disch:=omega) only [go_sem,↓reduceIte,reduceCtorEq,hi,hx,mB,eu,e4];exact k) ?_
 (repeat refine PW.seq ?_)
 refine PW.view (Vs.ghost 12 33 5 rfl) ?_
 (repeat refine PW.seq ?_);refine PW.block (PW.loop ?_)
 suffices hloop:∀ (n d:Nat) (l:List Fm),d+n=2→(∀ g∈l,F16 g)→l.length=zli m d→goP c m pa fu fi mx my n l=r→PL Tryz.prog _ _ [(1,.ptr i 0 0),(3,.int .i64 mx),(4,.int .i64 my),(5,.ptr H.length 0 0),(7,.ptr (H.length+1) 0 0),(10,.ptr (H.length+2) 0 0),(12,.msl (H.length+3) (l.length * 5) 0 l.length 5 true),(21,.agg [.bool m.ua,.bool m.ub]),(22,.int .i64 (d:Int))] (H++[⟨157,0,cxc c⟩,⟨87,0,fmc pa++(fmc fu++fmc fi)⟩,⟨33,0,[.int .i64 0,.int .i64 0,.slice [] 0 true,.slice [] 0 true,.slice [] 0 true]⟩,⟨33,l.length * 5,l.flatMap fmc⟩]) _ by
  exact PL.at [1,3,4,5,7,10,12,21,22] (hloop 2 0 [] rfl (fun g hg=>by cases hg) rfl hgo) (by simp [kp,slot,Nat.beq]) (by simp)
 intro n
 induction n with
 | zero=>
  intro d l hd hl hlen hr
  have hd2:d=2:=by omega
  subst hd2
  have hr1:r=(zsn l,0):=hr.symm
  subst hr1
  refine PL.round ?_;refine PW.e ?_;(repeat refine PW.seq ?_);refine PW.cond (t:=_) rfl (fun h=> ?_) (fun h=> ?_)
  ·cases h
  refine PW.exit ?_
  have hn:l.length=1∨l.length=2:=by
   have e2:zli m 2=(if m.ua=true then 1 else 0)+(if m.ub=true then 1 else 0):=by simp [zli]
   rw [hlen,e2]
   rcases hp.u with e|e<;>rw [e]
   ·cases m.ub<;>simp
   ·cases m.ua<;>simp
  rcases hn with h1|h1
  ·obtain ⟨a,rfl⟩:∃ a,l=[a]:=by
    match l,h1 with
    | [a],_=>exact ⟨a,rfl⟩
   have ga:=(hl a (by simp)).c
   have gt:List.take 5 ([a].flatMap fmc)=fmc a:=rfl
   have gl:([a].flatMap fmc).length=5:=rfl
   have g5:(fmc a).all PV.cell=true:=rfl
   have g7:(fmc a).length=5:=rfl
   have g8:List.take 5 (fmc a)=fmc a:=rfl
   have g9:List.drop 5 [PV.int .i64 0,PV.int .i64 0,PV.slice [] 0 true,PV.slice [] 0 true,PV.slice [] 0 true]=[]:=rfl
   refine PW.e ?_
   (repeat refine PW.seq ?_);refine PW.cond (t:=_) rfl (fun h=> ?_) (fun h=> ?_)
   rotate_left
   ·cases h
   refine PW.f (fun K k=>by simp (maxSteps:=3000000) (disch:=omega) only [go_sem,↓reduceIte,reduceCtorEq,gt,gl,g5,g7,g8,g9];exact k) ?_
   refine PW.ret ⟨.tup [.agg (fmc a),.int .i64 0],by simp (maxSteps:=3000000) (disch:=omega) only [go_sem,↓reduceIte,reduceCtorEq,zd,zg,List.mapM_cons,List.mapM_nil,Option.pure_def,Option.bind_eq_bind,Option.bind_some,Array.toList,g7,g8],?_⟩
   exact Fin.base (.id (zO _ _ _ _ _ _ _ _ _ _))
  ·obtain ⟨a,b,rfl⟩:∃ a b,l=[a,b]:=by
    match l,h1 with
    | [a,b],_=>exact ⟨a,b,rfl⟩
   have av:=fun L=>zln a b (hl a (by simp)) (hl b (by simp)) L
   have gt:List.take 5 ([a,b].flatMap fmc)=fmc a:=rfl
   have gt2:List.take 5 (List.drop 5 ([a,b].flatMap fmc))=fmc b:=rfl
   have gl:([a,b].flatMap fmc).length=10:=rfl
   obtain ⟨g,hg⟩:∃ g,mnF a b=g:=⟨_,rfl⟩
   rw [hg] at av
   have hfg:zsn [a,b]=g:=hg
   rw [hfg]
   have g5:(fmc g).all PV.cell=true:=rfl
   have g7:(fmc g).length=5:=rfl
   have g8:List.take 5 (fmc g)=fmc g:=rfl
   have g9:List.drop 5 [PV.int .i64 0,PV.int .i64 0,PV.slice [] 0 true,PV.slice [] 0 true,PV.slice [] 0 true]=[]:=rfl
   refine PW.e ?_
   (repeat refine PW.seq ?_);refine PW.cond (t:=_) rfl (fun h=> ?_) (fun h=> ?_)
   ·cases h
   refine PW.skip ?_
   (repeat refine PW.seq ?_);refine PW.drawi [H.length+2] [(10,[0])] [] [106] mix (by kernel_rfl) (by simp<;>omega) fun K hK=> ?_
   simp (maxSteps:=3000000) (disch:=omega) only [go_sem,↓reduceIte,reduceCtorEq,zaH,gt,gt2,gl]
   refine VCj.read (fun _ _=>av _) rfl ?_
   simp (maxSteps:=3000000) (disch:=omega) only [go_sem,↓reduceIte,reduceCtorEq,g5,g7,g8,g9]
   refine hK _ _ ?_;clear hK K
   refine PW.ret ⟨.tup [.agg (fmc g),.int .i64 0],by simp (maxSteps:=3000000) (disch:=omega) only [go_sem,↓reduceIte,reduceCtorEq,zd,zg,List.mapM_cons,List.mapM_nil,Option.pure_def,Option.bind_eq_bind,Option.bind_some,Array.toList,g7,g8],?_⟩
   exact Fin.base (.id (zO _ _ _ _ _ _ _ _ _ _))
 | succ n ih=>
  intro d l hd hl hlen hr
  have hd2:d<2:=by omega
  have hdn:1 - n=d:=by omega
  rw [goP,hdn] at hr
  have ct:decide ((d:Int)<2)=true:=decide_eq_true (by omega)
  have eus:[PV.bool m.ua,PV.bool m.ub][d]? =some (.bool (us m d)):=by
   have:d=0∨d=1:=by omega
   rcases this with rfl|rfl<;>rfl
  have hcn:zli m (d+1)=zli m d+if us m d=true then 1 else 0:=by
   have:d=0∨d=1:=by omega
   rcases this with rfl|rfl<;>simp [zli,us]
  refine PL.round ?_;refine PW.f (fun K k=>by simp (maxSteps:=3000000) (disch:=omega) only [go_sem,↓reduceIte,reduceCtorEq,ct];exact k) ?_;(repeat refine PW.seq ?_);refine PW.cond (t:=_) rfl (fun h=> ?_) (fun h=> ?_)
  rotate_left
  ·cases h
  refine PW.skip ?_;(repeat refine PW.seq ?_);refine PW.block ?_
  refine PW.f (fun K k=>by simp (maxSteps:=3000000) (disch:=omega) only [go_sem,↓reduceIte,reduceCtorEq,eus];exact k) ?_
  refine PW.e ?_
  (repeat refine PW.seq ?_);refine PW.cond (t:=_) rfl (fun h=> ?_) (fun h=> ?_)
  ·have hu:us m d=false:=by simpa using h
   rw [hu,if_neg (by simp)] at hr
   rw [hu,if_neg (by simp)] at hcn
   refine PW.exit ?_
   refine PW.e ?_
   exact PL.at [1,3,4,5,7,10,12,21,22] (ih (d+1) l (by omega) hl (by omega) hr) rfl rfl
  have hu:us m d=true:=by simpa using h
  rw [hu,if_pos rfl] at hr hcn
  have hpf:=hp.f d hu
  have h1:=es d hd2
  have h2:=ess d hd2
  have h3:=ev4 d hd2
  have h4:=ev2 d hd2
  have hD:ziH c m pa fu fi d mx my=dirP c m.fp (v1 m d) (v2 m d) (v3 m d) (v4 m d) (s1 m d) (s2 m d) pa fu fi (d:Int) mx my:=rfl
  have h16:(ziH c m pa fu fi d mx my).2=0→F16 (ziH c m pa fu fi d mx my).1:=ziG
  unfold dirP at hD
  have rf:=fun L=>zh7 c pa fu fi (d:Int) (s1 m d) L
  generalize ziH c m pa fu fi d mx my=R at hD hr h16
  generalize refS c pa fu fi (d:Int) (s1 m d)=T at rf hD
  obtain ⟨g,e⟩:=T
  simp only at rf hD
  refine PW.skip ?_
  have g5:(fmc g).all PV.cell=true:=rfl
  have g7:(fmc g).length=5:=rfl
  have g8:List.take 5 (fmc g)=fmc g:=rfl
  refine PW.view (Vs.place 33) ?_
  (repeat refine PW.seq ?_);refine PW.drawi [H.length+4] [(15,[0])] [(15,0)] [39] mix (by kernel_rfl) (by simp<;>omega) fun K hK=> ?_
  simp (maxSteps:=3000000) (disch:=omega) only [go_sem,↓reduceIte,reduceCtorEq,zaH,hi,hx,mB,e4,h1,cl,ct4,rl,rt]
  refine VCj.read (fun _ _=>rf _) rfl ?_
  simp (maxSteps:=3000000) (disch:=omega) only [go_sem,↓reduceIte,reduceCtorEq,g5,g7]
  refine hK _ _ ?_;clear hK K
  refine PW.e ?_
  (repeat refine PW.seq ?_);refine PW.cond (t:=_) rfl (fun h=> ?_) (fun h=> ?_)
  ·have he:e≠0:=by simpa using h
   rw [if_pos he] at hD
   subst hD
   rw [if_pos (by exact he)] at hr
   refine PW.e ?_
   refine PW.ret ⟨.tup [.agg [.int .i64 0,.int .i64 0,.slice [] 0 true,.slice [] 0 true,.slice [] 0 true],.int .i64 e],by simp (maxSteps:=3000000) (disch:=omega) only [go_sem,↓reduceIte,reduceCtorEq,zd,zg,List.mapM_cons,List.mapM_nil,Option.pure_def,Option.bind_eq_bind,Option.bind_some,Array.toList],?_⟩
   rw [←hr]
   exact Fin.base (fz0 _ _ _)
  have he:e=0:=by simpa using h
  rw [if_neg (by simp [he])] at hD
  refine PW.skip ?_
  refine PW.e ?_
  refine PW.f (fun K k=>by simp (maxSteps:=3000000) (disch:=omega) only [go_sem,↓reduceIte,reduceCtorEq,hi,hx,mB,e4,efp];exact k) ?_
  suffices hrest:PW Tryz.prog _ _ [(1,.ptr i 0 0),(3,.int .i64 mx),(4,.int .i64 my),(5,.ptr H.length 0 0),(7,.ptr (H.length+1) 0 0),(10,.ptr (H.length+2) 0 0),(12,.msl (H.length+3) (l.length * 5) 0 l.length 5 true),(16,.int .i64 R.2),(17,.ptr (H.length+5) 0 0),(21,.agg [.bool m.ua,.bool m.ub]),(22,.int .i64 (d:Int))] (H++[⟨157,0,cxc c⟩,⟨87,0,fmc pa++(fmc fu++fmc fi)⟩,⟨33,0,[.int .i64 0,.int .i64 0,.slice [] 0 true,.slice [] 0 true,.slice [] 0 true]⟩,⟨33,l.length * 5,l.flatMap fmc⟩,⟨33,1,fmc g⟩,⟨33,0,fmc R.1⟩]) _ by
   (repeat refine PW.seq ?_);refine PW.cond (t:=_) rfl (fun h=> ?_) (fun h=> ?_)
   ·have hf:m.fp=true:=h
    rw [hf,if_pos rfl] at hD
    obtain ⟨k1,k2,k3,k4⟩:=hpf hf
    have fl:=fun L=>zno g mx my (v1 m d) (v2 m d) (v3 m d) (v4 m d) (s1 m d) (s2 m d) k1 k2 k3 k4 L
    rw [←hD] at fl
    have r5:(fmc R.1).all PV.cell=true:=rfl
    have r7:(fmc R.1).length=5:=rfl
    have r9:List.drop 5 [PV.int .i64 0,PV.int .i64 0,PV.slice [] 0 true,PV.slice [] 0 true,PV.slice [] 0 true]=[]:=rfl
    (repeat refine PW.seq ?_);refine PW.drawi [H.length+5] [(17,[0])] [] [66] mix (by kernel_rfl) (by simp<;>omega) fun K hK=> ?_
    simp (maxSteps:=3000000) (disch:=omega) only [go_sem,↓reduceIte,reduceCtorEq,zaH,hi,hx,mB,e4,h2,h3,g7,g8]
    refine VCj.read (fun _ _=>fl _) rfl ?_
    simp (maxSteps:=3000000) (disch:=omega) only [go_sem,↓reduceIte,reduceCtorEq,r5,r7,r9]
    refine hK _ _ ?_;clear hK K
    exact PW.at [1,3,4,5,7,10,12,16,17,21,22] hrest rfl rfl
   ·have hf:m.fp=false:=h
    rw [hf,if_neg (by simp),←zt7] at hD
    have sx:=fun L=>zhy mx L
    have sy:=fun L=>zhy my L
    have pr:=fun L=>zde g (16 * min (max mx (-1)) 128) (16 * min (max my (-1)) 128) (v1 m d) (v2 m d) 16 (.inr rfl) (by omega) L
    rw [←hD] at pr
    have r5:(fmc R.1).all PV.cell=true:=rfl
    have r7:(fmc R.1).length=5:=rfl
    have r9:List.drop 5 [PV.int .i64 0,PV.int .i64 0,PV.slice [] 0 true,PV.slice [] 0 true,PV.slice [] 0 true]=[]:=rfl
    (repeat refine PW.seq ?_);refine PW.drawi [H.length+5] [(17,[0])] [] [72,74,82] mix (by kernel_rfl) (by simp<;>omega) fun K hK=> ?_
    simp (maxSteps:=3000000) (disch:=omega) only [go_sem,↓reduceIte,reduceCtorEq,zaH,hi,hx,mB,e4,h4,g7,g8]
    refine VCj.read (fun _ _=>sx _) rfl ?_
    simp (maxSteps:=3000000) (disch:=omega) only [go_sem,↓reduceIte,reduceCtorEq]
    refine VCj.read (fun _ _=>sy _) rfl ?_
    simp (maxSteps:=3000000) (disch:=omega) only [go_sem,↓reduceIte,reduceCtorEq,zaH,hi,hx,mB,e4,h4,g7,g8]
    refine VCj.read (fun _ _=>pr _) rfl ?_
    simp (maxSteps:=3000000) (disch:=omega) only [go_sem,↓reduceIte,reduceCtorEq,r5,r7,r9]
    refine hK _ _ ?_;clear hK K
    exact PW.at [1,3,4,5,7,10,12,16,17,21,22] hrest rfl rfl
  refine PW.e ?_
  (repeat refine PW.seq ?_);refine PW.cond (t:=_) rfl (fun h=> ?_) (fun h=> ?_)
  ·have he2:R.2≠0:=by simpa using h
   rw [if_pos he2] at hr
   refine PW.e ?_
   refine PW.ret ⟨.tup [.agg [.int .i64 0,.int .i64 0,.slice [] 0 true,.slice [] 0 true,.slice [] 0 true],.int .i64 R.2],by simp (maxSteps:=3000000) (disch:=omega) only [go_sem,↓reduceIte,reduceCtorEq,zd,zg,List.mapM_cons,List.mapM_nil,Option.pure_def,Option.bind_eq_bind,Option.bind_some,Array.toList],?_⟩
   rw [←hr]
   exact Fin.base (fz0 _ _ _)
  have he2:R.2=0:=by simpa using h
  rw [if_neg (by simp [he2])] at hr
  have hR:=h16 he2
  have nx:=ih (d+1) (l++[R.1]) (by omega) (fun g hg=>by
   rcases List.mem_append.1 hg with hg|hg
   ·exact hl g hg
   ·rw [List.mem_singleton] at hg;rw [hg];exact hR) (by rw [List.length_append];simp only [List.length_cons,List.length_nil];omega) hr
  have r7:(fmc R.1).length=5:=rfl
  have r8:List.take 5 (fmc R.1)=fmc R.1:=rfl
  have r5:(fmc R.1).all PV.cell=true:=rfl
  have lf:=zwG l
  have lb:l.length≤2:=by rw [hlen];unfold zli;split<;>split<;>omega
  have fa:(l++[R.1]).flatMap fmc=l.flatMap fmc++fmc R.1:=by simp
  have ll1:(l++[R.1]).length=l.length+1:=by simp
  have lp:(l.flatMap fmc++fmc R.1).length=(l.length+1) * 5:=by rw [List.length_append,lf,r7];omega
  rw [fa,ll1] at nx
  refine PW.skip ?_
  refine PW.f (fun K k=>by simp (maxSteps:=3000000) (disch:=omega) only [go_sem,↓reduceIte,reduceCtorEq,r5,r7,r8,lf];exact k) ?_
  refine PW.e ?_
  rw [lp]
  refine PL.view (Vs.trim (F1:=[(1,.ptr i 0 0),(3,.int .i64 mx),(4,.int .i64 my),(5,.ptr H.length 0 0),(7,.ptr (H.length+1) 0 0),(10,.ptr (H.length+2) 0 0),(12,.msl (H.length+3) ((l.length+1) * 5) 0 (l.length+1) 5 true),(21,.agg [.bool m.ua,.bool m.ub]),(22,.int .i64 ((d+1:Nat):Int))]) (H1:=H++[⟨157,0,cxc c⟩,⟨87,0,fmc pa++(fmc fu++fmc fi)⟩,⟨33,0,[.int .i64 0,.int .i64 0,.slice [] 0 true,.slice [] 0 true,.slice [] 0 true]⟩,⟨33,(l.length+1) * 5,l.flatMap fmc++fmc R.1⟩]) (ziz ?_) (by simp) (List.append_assoc _ [_,_,_,_] [_,_]).symm ?_) nx
  ·intro b hb z hz
   simp only [List.mem_cons,List.not_mem_nil,or_false] at hb
   rcases hb with rfl|rfl|rfl|rfl
   ·simp only [cxc,List.mem_cons,List.not_mem_nil,or_false] at hz
    rcases hz with rfl|rfl|rfl|rfl
    ·exact .int _ _
    ·exact .int _ _
    ·exact .bool _
    ·exact .bool _
   ·rcases List.mem_append.1 hz with hz|hz
    ·exact za5 _ _ _ _ _ _ _ _ _ _ _ _ z hz
    ·rcases List.mem_append.1 hz with hz|hz
     ·exact za5 _ _ _ _ _ _ _ _ _ _ _ _ z hz
     ·exact za5 _ _ _ _ _ _ _ _ _ _ _ _ z hz
   ·exact za5 _ 0 0 [] [] [] _ _ _ _ _ _ z hz
   ·rcases List.mem_append.1 hz with hz|hz
    ·obtain ⟨g,_,hg⟩:=List.mem_flatMap.1 hz
     exact za5 _ _ _ _ _ _ _ _ _ _ _ _ z hg
    ·exact za5 _ _ _ _ _ _ _ _ _ _ _ _ z hz
  ·rw [hl4]
   exact ⟨.id (.ptr (by omega)),.id (.int _ _),.id (.int _ _),.id (.ptr (by omega)),.id (.ptr (by omega)),.id (.ptr (by omega)),.id (.msl (by omega)),.id (zB fun x hx=>by
    simp only [List.mem_cons,List.not_mem_nil,or_false] at hx
    rcases hx with rfl|rfl<;>exact .bool _),.id (.int _ _),trivial⟩
end Go.Proofs.YtjgmdlcjbgiekaaGreatDoor.Sc
