/-
  Parts of the proof, put together in one text. No condition.
-/
import Derived.Test.YtjgmdlcjbgiekaaGreatDoorQ35
namespace Go.Proofs.YtjgmdlcjbgiekaaGreatDoor.Sc
set_option linter.all false
open Pm Ty Go.RowKit
theorem zmm {V K P:Nat} {y u v:List UInt8} (h:Fok V K y u v) (hP:P≤1):Hok V K (fld V K P y u v):=by
 obtain ⟨rv,rk,ly,lu,lv⟩:=h
 exact ⟨rfl,rfl,rv,rk,zaS y _ _ _ _ (zaA _ _ _ hP _ ly),zaS u _ _ _ _ (zaA _ _ _ hP _ lu),zaS v _ _ _ _ (zaA _ _ _ hP _ lv)⟩
theorem zju (f:Fm) (x y vx vy:Int):Hok 8 4 (prdF f x y 8 vx vy):=⟨rfl,rfl,by omega,by omega,zak _ _ _ _ _ _ _ _ _,zak _ _ _ _ _ _ _ _ _,zak _ _ _ _ _ _ _ _ _⟩
theorem zt5 (f:Fm) (x y vx vy:Int):fmc (prdF f x y 8 vx vy)=[.int .i64 16,.int .i64 8,.slice (bs (prdF f x y 8 vx vy).y) 128 false,.slice (bs (prdF f x y 8 vx vy).u) 32 false,.slice (bs (prdF f x y 8 vx vy).v) 32 false]:=zoY f x y 8 vx vy
theorem F16.c {f:Fm} (h:F16 f):fmc f=[.int .i64 16,.int .i64 16,.slice (bs f.y) 256 false,.slice (bs f.u) 64 false,.slice (bs f.v) 64 false]:=by
 unfold fmc;rw [h.w,h.h,h.ly,h.lu,h.lv]
theorem zjt {f:Fm} {mx my va vb s:Int} (hm:zdc f mx my=true) (h32:f.h%32=0) (hs:s=0∨s=1) (hv:vrg va vb=true):zhe (fieldOf f s) (16 * mx) (8 * my) 8 va vb=(prdF (fieldOf f s) (16 * mx) (8 * my) 8 va vb,0):=by
 simp only [zdc,Bool.and_eq_true,decide_eq_true_eq] at hm
 obtain ⟨hf,m1,m2,m3,m4⟩:=hm
 obtain ⟨w,ht,y,u,v⟩:=f
 simp only at h32 m2 m4
 obtain ⟨V,K,rfl,rfl,hok⟩:=zdJ hf h32
 obtain ⟨P,hP,rfl⟩:∃ P:Nat,P≤1∧s=(P:Int):=by
  rcases hs with e|e
  ·exact ⟨0,by omega,by omega⟩
  ·exact ⟨1,by omega,by omega⟩
 have e1:=zaN V K P y u v
 unfold fr4 at e1
 rw [e1]
 have h1:=(zmm hok hP).fmd
 have h2:zfD (fld V K P y u v) (16 * mx) (8 * my) ((8:Nat):Int)=true:=by
  have w1:(fld V K P y u v).w=((2 * V:Nat):Int):=rfl
  have w2:(fld V K P y u v).h=((2 * K:Nat):Int):=rfl
  unfold zfD
  rw [w1,w2]
  simp only [Bool.and_eq_true,decide_eq_true_eq]
  omega
 unfold zhe
 rw [h1,h2,if_pos (by rfl),hv,if_pos rfl]
theorem zhw (n:Int) (H:za):CallOk Tryz.prog 220 [.int .i64 n] H (.int .i64 (16 * min (max n (-1)) 128)) H:=by
 refine CallOk.body (F0:=[(0,.int .i64 n)]) Tryz.func220 rfl Tryz.ntmps220 Tryz.results220 rfl (by kernel_rfl) rfl ?_
 refine PW.e ?_
 have cl:(if 128<(if n< -1 then -1 else n) then 128 else (if n< -1 then -1 else n))=min (max n (-1)) 128:=by omega
 refine PW.f (fun K k=>by simp (maxSteps:=3000000) (disch:=omega) only [go_sem,↓reduceIte,reduceCtorEq,cl];exact k) ?_
 (refine PW.ret ⟨_,rfl,?_⟩;first|refine .inl ⟨?_,rfl⟩|refine Fin.base (.id' ?_ (.bool _))|refine Fin.base (.id' ?_ (.int _ _)))
 rfl
theorem zwT (b:Bool):zd3 Tryz.prog 154 [(0,.int .i64 2),(1,.agg [.bool true,.bool b])]=some (.agg (mbc ⟨2,true,b,false,false,0,0,0,0,0,0,0,0,0,0,0,0,0,false,false,false,false,false,false,zl384⟩)):=by cases b<;>kernel_rfl
attribute [go_sem high] zwT
theorem zsS:zk Tryz.prog 154=some zmv:=by kernel_rfl
theorem zcK:zl384.length=384:=List.length_replicate
theorem znE:zmv.length=408:=zb8 zMb zcK
theorem zcC (m:Mb):(mbc m).all PV.cell=true:=by
 have hall:=zU m.lv
 simp [mbc,PV.cell,hall]
theorem zmQ:zmv.all PV.cell=true:=zcC zMb
theorem zis (k:Nat) (m:Mb):∀ x∈mbc m,Scoped k x:=fun x hx=>by
 simp only [mbc,List.mem_cons] at hx
 rcases hx with rfl|rfl|rfl|rfl|rfl|rfl|rfl|rfl|rfl|rfl|rfl|rfl|rfl|rfl|rfl|rfl|rfl|rfl|rfl|rfl|rfl|rfl|rfl|rfl|hx
 all_goals first|exact .int _ _|exact .bool _|exact zar _ _ _ hx
set_option maxHeartbeats 1600000 in
set_option maxRecDepth 100000 in
theorem zoc (c:Cx) (H:za):CallOk Tryz.prog 136 [.agg (cxc c)] H (.agg (mbc (stl c))) H:=by
 have fo:=fun L=>zlg c L
 have po:=fun L=>zkU c L
 obtain ⟨t,s,ii,nn⟩:=c
 simp only [cxc] at fo po ⊢
 refine CallOk.body (F0:=[(0,.agg [.int .i64 t,.int .i64 s,.bool ii,.bool nn])]) Tryz.func136 rfl Tryz.ntmps136 Tryz.results136 rfl (by kernel_rfl) rfl ?_
 have zl:=znE
 have zc:=zmQ
 have ml:=fun b=>zb8 ⟨2,true,b,false,false,0,0,0,0,0,0,0,0,0,0,0,0,0,false,false,false,false,false,false,zl384⟩ zcK
 have mc:=fun b=>zcC ⟨2,true,b,false,false,0,0,0,0,0,0,0,0,0,0,0,0,0,false,false,false,false,false,false,zl384⟩
 have dl1:(List.drop 1 zmv).length=407:=by rw [List.length_drop,zl]
 have em:∀ b,PV.int .i64 2::PV.bool true::PV.bool b::List.drop (1+1) (List.drop 1 zmv)=mbc ⟨2,true,b,false,false,0,0,0,0,0,0,0,0,0,0,0,0,0,false,false,false,false,false,false,zl384⟩:=fun b=>rfl
 have dz:List.drop 408 zmv=[]:=List.drop_of_length_le (by omega)
 refine PW.f (fun K k=>by simp (maxSteps:=3000000) (disch:=omega) only [go_sem,↓reduceIte,reduceCtorEq,↓zsS];exact k) ?_
 refine PW.f (fun K k=>by simp (maxSteps:=3000000) (disch:=omega) only [go_sem,↓reduceIte,reduceCtorEq,↓zsS,zl,ml,mc,dz,dl1,em,Nat.reduceAdd,Nat.reduceLeDiff];exact k) ?_
 obtain ⟨B,hB⟩:∃ B,(t==3)=B:=⟨_,rfl⟩
 rw [hB]
 have hs:stl ⟨t,s,ii,nn⟩=⟨2,true,B,false,false,0,0,0,0,0,0,0,0,pcx ⟨t,s,ii,nn⟩,0,if B=true then pcx ⟨t,s,ii,nn⟩ else 0,0,0,false,false,false,false,false,false,zl384⟩:=by
  unfold stl
  by_cases h3:t=3
  ·have:B=true:=by rw [←hB,h3];rfl
   subst this
   simp [h3]
  ·have:B=false:=by rw [←hB];simp [h3]
   subst this
   simp [h3]
 rw [hs]
 clear hs hB
 refine PW.f (fun K k=>by simp (maxSteps:=3000000) (disch:=omega) only [go_sem,↓reduceIte,reduceCtorEq];refine VCx.call (fo _) rfl ?_;simp (maxSteps:=3000000) (disch:=omega) only [go_sem,↓reduceIte,reduceCtorEq];exact k) ?_
 (repeat refine PW.seq ?_);refine PW.cond (t:=_) rfl (fun h=> ?_) (fun h=> ?_)
 rotate_left
 ·have hf:pcx ⟨t,s,ii,nn⟩=0:=by
   have h':fcx ⟨t,s,ii,nn⟩=false:=h
   unfold fcx at h'
   have h3:s=3:=by simpa using h'
   show (if s=2 then (1:Int) else 0)=0
   rw [if_neg (by omega)]
  rw [hf]
  simp only [ite_self]
  refine PW.skip ?_
  have tk:=fun b=>(List.take_of_length_le (by rw [ml b];exact Nat.le_refl _):List.take 408 (mbc ⟨2,true,b,false,false,0,0,0,0,0,0,0,0,0,0,0,0,0,false,false,false,false,false,false,zl384⟩)=_)
  refine PW.f (fun K k=>by simp (maxSteps:=3000000) (disch:=omega) only [go_sem,↓reduceIte,reduceCtorEq,ml,mc,zl,dz,tk];exact k) ?_
  refine PW.ret ⟨.agg (mbc ⟨2,true,B,false,false,0,0,0,0,0,0,0,0,0,0,0,0,0,false,false,false,false,false,false,zl384⟩),by simp (maxSteps:=3000000) (disch:=omega) only [go_sem,↓reduceIte,reduceCtorEq,zd,zg,List.mapM_cons,List.mapM_nil,Option.pure_def,Option.bind_eq_bind,Option.bind_some,Array.toList,ml,tk],?_⟩
  exact Fin.base (.id (zB (zis _ _)))
 generalize pcx ⟨t,s,ii,nn⟩=p at *
 have ml2:=fun b p q=>zb8 ⟨2,true,b,false,false,0,0,0,0,0,0,0,0,p,0,q,0,0,false,false,false,false,false,false,zl384⟩ zcK
 have mc2:=fun b p q=>zcC ⟨2,true,b,false,false,0,0,0,0,0,0,0,0,p,0,q,0,0,false,false,false,false,false,false,zl384⟩
 have s1:∀ b p q x,(mbc ⟨2,true,b,false,false,0,0,0,0,0,0,0,0,p,0,q,0,0,false,false,false,false,false,false,zl384⟩).set 13 (.int .i64 x)=mbc ⟨2,true,b,false,false,0,0,0,0,0,0,0,0,x,0,q,0,0,false,false,false,false,false,false,zl384⟩:=fun _ _ _ _=>rfl
 have s2:∀ b p q x,(mbc ⟨2,true,b,false,false,0,0,0,0,0,0,0,0,p,0,q,0,0,false,false,false,false,false,false,zl384⟩).set 15 (.int .i64 x)=mbc ⟨2,true,b,false,false,0,0,0,0,0,0,0,0,p,0,x,0,0,false,false,false,false,false,false,zl384⟩:=fun _ _ _ _=>rfl
 have tk:=fun b p q=>(List.take_of_length_le (by rw [ml2 b p q];exact Nat.le_refl _):List.take 408 (mbc ⟨2,true,b,false,false,0,0,0,0,0,0,0,0,p,0,q,0,0,false,false,false,false,false,false,zl384⟩)=_)
 have t2:∀ b p q,List.take 2 (List.drop 1 (mbc ⟨2,true,b,false,false,0,0,0,0,0,0,0,0,p,0,q,0,0,false,false,false,false,false,false,zl384⟩))=[.bool true,.bool b]:=fun _ _ _=>rfl
 refine PW.f (fun K k=>by simp (maxSteps:=3000000) (disch:=omega) only [go_sem,↓reduceIte,reduceCtorEq,ml2,t2];exact k) ?_
 (repeat refine PW.seq ?_);refine PW.block (PW.loop ?_)
 refine PL.round ?_;refine PW.e ?_;refine PW.t ?_
 refine PW.skip ?_;(repeat refine PW.seq ?_);refine PW.block ?_
 refine PW.e ?_
 refine PW.e ?_
 refine PW.t ?_
 (repeat refine PW.seq ?_);refine PW.drawi [H.length+2] [(3,[0]),(23,[0]),(24,[0]),(25,[0])] [] [22] mix (by kernel_rfl) (by simp<;>omega) fun K hK=> ?_
 simp (maxSteps:=3000000) (disch:=omega) only [go_sem,↓reduceIte,reduceCtorEq,zaF,ml2]
 refine VCj.read (fun _ _=>po _) rfl ?_
 simp (maxSteps:=3000000) (disch:=omega) only [go_sem,↓reduceIte,reduceCtorEq,ml2,s1]
 refine hK _ _ ?_;clear hK K
 refine PW.e ?_
 refine PL.round ?_;refine PW.e ?_;refine PW.t ?_
 refine PW.skip ?_;(repeat refine PW.seq ?_);refine PW.block ?_
 refine PW.e ?_
 cases B
 ·refine PW.e ?_
  refine PW.us ?_
  refine PW.e ?_
  refine PL.round ?_;refine PW.e ?_;refine PW.u ?_
  refine PW.exit ?_
  refine PW.f (fun K k=>by simp (maxSteps:=3000000) (disch:=omega) only [go_sem,↓reduceIte,reduceCtorEq,ml2,mc2,zl,dz,tk];exact k) ?_
  refine PW.ret ⟨.agg (mbc ⟨2,true,false,false,false,0,0,0,0,0,0,0,0,p,0,0,0,0,false,false,false,false,false,false,zl384⟩),by simp (maxSteps:=3000000) (disch:=omega) only [go_sem,↓reduceIte,reduceCtorEq,zd,zg,List.mapM_cons,List.mapM_nil,Option.pure_def,Option.bind_eq_bind,Option.bind_some,Array.toList,ml2,tk],?_⟩
  exact Fin.base (.id (zB (zis _ _)))
 ·refine PW.e ?_
  refine PW.t ?_
  (repeat refine PW.seq ?_);refine PW.drawi [H.length+2] [(3,[0]),(23,[0]),(24,[0]),(25,[0])] [] [22] mix (by kernel_rfl) (by simp<;>omega) fun K hK=> ?_
  simp (maxSteps:=3000000) (disch:=omega) only [go_sem,↓reduceIte,reduceCtorEq,zaF,ml2]
  refine VCj.read (fun _ _=>po _) rfl ?_
  simp (maxSteps:=3000000) (disch:=omega) only [go_sem,↓reduceIte,reduceCtorEq,ml2,s2]
  refine hK _ _ ?_;clear hK K
  refine PW.e ?_
  refine PL.round ?_;refine PW.e ?_;refine PW.u ?_
  refine PW.exit ?_
  refine PW.f (fun K k=>by simp (maxSteps:=3000000) (disch:=omega) only [go_sem,↓reduceIte,reduceCtorEq,ml2,mc2,zl,dz,tk];exact k) ?_
  refine PW.ret ⟨.agg (mbc ⟨2,true,true,false,false,0,0,0,0,0,0,0,0,p,0,p,0,0,false,false,false,false,false,false,zl384⟩),by simp (maxSteps:=3000000) (disch:=omega) only [go_sem,↓reduceIte,reduceCtorEq,zd,zg,List.mapM_cons,List.mapM_nil,Option.pure_def,Option.bind_eq_bind,Option.bind_some,Array.toList,ml2,tk],?_⟩
  exact Fin.base (.id (zB (zis _ _)))
set_option maxHeartbeats 6400000 in
set_option maxRecDepth 100000 in
theorem znq (f:Fm) (mx my va vb vc vd sa sb:Int) (hsa:sa=0∨sa=1) (hsb:sb=0∨sb=1) (hv1:vrg va vb=true) (hv2:vrg vc vd=true) (H:za):
  CallOk Tryz.prog 218 [.agg (fmc f),.int .i64 mx,.int .i64 my,.agg [.int .i64 va,.int .i64 vb,.int .i64 vc,.int .i64 vd],.agg [.int .i64 sa,.int .i64 sb]] H (.tup [.agg (fmc (fldS f mx my va vb vc vd sa sb).1),.int .i64 (fldS f mx my va vb vc vd sa sb).2]) H:=by
 have vo:=fun L=>zgb f L
 generalize hr:fldS f mx my va vb vc vd sa sb=r
 by_cases hc:(zdc f mx my&&decide (f.h%32=0))=true
 case neg=>
  have hc':(zdc f mx my&&decide (f.h%32=0))=false:=by simpa using hc
  rw [fldS,if_neg hc] at hr
  obtain ⟨w,ht,y,u,v⟩:=f
  simp only at hc'
  cases hf:fvd ⟨w,ht,y,u,v⟩
  ·rw [hf] at vo
   simp only [fmc] at vo ⊢
   refine CallOk.body (F0:=[(0,.agg [.int .i64 w,.int .i64 ht,.slice (bs y) y.length false,.slice (bs u) u.length false,.slice (bs v) v.length false]),(1,.int .i64 mx),(2,.int .i64 my),(3,.agg [.int .i64 va,.int .i64 vb,.int .i64 vc,.int .i64 vd]),(4,.agg [.int .i64 sa,.int .i64 sb])]) Tryz.func218 rfl Tryz.ntmps218 Tryz.results218 rfl (by kernel_rfl) rfl ?_
   refine PW.e ?_
   (repeat refine PW.seq ?_)
   refine PW.rgv (P:=Tryz.prog) [10,11] 49 (.bool true) ?_ ?_ ?_
   ·rfl
   ·simp (maxSteps:=3000000) (disch:=omega) only [go_sem,↓reduceIte,reduceCtorEq];(repeat' (first|((first|refine zj ?_ ?_|refine And.intro ?_ ?_)<;>intro h<;>(try simp only [nqb] at h)<;>simp (maxSteps:=3000000) (disch:=omega) only [go_sem,↓reduceIte,reduceCtorEq,h])|((first|refine VCx.call (vo _) rfl ?_);simp (maxSteps:=3000000) (disch:=omega) only [go_sem,↓reduceIte,reduceCtorEq])))
    all_goals (simp_all [slot,Nat.beq]<;>first|rfl|omega|(rw [Bool.eq_iff_iff];simp;done)|(rw [Bool.eq_iff_iff];simp;omega))
   refine PW.t ?_
   refine PW.e ?_
   refine PW.ret ⟨.tup [.agg [.int .i64 0,.int .i64 0,.slice [] 0 true,.slice [] 0 true,.slice [] 0 true],.int .i64 1],by simp (maxSteps:=3000000) (disch:=omega) only [go_sem,↓reduceIte,reduceCtorEq,zd,zg,List.mapM_cons,List.mapM_nil,Option.pure_def,Option.bind_eq_bind,Option.bind_some,Array.toList],?_⟩
   rw [←hr]
   exact Fin.base (fz0 _ _ _)
  ·have hp:(0≤w∧w≤64)∧0≤ht∧ht≤64:=by
    unfold fvd fmd at hf
    simp only [Bool.and_eq_true] at hf
    have:=zcW hf.1.1
    omega
   rw [hf] at vo
   unfold zdc at hc'
   rw [hf,Bool.true_and] at hc'
   simp only [fmc] at vo hc' ⊢
   clear hf hc
   refine CallOk.body (F0:=[(0,.agg [.int .i64 w,.int .i64 ht,.slice (bs y) y.length false,.slice (bs u) u.length false,.slice (bs v) v.length false]),(1,.int .i64 mx),(2,.int .i64 my),(3,.agg [.int .i64 va,.int .i64 vb,.int .i64 vc,.int .i64 vd]),(4,.agg [.int .i64 sa,.int .i64 sb])]) Tryz.func218 rfl Tryz.ntmps218 Tryz.results218 rfl (by kernel_rfl) rfl ?_
   refine PW.e ?_
   (repeat refine PW.seq ?_)
   refine PW.rgv (P:=Tryz.prog) [10,11] 49 (.bool true) ?_ ?_ ?_
   ·rfl
   ·clear hr hv1 hv2
    simp (maxSteps:=3000000) (disch:=omega) only [go_sem,↓reduceIte,reduceCtorEq];(repeat' (first|((first|refine zj ?_ ?_|refine And.intro ?_ ?_)<;>intro h<;>(try simp only [nqb] at h)<;>simp (maxSteps:=3000000) (disch:=omega) only [go_sem,↓reduceIte,reduceCtorEq,zx,zV,h])|((first|refine VCx.call (vo _) rfl ?_);simp (maxSteps:=3000000) (disch:=omega) only [go_sem,↓reduceIte,reduceCtorEq,zx,zV])))
    all_goals (clear vo;simp_all [slot,Nat.beq]<;>grind)
   refine PW.t ?_
   refine PW.e ?_
   refine PW.ret ⟨.tup [.agg [.int .i64 0,.int .i64 0,.slice [] 0 true,.slice [] 0 true,.slice [] 0 true],.int .i64 1],by simp (maxSteps:=3000000) (disch:=omega) only [go_sem,↓reduceIte,reduceCtorEq,zd,zg,List.mapM_cons,List.mapM_nil,Option.pure_def,Option.bind_eq_bind,Option.bind_some,Array.toList],?_⟩
   rw [←hr]
   exact Fin.base (fz0 _ _ _)
 rw [fldS,if_pos hc] at hr
 have hc2:=hc
 rw [Bool.and_eq_true,decide_eq_true_eq] at hc2
 obtain ⟨hm,h32⟩:=hc2
 have ga:=zjt hm h32 hsa hv1
 have gb:=zjt hm h32 hsb hv2
 simp only [zdc,Bool.and_eq_true,decide_eq_true_eq] at hm
 obtain ⟨hf,m1,m2,m3,m4⟩:=hm
 have hb:=ziC hf
 obtain ⟨A0,B0,a1,a2,b1,b2,ew,eh,_⟩:=hb
 have hmb:mx≤3∧my≤3:=by omega
 have hp:(0≤f.w∧f.w≤64)∧0≤f.h∧f.h≤64:=by omega
 have pa:=fun L=>zdi (fieldOf f sa) (16 * mx) (8 * my) va vb 8 (.inl rfl) (by omega) L
 have pb:=fun L=>zdi (fieldOf f sb) (16 * mx) (8 * my) vc vd 8 (.inl rfl) (by omega) L
 rw [ga] at pa
 rw [gb] at pb
 have w1:=fun L=>zf9 8 4 _ _ (zju (fieldOf f sa) (16 * mx) (8 * my) va vb) (zju (fieldOf f sb) (16 * mx) (8 * my) vc vd) L
 have wc:=(zlz (fieldOf f sa) (fieldOf f sb) (16 * mx) (8 * my) (16 * mx) (8 * my) va vb vc vd).c
 simp only [ztx] at w1
 have fl:∀ s,(s=0∨s=1)→∀ L,CallOk Tryz.prog 130 [.agg (fmc f),.int .i64 s] L (.tup [.agg (fmc (fieldOf f s)),.int .i64 0]) L:=fun s hs L=>by
  obtain ⟨w,ht,y,u,v⟩:=f
  obtain ⟨V,K,rfl,rfl,hok⟩:=zdJ hf h32
  obtain ⟨P,hP,rfl⟩:∃ P:Nat,P≤1∧s=(P:Int):=by
   rcases hs with e|e
   ·exact ⟨0,by omega,by omega⟩
   ·exact ⟨1,by omega,by omega⟩
  have e1:=zaN V K P y u v
  have e2:=zgY V K P y u v L hok hP
  unfold fr4 at e1 e2
  rw [e1];exact e2
 have fa:=fl sa hsa
 have fb:=fl sb hsb
 have hr1:fmc r.1=fmc (wovF (prdF (fieldOf f sa) (16 * mx) (8 * my) 8 va vb) (prdF (fieldOf f sb) (16 * mx) (8 * my) 8 vc vd)):=by rw [←hr]
 have hr2:r.2=0:=by rw [←hr]
 rw [hr1,hr2,wc]
 rw [wc] at w1
 simp only [zt5] at pa pb w1
 generalize wovF (prdF (fieldOf f sa) (16 * mx) (8 * my) 8 va vb) (prdF (fieldOf f sb) (16 * mx) (8 * my) 8 vc vd)=W at w1 ⊢
 generalize prdF (fieldOf f sa) (16 * mx) (8 * my) 8 va vb=PA at pa w1
 generalize prdF (fieldOf f sb) (16 * mx) (8 * my) 8 vc vd=PB at pb w1
 generalize fieldOf f sa=FA at fa pa
 generalize fieldOf f sb=FB at fb pb
 rw [hf] at vo
 clear hr hr1 hr2 wc ga gb fl hc hf ew eh
 obtain ⟨w,ht,y,u,v⟩:=f
 obtain ⟨aw,ah,ay,au,av⟩:=FA
 obtain ⟨bw,bh,by',bu,bv⟩:=FB
 simp only [fmc] at vo fa fb pa pb h32 m2 m4 hp ⊢
 refine CallOk.body (F0:=[(0,.agg [.int .i64 w,.int .i64 ht,.slice (bs y) y.length false,.slice (bs u) u.length false,.slice (bs v) v.length false]),(1,.int .i64 mx),(2,.int .i64 my),(3,.agg [.int .i64 va,.int .i64 vb,.int .i64 vc,.int .i64 vd]),(4,.agg [.int .i64 sa,.int .i64 sb])]) Tryz.func218 rfl Tryz.ntmps218 Tryz.results218 rfl (by kernel_rfl) rfl ?_
 refine PW.e ?_
 (repeat refine PW.seq ?_)
 refine PW.rgv (P:=Tryz.prog) [1,2,5,8,9,10,11] 49 (.bool false) ?_ ?_ ?_
 ·rfl
 ·clear fa fb pa pb w1
  simp (maxSteps:=3000000) (disch:=omega) only [go_sem,↓reduceIte,reduceCtorEq];(repeat' (first|((first|refine zj ?_ ?_|refine And.intro ?_ ?_)<;>intro h<;>(try simp only [nqb] at h)<;>simp (maxSteps:=3000000) (disch:=omega) only [go_sem,↓reduceIte,reduceCtorEq,zx,zV,h])|((first|refine VCx.call (vo _) rfl ?_);simp (maxSteps:=3000000) (disch:=omega) only [go_sem,↓reduceIte,reduceCtorEq,zx,zV])))
  all_goals (clear vo;simp_all [slot,Nat.beq]<;>grind)
 refine PW.us ?_
 refine PW.e ?_
 (repeat refine PW.seq ?_);refine PW.block (PW.loop ?_)
 refine PL.round ?_;refine PW.e ?_;refine PW.t ?_
 refine PW.skip ?_;(repeat refine PW.seq ?_);refine PW.block ?_
 refine PW.e ?_
 (repeat refine PW.seq ?_)
 refine PW.rgv (P:=Tryz.prog) [1,2,5,8,9,10,51,52] 60 (.bool false) ?_ ?_ ?_
 ·rfl
 ·clear fa fb pa pb w1 vo
  simp (maxSteps:=3000000) (disch:=omega) only [go_sem,↓reduceIte,reduceCtorEq];(repeat' ((first|refine zj ?_ ?_|refine zn ?_ ?_|refine zN ?_ ?_|refine VOh_cond ?_ ?_|refine zM ?_ ?_|refine And.intro ?_ ?_)<;>intro h<;>(try simp only [nqb] at h)<;>simp (maxSteps:=3000000) (disch:=omega) only [go_sem,↓reduceIte,reduceCtorEq,h]))
  all_goals (simp_all [slot,Nat.beq]<;>first|rfl|omega|(rw [Bool.eq_iff_iff];simp;done)|(rw [Bool.eq_iff_iff];simp;omega))
 refine PW.us ?_
 refine PW.e ?_
 refine PL.round ?_;refine PW.e ?_;refine PW.t ?_
 refine PW.skip ?_;(repeat refine PW.seq ?_);refine PW.block ?_
 refine PW.e ?_
 (repeat refine PW.seq ?_)
 refine PW.rgv (P:=Tryz.prog) [1,2,5,8,9,10,51,52] 60 (.bool false) ?_ ?_ ?_
 ·rfl
 ·clear fa fb pa pb w1 vo
  simp (maxSteps:=3000000) (disch:=omega) only [go_sem,↓reduceIte,reduceCtorEq];(repeat' ((first|refine zj ?_ ?_|refine zn ?_ ?_|refine zN ?_ ?_|refine VOh_cond ?_ ?_|refine zM ?_ ?_|refine And.intro ?_ ?_)<;>intro h<;>(try simp only [nqb] at h)<;>simp (maxSteps:=3000000) (disch:=omega) only [go_sem,↓reduceIte,reduceCtorEq,h]))
  all_goals (simp_all [slot,Nat.beq]<;>first|rfl|omega|(rw [Bool.eq_iff_iff];simp;done)|(rw [Bool.eq_iff_iff];simp;omega))
 refine PW.us ?_
 refine PW.e ?_
 refine PL.round ?_;refine PW.e ?_;refine PW.u ?_
 refine PW.exit ?_
 refine PW.e ?_
 refine PW.e ?_
 (repeat refine PW.seq ?_);refine PW.block (PW.loop ?_)
 refine PL.round ?_;refine PW.e ?_;refine PW.t ?_
 refine PW.skip ?_;(repeat refine PW.seq ?_);refine PW.block ?_
 refine PW.e ?_
 refine PW.f (fun K k=>by simp (maxSteps:=3000000) (disch:=omega) only [go_sem,↓reduceIte,reduceCtorEq];refine VCx.call (fa _) rfl ?_;simp (maxSteps:=3000000) (disch:=omega) only [go_sem,↓reduceIte,reduceCtorEq];exact k) ?_
 refine PW.e ?_
 refine PW.us ?_
 (repeat refine PW.seq ?_);refine PW.drawi [H.length+4] [(14,[0]),(91,[0])] [] [88] mix (by kernel_rfl) (by simp<;>omega) fun K hK=> ?_
 simp (maxSteps:=3000000) (disch:=omega) only [go_sem,↓reduceIte,reduceCtorEq,zaF]
 refine VCj.read (fun _ _=>pa _) rfl ?_
 simp (maxSteps:=3000000) (disch:=omega) only [go_sem,↓reduceIte,reduceCtorEq]
 refine hK _ _ ?_;clear hK K
 refine PW.e ?_
 refine PW.us ?_
 refine PW.e ?_
 refine PL.round ?_;refine PW.e ?_;refine PW.t ?_
 refine PW.skip ?_;(repeat refine PW.seq ?_);refine PW.block ?_
 refine PW.e ?_
 refine PW.f (fun K k=>by simp (maxSteps:=3000000) (disch:=omega) only [go_sem,↓reduceIte,reduceCtorEq];refine VCx.call (fb _) rfl ?_;simp (maxSteps:=3000000) (disch:=omega) only [go_sem,↓reduceIte,reduceCtorEq];exact k) ?_
 refine PW.e ?_
 refine PW.us ?_
 (repeat refine PW.seq ?_);refine PW.drawi [H.length+4] [(14,[0]),(91,[0])] [] [88] mix (by kernel_rfl) (by simp<;>omega) fun K hK=> ?_
 simp (maxSteps:=3000000) (disch:=omega) only [go_sem,↓reduceIte,reduceCtorEq,zaF]
 refine VCj.read (fun _ _=>pb _) rfl ?_
 simp (maxSteps:=3000000) (disch:=omega) only [go_sem,↓reduceIte,reduceCtorEq]
 refine hK _ _ ?_;clear hK K
 refine PW.e ?_
 refine PW.us ?_
 refine PW.e ?_
 refine PL.round ?_;refine PW.e ?_;refine PW.u ?_
 refine PW.exit ?_
 refine PW.f (fun K k=>by simp (maxSteps:=3000000) (disch:=omega) only [go_sem,↓reduceIte,reduceCtorEq];refine VCx.call (w1 _) rfl ?_;simp (maxSteps:=3000000) (disch:=omega) only [go_sem,↓reduceIte,reduceCtorEq];exact k) ?_
 refine PW.ret ⟨.tup [.agg [.int .i64 16,.int .i64 16,.slice (bs W.y) 256 false,.slice (bs W.u) 64 false,.slice (bs W.v) 64 false],.int .i64 0],by simp (maxSteps:=3000000) (disch:=omega) only [go_sem,↓reduceIte,reduceCtorEq,zd,zg,List.mapM_cons,List.mapM_nil,Option.pure_def,Option.bind_eq_bind,Option.bind_some,Array.toList],?_⟩
 exact Fin.base (.id (zQ _ _ _ _ _ _ _ _ _ _))
end Go.Proofs.YtjgmdlcjbgiekaaGreatDoor.Sc
