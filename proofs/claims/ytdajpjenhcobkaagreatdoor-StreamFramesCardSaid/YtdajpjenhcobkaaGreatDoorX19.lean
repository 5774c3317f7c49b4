/-
  Parts of the proof. No condition.
-/
import Derived.Test.YtdajpjenhcobkaaGreatDoorX18
open Bool renaming and_eq_true → qD, eq_iff_iff → qQ, true_and → jB
open Int renaming natCast_mul → qZ
open List renaming replicate → qA, take → qE, drop → qF, length_append → qG, not_mem_nil → qH, length_replicate → qI, mem_cons → qJ, length_cons → qK, append_assoc → qL, length_nil → qM, take_of_length_le → qN, drop_of_length_le → qP, nil_append → qR, mem_append → qT, replicate_append_replicate → qV, cons_append → qW, take_append_of_le_length → qX, take_replicate → jD, drop_replicate → jE
open Nat renaming beq → qO, reduceAdd → qS, add_assoc → qU
open Go.Proofs.Tryz renaming prog → qB, results156 → qY, ntmps156 → jA, func156 → jC
set_option linter.all false
set_option maxRecDepth 100000
set_option maxHeartbeats 32000000
namespace Go.Proofs.YtdajpjenhcobkaaGreatDoor.Sc
open Pm Ty Go.RowKit
theorem znT{V K P:Nat}{y u v:List UInt8}(h:Fok V K y u v)(hP:P<=1):Hok V K (fld V K P y u v):=by obtain⟨rv,rk,ly,lu,lv⟩:=h;exact⟨rfl,rfl,rv,rk,zaa y _ _ _ _ (zaj _ _ _ hP _ ly),zaa u _ _ _ _ (zaj _ _ _ hP _ lu),zaa v _ _ _ _ (zaj _ _ _ hP _ lv)⟩
theorem ze4(f:Fm)(x y vx vy:Int):Hok 8 4 (prdF f x y 8 vx vy):=⟨rfl,rfl,om,om,zaX _ _ _ _ _ _ _ _ _,zaX _ _ _ _ _ _ _ _ _,zaX _ _ _ _ _ _ _ _ _⟩
theorem zqC(f:Fm)(x y vx vy:Int):fmc (prdF f x y 8 vx vy)=[.int .i64 16,.int .i64 8,.slice (bs (prdF f x y 8 vx vy).y) 128 false,.slice (bs (prdF f x y 8 vx vy).u) 32 false,.slice (bs (prdF f x y 8 vx vy).v) 32 false]:=zmf f x y 8 vx vy
theorem F16.c{f:Fm}(h:F16 f):fmc f=[.int .i64 16,.int .i64 16,.slice (bs f.y) 256 false,.slice (bs f.u) 64 false,.slice (bs f.v) 64 false]:=by unfold fmc;rw[h.w,h.h,h.ly,h.lu,h.lv]
theorem ze3{f:Fm}{mx my va vb s:Int}(hm:zbL f mx my=true)(h32:f.h%32=0)(hs:s=0\/s=1)(hv:vrg va vb=true):zdW (fieldOf f s) (16 * mx) (8 * my) 8 va vb=(prdF (fieldOf f s) (16 * mx) (8 * my) 8 va vb,0):=by
 simp only[zbL,qD,decide_eq_true_eq]at hm;obtain⟨hf,m1,m2,m3,m4⟩:=hm;obtain⟨w,ht,y,u,v⟩:=f;simp only at h32 m2 m4;obtain⟨V,K,rfl,rfl,hok⟩:=zcK hf h32;obtain⟨P,hP,rfl⟩:∃ P:Nat,P<=1/\s=(P:Int):=by
  rcases hs with e|e
  .exact⟨0,om,om⟩
  .exact⟨1,om,om⟩
 have e1:=zat V K P y u v;unfold fr4 at e1;rw[e1];have h1:=(znT hok hP).fmd;have h2:zcS (fld V K P y u v) (16 * mx) (8 * my) ((8:Nat):Int)=true:=by have w1:(fld V K P y u v).w=((2 * V:Nat):Int):=rfl;have w2:(fld V K P y u v).h=((2 * K:Nat):Int):=rfl;simp_all[zcS,qD];omega
 simp_all[zdW]
theorem ziD(n:Int)(H:za):CallOk qB 158 [.int .i64 n] H (.int .i64 (16 * min (max n (-1)) 128)) H:=by refine .go Tryz.func158 Tryz.ntmps158 Tryz.results158 ?_;refine .e ?_;have cl:(if 128<(if n< -1 then -1 else n)then 128 else(if n< -1 then -1 else n))=min (max n (-1)) 128:=om;refine .g cl ?_;(refine .ret ⟨_,rfl,?_⟩;refine .inl ⟨?_,rfl⟩);rfl
theorem zxT(b:Bool):zdo qB 109 [(0,.int .i64 2),(1,.agg [.bool true,.bool b])]=some (.agg (mbc ⟨2,true,b,false,false,0,0,0,0,0,0,0,0,0,0,0,0,0,false,false,false,false,false,false,zl384⟩)):=by cases b<;>kernel_rfl
attribute [go_sem high] zxT
theorem zup:zaz qB 109=some zmv:=kr
theorem zdc:zl384.length=384:=qI
theorem zpp:zmv.length=408:=zbs zMb zdc
theorem zbJ(m:Mb):(mbc m).all PV.cell=true:=by simp_all[zt,mbc,PV.cell]
theorem zoi:zmv.all PV.cell=true:=zbJ zMb
theorem zgS(k:Nat)(m:Mb):∀ x∈mbc m,Scoped k x:=λx hx=>by simp only[mbc,qJ]at hx;rcases hx with rfl|rfl|rfl|rfl|rfl|rfl|rfl|rfl|rfl|rfl|rfl|rfl|rfl|rfl|rfl|rfl|rfl|rfl|rfl|rfl|rfl|rfl|rfl|rfl|hx;all_goals first|exact .int _ _|exact .bool _|exact zZ _ _ _ hx
theorem zpV(c:Cx)(H:za):CallOk qB 87 [.agg (cxc c)] H (.agg (mbc (stl c))) H:=by
 have fo:=λL=>zmP c L;have po:=λL=>zmr c L;obtain⟨t,s,ii,nn⟩:=c;simp only[cxc]at fo po |-;refine .body (F0:=[(0,.agg [.int .i64 t,.int .i64 s,.bool ii,.bool nn])]) Tryz.func87 rfl Tryz.ntmps87 Tryz.results87 rfl kr rfl ?_;have zl:=zpp;have zc:=zoi;have ml:=λb=>zbs ⟨2,true,b,false,false,0,0,0,0,0,0,0,0,0,0,0,0,0,false,false,false,false,false,false,zl384⟩ zdc;have mc:=λb=>zbJ ⟨2,true,b,false,false,0,0,0,0,0,0,0,0,0,0,0,0,0,false,false,false,false,false,false,zl384⟩;have dl1:(qF 1 zmv).length=407:=by rfl
 have em:∀ b,PV.int .i64 2::PV.bool true::PV.bool b::qF (1+1) (qF 1 zmv)=mbc ⟨2,true,b,false,false,0,0,0,0,0,0,0,0,0,0,0,0,0,false,false,false,false,false,false,zl384⟩:=λb=>rfl;have dz:qF 408 zmv=[]:=qP om;refine .f (λK k=>by simp(maxSteps:=3000000) (disch:=omega) only[go_sem,↓zup];exact k) ?_;refine .f (λK k=>by simp(maxSteps:=3000000) (disch:=omega) only[go_sem,↓zup,zl,ml,mc,dz,dl1,em,qS,Nat.reduceLeDiff];exact k) ?_;obtain⟨B,hB⟩:∃ B,(t==3)=B:=⟨_,rfl⟩;rw[hB];have hs:stl ⟨t,s,ii,nn⟩=⟨2,true,B,false,false,0,0,0,0,0,0,0,0,pcx ⟨t,s,ii,nn⟩,0,if B=true then pcx ⟨t,s,ii,nn⟩else 0,0,0,false,false,false,false,false,false,zl384⟩:=by grind[stl]
 rw[hs];clear hs hB;refine .k fo ?_;refine .c (λh=> ?_) (λh=> ?_);rotate_left
 .have hf:pcx ⟨t,s,ii,nn⟩=0:=by
   have h':fcx ⟨t,s,ii,nn⟩=false:=h;unfold fcx at h';have h3:s=3:=by simp_all
   show(if s=2 then(1:Int)else 0)=0;omega
  rw[hf];simp only[ite_self];refine .skip ?_;have tk:=λb=>(qN (by rw[ml b];exact Nat.le_refl _):qE 408 (mbc ⟨2,true,b,false,false,0,0,0,0,0,0,0,0,0,0,0,0,0,false,false,false,false,false,false,zl384⟩)=_);refine .g (nq2 ml (nq2 mc (nq2 zl (nq2 dz tk)))) ?_;refine .w (.agg (mbc ⟨2,true,B,false,false,0,0,0,0,0,0,0,0,0,0,0,0,0,false,false,false,false,false,false,zl384⟩)) (nq2 ml tk) ?_;exact .base (.id (zq (zgS _ _)))
 generalize pcx ⟨t,s,ii,nn⟩=p at *;have ml2:=λb p q=>zbs ⟨2,true,b,false,false,0,0,0,0,0,0,0,0,p,0,q,0,0,false,false,false,false,false,false,zl384⟩ zdc;have mc2:=λb p q=>zbJ ⟨2,true,b,false,false,0,0,0,0,0,0,0,0,p,0,q,0,0,false,false,false,false,false,false,zl384⟩;have s1:∀ b p q x,(mbc ⟨2,true,b,false,false,0,0,0,0,0,0,0,0,p,0,q,0,0,false,false,false,false,false,false,zl384⟩).set 13 (.int .i64 x)=mbc ⟨2,true,b,false,false,0,0,0,0,0,0,0,0,x,0,q,0,0,false,false,false,false,false,false,zl384⟩:=λ_ _ _ _=>rfl;have s2:∀ b p q x,(mbc ⟨2,true,b,false,false,0,0,0,0,0,0,0,0,p,0,q,0,0,false,false,false,false,false,false,zl384⟩).set 15 (.int .i64 x)=mbc ⟨2,true,b,false,false,0,0,0,0,0,0,0,0,p,0,x,0,0,false,false,false,false,false,false,zl384⟩:=λ_ _ _ _=>rfl;have tk:=λb p q=>(qN (by rw[ml2 b p q];exact Nat.le_refl _):qE 408 (mbc ⟨2,true,b,false,false,0,0,0,0,0,0,0,0,p,0,q,0,0,false,false,false,false,false,false,zl384⟩)=_);have t2:∀ b p q,qE 2 (qF 1 (mbc ⟨2,true,b,false,false,0,0,0,0,0,0,0,0,p,0,q,0,0,false,false,false,false,false,false,zl384⟩))=[.bool true,.bool b]:=λ_ _ _=>rfl;refine .g (nq2 ml2 t2) ?_;refine .l ?_;refine .round ?_;refine .e ?_;refine .t ?_;refine .skip ?_;refine .b ?_;refine .e ?_;refine .e ?_;refine .t ?_;(repeat refine .seq ?_);refine .drawi [H.length+2] [(3,[0]),(23,[0]),(24,[0]),(25,[0])] [] [22] mix kr (by simp<;>omega) λK hK=> ?_;simp(maxSteps:=3000000) (disch:=omega) only[go_sem,zD,ml2];refine VCj.read (λ_ _=>po _) rfl ?_;refine sqx (nq2 ml2 s1) ?_;refine hK _ _ ?_;clear hK K;refine .e ?_;refine .round ?_;refine .e ?_;refine .t ?_;refine .skip ?_;refine .b ?_;refine .e ?_;cases B
 .refine .e ?_;refine .us ?_;refine .e ?_;refine .round ?_;refine .e ?_;refine .u ?_;refine .exit ?_;refine .g (nq2 ml2 (nq2 mc2 (nq2 zl (nq2 dz tk)))) ?_;refine .w (.agg (mbc ⟨2,true,false,false,false,0,0,0,0,0,0,0,0,p,0,0,0,0,false,false,false,false,false,false,zl384⟩)) (nq2 ml2 tk) ?_;exact .base (.id (zq (zgS _ _)))
 .refine .e ?_;refine .t ?_;(repeat refine .seq ?_);refine .drawi [H.length+2] [(3,[0]),(23,[0]),(24,[0]),(25,[0])] [] [22] mix kr (by simp<;>omega) λK hK=> ?_;simp(maxSteps:=3000000) (disch:=omega) only[go_sem,zD,ml2];refine VCj.read (λ_ _=>po _) rfl ?_;refine sqx (nq2 ml2 s2) ?_;refine hK _ _ ?_;clear hK K;refine .e ?_;refine .round ?_;refine .e ?_;refine .u ?_;refine .exit ?_;refine .g (nq2 ml2 (nq2 mc2 (nq2 zl (nq2 dz tk)))) ?_;refine .w (.agg (mbc ⟨2,true,true,false,false,0,0,0,0,0,0,0,0,p,0,p,0,0,false,false,false,false,false,false,zl384⟩)) (nq2 ml2 tk) ?_;exact .base (.id (zq (zgS _ _)))
theorem zo7(f:Fm)(mx my va vb vc vd sa sb:Int)(hsa:sa=0\/sa=1)(hsb:sb=0\/sb=1)(hv1:vrg va vb=true)(hv2:vrg vc vd=true)(H:za):
  CallOk qB 156 [.agg (fmc f),.int .i64 mx,.int .i64 my,.agg [.int .i64 va,.int .i64 vb,.int .i64 vc,.int .i64 vd],.agg [.int .i64 sa,.int .i64 sb]] H (.tup [.agg (fmc (fldS f mx my va vb vc vd sa sb).1),.int .i64 (fldS f mx my va vb vc vd sa sb).2]) H:=by
 have vo:=λL=>zhf f L;generalize hr:fldS f mx my va vb vc vd sa sb=r;by_cases hc:(zbL f mx my&&decide (f.h%32=0))=true;case neg=>
  have hc':(zbL f mx my&&decide (f.h%32=0))=false:=by simp_all
  rw[fldS,if_neg hc]at hr;obtain⟨w,ht,y,u,v⟩:=f;simp only at hc';cases hf:fvd ⟨w,ht,y,u,v⟩
  .rw[hf]at vo;simp only[fmc]at vo |-;refine .body (F0:=[(0,.agg [.int .i64 w,.int .i64 ht,.slice (bs y) y.length false,.slice (bs u) u.length false,.slice (bs v) v.length false]),(1,.int .i64 mx),(2,.int .i64 my),(3,.agg [.int .i64 va,.int .i64 vb,.int .i64 vc,.int .i64 vd]),(4,.agg [.int .i64 sa,.int .i64 sb])]) jC rfl jA qY rfl kr rfl ?_;refine .e ?_;(repeat refine .seq ?_);refine .rgv (P:=qB) [10,11] 49 (.bool true) ?_ ?_ ?_
   .rfl
   .simp(maxSteps:=3000000) (disch:=omega) only[go_sem];(repeat'(((refine VCx.call (vo _) rfl ?_);simp(maxSteps:=3000000) (disch:=omega) only[go_sem])));all_goals(simp_all[slot,qO])
   refine .t ?_;refine .e ?_;refine .v (.tup [.agg [.int .i64 0,.int .i64 0,.slice [] 0 true,.slice [] 0 true,.slice [] 0 true],.int .i64 1]) ?_;rw[<-hr];exact .base (fz0 _ _ _)
  .have hp:(0<=w/\w<=64)/\0<=ht/\ht<=64:=by unfold fvd fmd at hf;simp only[qD]at hf;have:=zbc hf.1.1;omega
   rw[hf]at vo;unfold zbL at hc';rw[hf,jB]at hc';simp only[fmc]at vo hc' |-;clear hf hc;refine .body (F0:=[(0,.agg [.int .i64 w,.int .i64 ht,.slice (bs y) y.length false,.slice (bs u) u.length false,.slice (bs v) v.length false]),(1,.int .i64 mx),(2,.int .i64 my),(3,.agg [.int .i64 va,.int .i64 vb,.int .i64 vc,.int .i64 vd]),(4,.agg [.int .i64 sa,.int .i64 sb])]) jC rfl jA qY rfl kr rfl ?_;refine .e ?_;(repeat refine .seq ?_);refine .rgv (P:=qB) [10,11] 49 (.bool true) ?_ ?_ ?_
   .rfl
   .clear hr hv1 hv2;simp(maxSteps:=3000000) (disch:=omega) only[go_sem];(repeat'(first|((refine zg ?_ ?_)<;>intro h<;>(try simp only[nqb]at h)<;>simp(maxSteps:=3000000) (disch:=omega) only[go_sem,zE,zad,h])|((refine VCx.call (vo _) rfl ?_);simp(maxSteps:=3000000) (disch:=omega) only[go_sem,zE,zad])));simp_all
   refine .t ?_;refine .e ?_;refine .v (.tup [.agg [.int .i64 0,.int .i64 0,.slice [] 0 true,.slice [] 0 true,.slice [] 0 true],.int .i64 1]) ?_;rw[<-hr];exact .base (fz0 _ _ _)
 rw[fldS,if_pos hc]at hr;have hc2:=hc;rw[qD,decide_eq_true_eq]at hc2;obtain⟨hm,h32⟩:=hc2;have ga:=ze3 hm h32 hsa hv1;have gb:=ze3 hm h32 hsb hv2;simp only[zbL,qD,decide_eq_true_eq]at hm;obtain⟨hf,m1,m2,m3,m4⟩:=hm;have hb:=zfo hf;obtain⟨A0,B0,a1,a2,b1,b2,ew,eh,_⟩:=hb;have hmb:mx<=3/\my<=3:=om;have hp:(0<=f.w/\f.w<=64)/\0<=f.h/\f.h<=64:=om;have pa:=λL=>zdV (fieldOf f sa) (16 * mx) (8 * my) va vb 8 (.inl rfl) om L;have pb:=λL=>zdV (fieldOf f sb) (16 * mx) (8 * my) vc vd 8 (.inl rfl) om L;rw[ga]at pa;rw[gb]at pb;have w1:=λL=>zhd 8 4 _ _ (ze4 (fieldOf f sa) (16 * mx) (8 * my) va vb) (ze4 (fieldOf f sb) (16 * mx) (8 * my) vc vd) L;have wc:=(zi7 (fieldOf f sa) (fieldOf f sb) (16 * mx) (8 * my) (16 * mx) (8 * my) va vb vc vd).c;simp only[zpt]at w1;have fl:∀ s,(s=0\/s=1)->∀ L,CallOk qB 76 [.agg (fmc f),.int .i64 s] L (.tup [.agg (fmc (fieldOf f s)),.int .i64 0]) L:=λs hs L=>by
  obtain⟨w,ht,y,u,v⟩:=f;obtain⟨V,K,rfl,rfl,hok⟩:=zcK hf h32;obtain⟨P,hP,rfl⟩:∃ P:Nat,P<=1/\s=(P:Int):=by
   rcases hs with e|e
   .grind
   .exact⟨1,om,om⟩
  have e1:=zat V K P y u v;grind[zh4,fr4]
 have fa:=fl sa hsa;have fb:=fl sb hsb;have hr1:fmc r.1=fmc (wovF (prdF (fieldOf f sa) (16 * mx) (8 * my) 8 va vb) (prdF (fieldOf f sb) (16 * mx) (8 * my) 8 vc vd)):=by rw[<-hr]
 have hr2:r.2=0:=by rw[<-hr]
 rw[hr1,hr2,wc];rw[wc]at w1;simp only[zqC]at pa pb w1;generalize wovF (prdF (fieldOf f sa) (16 * mx) (8 * my) 8 va vb) (prdF (fieldOf f sb) (16 * mx) (8 * my) 8 vc vd)=W at w1 |-;generalize prdF (fieldOf f sa) (16 * mx) (8 * my) 8 va vb=PA at pa w1;generalize prdF (fieldOf f sb) (16 * mx) (8 * my) 8 vc vd=PB at pb w1;generalize fieldOf f sa=FA at fa pa;generalize fieldOf f sb=FB at fb pb;rw[hf]at vo;clear hr hr1 hr2 wc ga gb fl hc hf ew eh;obtain⟨w,ht,y,u,v⟩:=f;obtain⟨aw,ah,ay,au,av⟩:=FA;obtain⟨bw,bh,by',bu,bv⟩:=FB;simp only[fmc]at vo fa fb pa pb h32 m2 m4 hp |-;refine .body (F0:=[(0,.agg [.int .i64 w,.int .i64 ht,.slice (bs y) y.length false,.slice (bs u) u.length false,.slice (bs v) v.length false]),(1,.int .i64 mx),(2,.int .i64 my),(3,.agg [.int .i64 va,.int .i64 vb,.int .i64 vc,.int .i64 vd]),(4,.agg [.int .i64 sa,.int .i64 sb])]) jC rfl jA qY rfl kr rfl ?_;refine .e ?_;(repeat refine .seq ?_);refine .rgv (P:=qB) [1,2,5,8,9,10,11] 49 (.bool false) ?_ ?_ ?_
 .rfl
 .clear fa fb pa pb w1;simp(maxSteps:=3000000) (disch:=omega) only[go_sem];(repeat'(first|((refine zg ?_ ?_)<;>intro h<;>(try simp only[nqb]at h)<;>simp(maxSteps:=3000000) (disch:=omega) only[go_sem,zE,zad,h])|((refine VCx.call (vo _) rfl ?_);simp(maxSteps:=3000000) (disch:=omega) only[go_sem,zE,zad])));all_goals(clear vo;simp_all[slot,qO]<;>grind)
 refine .us ?_;refine .e ?_;refine .l ?_;refine .round ?_;refine .e ?_;refine .t ?_;refine .skip ?_;refine .b ?_;refine .e ?_;(repeat refine .seq ?_);refine .rgv (P:=qB) [1,2,5,8,9,10,51,52] 60 (.bool false) ?_ ?_ ?_
 .rfl
 .clear fa fb pa pb w1 vo;simp(maxSteps:=3000000) (disch:=omega) only[go_sem];(repeat'((refine zg ?_ ?_)<;>intro h<;>(try simp only[nqb]at h)<;>simp(maxSteps:=3000000) (disch:=omega) only[go_sem,h]));all_goals(simp_all[slot,qO])
 refine .us ?_;refine .e ?_;refine .round ?_;refine .e ?_;refine .t ?_;refine .skip ?_;refine .b ?_;refine .e ?_;(repeat refine .seq ?_);refine .rgv (P:=qB) [1,2,5,8,9,10,51,52] 60 (.bool false) ?_ ?_ ?_
 .rfl
 .clear fa fb pa pb w1 vo;simp(maxSteps:=3000000) (disch:=omega) only[go_sem];(repeat'((refine zg ?_ ?_)<;>intro h<;>(try simp only[nqb]at h)<;>simp(maxSteps:=3000000) (disch:=omega) only[go_sem,h]));all_goals(simp_all[slot,qO])
 refine .us ?_;refine .e ?_;refine .round ?_;refine .e ?_;refine .u ?_;refine .exit ?_;refine .e ?_;refine .e ?_;refine .l ?_;refine .round ?_;refine .e ?_;refine .t ?_;refine .skip ?_;refine .b ?_;refine .e ?_;refine .k fa ?_;refine .e ?_;refine .us ?_;(repeat refine .seq ?_);refine .drawi [H.length+4] [(14,[0]),(91,[0])] [] [88] mix kr (by simp<;>omega) λK hK=> ?_;simp(maxSteps:=3000000) (disch:=omega) only[go_sem,zD];refine VCj.read (λ_ _=>pa _) rfl ?_;refine sqz ?_;refine hK _ _ ?_;clear hK K;refine .e ?_;refine .us ?_;refine .e ?_;refine .round ?_;refine .e ?_;refine .t ?_;refine .skip ?_;refine .b ?_;refine .e ?_;refine .k fb ?_;refine .e ?_;refine .us ?_;(repeat refine .seq ?_);refine .drawi [H.length+4] [(14,[0]),(91,[0])] [] [88] mix kr (by simp<;>omega) λK hK=> ?_;simp(maxSteps:=3000000) (disch:=omega) only[go_sem,zD];refine VCj.read (λ_ _=>pb _) rfl ?_;refine sqz ?_;refine hK _ _ ?_;clear hK K;refine .e ?_;refine .us ?_;refine .e ?_;refine .round ?_;refine .e ?_;refine .u ?_;refine .exit ?_;refine .k w1 ?_;refine .v (.tup [.agg [.int .i64 16,.int .i64 16,.slice (bs W.y) 256 false,.slice (bs W.u) 64 false,.slice (bs W.v) 64 false],.int .i64 0]) ?_;exact .base (.id (zC _ _ _ _ _ _ _ _ _ _))
def v1(m:Mb)(d:Nat):Int:=if d=0 then m.va else m.ve
def v2(m:Mb)(d:Nat):Int:=if d=0 then m.vb else m.vf
def v3(m:Mb)(d:Nat):Int:=if d=0 then m.vc else m.vg
def v4(m:Mb)(d:Nat):Int:=if d=0 then m.vd else m.vh
def s1(m:Mb)(d:Nat):Int:=if d=0 then m.sa else m.sc
def s2(m:Mb)(d:Nat):Int:=if d=0 then m.sb else m.sd
def us(m:Mb)(d:Nat):Bool:=if d=0 then m.ua else m.ub
def zcE(c:Cx)(m:Mb)(pa fu fi:Fm)(d:Nat)(mx my:Int):Fm×Int:=dirP c m.fp (v1 m d) (v2 m d) (v3 m d) (v4 m d) (s1 m d) (s2 m d) pa fu fi (d:Int) mx my
def zmS(m:Mb)(d:Nat):Nat:=(if 0<d/\m.ua=true then 1 else 0)+(if 1<d/\m.ub=true then 1 else 0)
def zt1:List Fm->Fm
 | []=>f0
 | [a]=>a
 | a::b::_=>mnF a b
def goP(c:Cx)(m:Mb)(pa fu fi:Fm)(mx my:Int):Nat->List Fm->Fm×Int
 | 0,l=>(zt1 l,0)
 | n+1,l=>if us m (1 - n)=true then(if(zcE c m pa fu fi (1 - n) mx my).2≠0 then(f0,(zcE c m pa fu fi (1 - n) mx my).2)else goP c m pa fu fi mx my n (l++[(zcE c m pa fu fi (1 - n) mx my).1]))else goP c m pa fu fi mx my n l
theorem zly{c:Cx}{fp:Bool}{va vb vc vd sa sb:Int}{pa fu fi:Fm}{d mx my:Int}(h:(dirP c fp va vb vc vd sa sb pa fu fi d mx my).2≠0):(dirP c fp va vb vc vd sa sb pa fu fi d mx my).1=f0:=by
 unfold dirP at h |-;by_cases h1:(refS c pa fu fi d sa).2≠0
 .rw[if_pos h1]
 .rw[if_neg h1]at h |-;generalize (refS c pa fu fi d sa).1=g at h |-;cases fp
  .rw[if_neg sp]at h |-;unfold prdS at h |-;split at h
   .rename_i a;rw[if_pos a];split at h
    .exact absurd rfl h
    .rename_i b;rw[if_neg b]
   .rename_i a;rw[if_neg a]
  .rw[if_pos rfl]at h |-;unfold fldS at h |-;split at h
   .exact absurd rfl h
   .rename_i a;rw[if_neg a]
theorem ztP(c:Cx)(m:Mb)(pa fu fi:Fm)(mx my:Int)(h:m.ua=true\/m.ub=true):goP c m pa fu fi mx my 2 []=prS c m pa fu fi mx my:=by
 have d0:zcE c m pa fu fi 0 mx my=zgy c m pa fu fi mx my:=rfl;have d1:zcE c m pa fu fi 1 mx my=zeS c m pa fu fi mx my:=rfl;have u0:us m 0=m.ua:=rfl;have u1:us m 1=m.ub:=rfl;have e0:1 - 1=0:=rfl;have e1:1 - 0=1:=rfl;unfold prS;rw[goP,e0,u0,d0];generalize zgy c m pa fu fi mx my=r0;cases ha:m.ua
 .rw[if_neg sp,if_neg sp,goP,e1,u1,d1];have hbad:(zeS c m pa fu fi mx my).2≠0->(zeS c m pa fu fi mx my).1=f0:=zly;generalize zeS c m pa fu fi mx my=r1 at hbad |-;rw[ha]at h;have hb:m.ub=true:=by simpa using h
  rw[hb,if_pos rfl];obtain⟨g,e⟩:=r1;by_cases he:e=0
  .subst he;simp[goP,zt1]
  .rw[if_pos (by exact he)];exact Prod.ext (hbad he).symm rfl
 .rw[if_pos rfl,if_pos rfl];by_cases he:r0.2=0
  .rw[if_neg (by simp[he]),if_neg (by simp[he]),goP,e1,u1,d1];generalize zeS c m pa fu fi mx my=r1;cases hb:m.ub
   .rw[if_neg sp,if_neg sp];obtain⟨g,e⟩:=r0;simp only at he;subst he;rfl
   .rw[if_pos rfl,if_pos rfl];by_cases he1:r1.2=0
    .rw[if_neg (by simp[he1]),if_neg (by simp[he1])];rfl
    .rw[if_pos he1,if_pos he1]
  .rw[if_pos he,if_pos he]
structure PrOk(m:Mb):Prop where
 u:m.ua=true\/m.ub=true
 f:∀ d,us m d=true->m.fp=true->(s1 m d=0\/s1 m d=1)/\(s2 m d=0\/s2 m d=1)/\vrg (v1 m d) (v2 m d)=true/\vrg (v3 m d) (v4 m d)=true
theorem zvP(f:Fm)(mx my vx vy:Int):zdW f (16 * min (max mx (-1)) 128) (16 * min (max my (-1)) 128) 16 vx vy=prdS f mx my vx vy:=by
 unfold zdW prdS;by_cases hf:fmd f=true
 .have hb:f.w<=64/\f.h<=64:=by unfold fmd at hf;rw[qD]at hf;have:=zbc hf.1;omega
  by_cases hc:0<=mx/\16 * mx+16<=f.w/\0<=my/\16 * my+16<=f.h
  .have e1:min (max mx (-1)) 128=mx:=om;have e2:min (max my (-1)) 128=my:=om;have h1:zcS f (16 * mx) (16 * my) ((16:Nat):Int)=true:=by simp only[zcS,qD,decide_eq_true_eq];omega
   have h2:(fmd f&&(decide (0<=mx)&&(decide (16 * mx+16<=f.w)&&(decide (0<=my)&&decide (16 * my+16<=f.h)))))=true:=by simp only[hf,jB,qD,decide_eq_true_eq];exact hc
   rw[e1,e2,if_pos h2,hf,h1,if_pos (by rfl)]
  .have h1:zcS f (16 * min (max mx (-1)) 128) (16 * min (max my (-1)) 128) ((16:Nat):Int)=false:=by rw[Bool.eq_false_iff];intro h;simp only[zcS,qD,decide_eq_true_eq]at h;obtain⟨q1,q2,q3,q4,q5,q6⟩:=h;have hx:min (max mx (-1)) 128=mx\/min (max mx (-1)) 128= -1\/min (max mx (-1)) 128=128:=om;have hy:min (max my (-1)) 128=my\/min (max my (-1)) 128= -1\/min (max my (-1)) 128=128:=om;apply hc;generalize min (max mx (-1)) 128=X at *;generalize min (max my (-1)) 128=Y at *;rcases hx with rfl|rfl|rfl<;>rcases hy with rfl|rfl|rfl<;>omega
   have h2:¬(fmd f&&(decide (0<=mx)&&(decide (16 * mx+16<=f.w)&&(decide (0<=my)&&decide (16 * my+16<=f.h)))))=true:=by simp only[qD,decide_eq_true_eq];omega
   rw[h1,Bool.and_false,if_neg sp,if_neg h2]
 .have hf':fmd f=false:=by simpa using hf
  rw[hf',Bool.false_and,Bool.false_and];rfl
theorem zxI(l:List Fm):(l.flatMap fmc).length=l.length * 5:=zaH fmc 5 l λx _=>rfl
theorem zkZ(c:Cx)(m:Mb)(i:Nat)(pa fu fi:Fm)(mx my:Int)(H:za)(hi:H[i]? =some (mB m))(hml:m.lv.length=384)(hp:PrOk m):
  CallOk qB 88 [.agg (cxc c),.ptr i 0 0,.agg (fmc pa++(fmc fu++fmc fi)),.int .i64 mx,.int .i64 my] H (.tup [.agg (fmc (prS c m pa fu fi mx my).1),.int .i64 (prS c m pa fu fi mx my).2]) H:=by
 have hil:=(List.getElem?_eq_some_iff.1 hi).1;have hx:=λK=>zay (K:=K) hi;have e4:=zbs m hml;have eu:qE 2 (qF 1 (mbc m))=[.bool m.ua,.bool m.ub]:=rfl;have efp:(mbc m)[3]? =some (.bool m.fp):=rfl;have es:∀ d,d<2->(mbc m)[13+d * 2]? =some (.int .i64 (s1 m d)):=λd hd=>by have:d=0\/d=1:=om;rcases this with rfl|rfl<;>rfl
 have ess:∀ d,d<2->qE 2 (qF (13+d * 2) (mbc m))=[.int .i64 (s1 m d),.int .i64 (s2 m d)]:=λd hd=>by have:d=0\/d=1:=om;rcases this with rfl|rfl<;>rfl
 have ev4:∀ d,d<2->qE 4 (qF (5+d * 4) (mbc m))=[.int .i64 (v1 m d),.int .i64 (v2 m d),.int .i64 (v3 m d),.int .i64 (v4 m d)]:=λd hd=>by have:d=0\/d=1:=om;rcases this with rfl|rfl<;>rfl
 have ev2:∀ d,d<2->qE 2 (qF (5+d * 4) (mbc m))=[.int .i64 (v1 m d),.int .i64 (v2 m d)]:=λd hd=>by have:d=0\/d=1:=om;rcases this with rfl|rfl<;>rfl
 have cl:(cxc c).length=4:=rfl;have cc:(cxc c).all PV.cell=true:=rfl;have ct4:qE 4 (cxc c)=cxc c:=rfl;have rl:(fmc pa++(fmc fu++fmc fi)).length=15:=rfl;have rc:(fmc pa++(fmc fu++fmc fi)).all PV.cell=true:=rfl;have rt:qE 15 (fmc pa++(fmc fu++fmc fi))=fmc pa++(fmc fu++fmc fi):=rfl;have hgo:=ztP c m pa fu fi mx my hp.u;generalize prS c m pa fu fi mx my=r at hgo |-;refine .go Tryz.func88 Tryz.ntmps88 Tryz.results88 ?_;refine .g (nq2 cc rc) ?_;refine .e ?_;refine .f (λK k=>by simp(maxSteps:=3000000) (disch:=omega) only[go_sem,hi,hx,mB,eu,e4];exact k) ?_;(repeat refine .seq ?_);refine .view (Vs.ghost 12 30 5 rfl) ?_;refine .l ?_;suffices hloop:∀(n d:Nat) (l:List Fm),d+n=2->(∀ g∈l,F16 g)->l.length=zmS m d->goP c m pa fu fi mx my n l=r->PL qB _ _ [(1,.ptr i 0 0),(3,.int .i64 mx),(4,.int .i64 my),(5,.ptr H.length 0 0),(7,.ptr (H.length+1) 0 0),(10,.ptr (H.length+2) 0 0),(12,.msl (H.length+3) (l.length * 5) 0 l.length 5 true),(21,.agg [.bool m.ua,.bool m.ub]),(22,.int .i64 (d:Int))] (H++[⟨112,0,cxc c⟩,⟨58,0,fmc pa++(fmc fu++fmc fi)⟩,⟨30,0,[.int .i64 0,.int .i64 0,.slice [] 0 true,.slice [] 0 true,.slice [] 0 true]⟩,⟨30,l.length * 5,l.flatMap fmc⟩]) _ by exact .at [1,3,4,5,7,10,12,21,22] (hloop 2 0 [] rfl (λg hg=>by cases hg) rfl hgo) (by simp[kp,slot,qO]) sp
 intro n;induction n with
 | zero=>
  intro d l hd hl hlen hr;have hd2:d=2:=om;subst hd2;have hr1:r=(zt1 l,0):=hr.symm;subst hr1;refine .round ?_;refine .e ?_;refine .u ?_;refine .exit ?_;have hn:l.length=1\/l.length=2:=by
   have e2:zmS m 2=(if m.ua=true then 1 else 0)+(if m.ub=true then 1 else 0):=by simp[zmS]
   rw[hlen,e2];rcases hp.u with e|e<;>rw[e]
   .cases m.ub<;>simp
   .cases m.ua<;>simp
  rcases hn with h1|h1
  .obtain⟨a,rfl⟩:∃ a,l=[a]:=by
    match l,h1 with
    | [a],_=>exact⟨a,rfl⟩
   have ga:=(hl a sp).c;have gt:qE 5 ([a].flatMap fmc)=fmc a:=rfl;have gl:([a].flatMap fmc).length=5:=rfl;have g5:(fmc a).all PV.cell=true:=rfl;have g7:(fmc a).length=5:=rfl;have g8:qE 5 (fmc a)=fmc a:=rfl;have g9:qF 5 [PV.int .i64 0,PV.int .i64 0,PV.slice [] 0 true,PV.slice [] 0 true,PV.slice [] 0 true]=[]:=rfl;refine .e ?_;refine .t ?_;refine .g (nq2 gt (nq2 gl (nq2 g5 (nq2 g7 (nq2 g8 g9))))) ?_;refine .w (.tup [.agg (fmc a),.int .i64 0]) (nq2 g7 g8) ?_;exact .base (.id (zC _ _ _ _ _ _ _ _ _ _))
  .obtain⟨a,b,rfl⟩:∃ a b,l=[a,b]:=by
    match l,h1 with
    | [a,b],_=>exact⟨a,b,rfl⟩
   have av:=λL=>zm0 a b (hl a sp) (hl b sp) L;have gt:qE 5 ([a,b].flatMap fmc)=fmc a:=rfl;have gt2:qE 5 (qF 5 ([a,b].flatMap fmc))=fmc b:=rfl;have gl:([a,b].flatMap fmc).length=10:=rfl;obtain⟨g,hg⟩:∃ g,mnF a b=g:=⟨_,rfl⟩;rw[hg]at av;have hfg:zt1 [a,b]=g:=hg;rw[hfg];have g5:(fmc g).all PV.cell=true:=rfl;have g7:(fmc g).length=5:=rfl;have g8:qE 5 (fmc g)=fmc g:=rfl;have g9:qF 5 [PV.int .i64 0,PV.int .i64 0,PV.slice [] 0 true,PV.slice [] 0 true,PV.slice [] 0 true]=[]:=rfl;refine .e ?_;refine .us ?_;(repeat refine .seq ?_);refine .drawi [H.length+2] [(10,[0])] [] [106] mix kr (by simp<;>omega) λK hK=> ?_;simp(maxSteps:=3000000) (disch:=omega) only[go_sem,zD,gt,gt2,gl];refine VCj.read (λ_ _=>av _) rfl ?_;refine sqx (nq2 g5 (nq2 g7 (nq2 g8 g9))) ?_;refine hK _ _ ?_;clear hK K;refine .w (.tup [.agg (fmc g),.int .i64 0]) (nq2 g7 g8) ?_;exact .base (.id (zC _ _ _ _ _ _ _ _ _ _))
 | succ n ih=>
  intro d l hd hl hlen hr;have hd2:d<2:=om;have hdn:1 - n=d:=om;rw[goP,hdn]at hr;have ct:decide ((d:Int)<2)=true:=decide_eq_true om;have eus:[PV.bool m.ua,PV.bool m.ub][d]? =some (.bool (us m d)):=by have:d=0\/d=1:=om;rcases this with rfl|rfl<;>rfl
  have hcn:zmS m (d+1)=zmS m d+if us m d=true then 1 else 0:=by have:d=0\/d=1:=om;rcases this with rfl|rfl<;>simp[zmS,us]
  refine .round ?_;refine .g ct ?_;refine .t ?_;refine .skip ?_;refine .b ?_;refine .g eus ?_;refine .e ?_;refine .c (λh=> ?_) (λh=> ?_)
  .have hu:us m d=false:=by simpa using h
   rw[hu,if_neg sp]at hr;rw[hu,if_neg sp]at hcn;refine .exit ?_;refine .e ?_;exact .at [1,3,4,5,7,10,12,21,22] (ih (d+1) l om hl om hr) rfl rfl
  have hu:us m d=true:=by simpa using h
  rw[hu,if_pos rfl]at hr hcn;have hpf:=hp.f d hu;have h1:=es d hd2;have h2:=ess d hd2;have h3:=ev4 d hd2;have h4:=ev2 d hd2;have hD:zcE c m pa fu fi d mx my=dirP c m.fp (v1 m d) (v2 m d) (v3 m d) (v4 m d) (s1 m d) (s2 m d) pa fu fi (d:Int) mx my:=rfl;have h16:(zcE c m pa fu fi d mx my).2=0->F16 (zcE c m pa fu fi d mx my).1:=zg0;unfold dirP at hD;have rf:=λL=>zjv c pa fu fi (d:Int) (s1 m d) L;generalize zcE c m pa fu fi d mx my=R at hD hr h16;generalize refS c pa fu fi (d:Int) (s1 m d)=T at rf hD;obtain⟨g,e⟩:=T;simp only at rf hD;refine .skip ?_;have g5:(fmc g).all PV.cell=true:=rfl;have g7:(fmc g).length=5:=rfl;have g8:qE 5 (fmc g)=fmc g:=rfl;refine .view (Vs.place 30) ?_;(repeat refine .seq ?_);refine .drawi [H.length+4] [(15,[0])] [(15,0)] [39] mix kr (by simp<;>omega) λK hK=> ?_;simp(maxSteps:=3000000) (disch:=omega) only[go_sem,zD,hi,hx,mB,e4,h1,cl,ct4,rl,rt];refine VCj.read (λ_ _=>rf _) rfl ?_;refine sqx (nq2 g5 g7) ?_;refine hK _ _ ?_;clear hK K;refine .e ?_;refine .c (λh=> ?_) (λh=> ?_)
  .have he:e≠0:=by simpa using h
   rw[if_pos he]at hD;subst hD;rw[if_pos (by exact he)]at hr;refine .e ?_;refine .v (.tup [.agg [.int .i64 0,.int .i64 0,.slice [] 0 true,.slice [] 0 true,.slice [] 0 true],.int .i64 e]) ?_;rw[<-hr];exact .base (fz0 _ _ _)
  have he:e=0:=by simpa using h
  rw[if_neg (by simp[he])]at hD;refine .skip ?_;refine .e ?_;refine .f (λK k=>by simp(maxSteps:=3000000) (disch:=omega) only[go_sem,hi,hx,mB,e4,efp];exact k) ?_;suffices hrest:PW qB _ _ [(1,.ptr i 0 0),(3,.int .i64 mx),(4,.int .i64 my),(5,.ptr H.length 0 0),(7,.ptr (H.length+1) 0 0),(10,.ptr (H.length+2) 0 0),(12,.msl (H.length+3) (l.length * 5) 0 l.length 5 true),(16,.int .i64 R.2),(17,.ptr (H.length+5) 0 0),(21,.agg [.bool m.ua,.bool m.ub]),(22,.int .i64 (d:Int))] (H++[⟨112,0,cxc c⟩,⟨58,0,fmc pa++(fmc fu++fmc fi)⟩,⟨30,0,[.int .i64 0,.int .i64 0,.slice [] 0 true,.slice [] 0 true,.slice [] 0 true]⟩,⟨30,l.length * 5,l.flatMap fmc⟩,⟨30,1,fmc g⟩,⟨30,0,fmc R.1⟩]) _ by
   refine .c (λh=> ?_) (λh=> ?_)
   .have hf:m.fp=true:=h;rw[hf,if_pos rfl]at hD;obtain⟨k1,k2,k3,k4⟩:=hpf hf;have fl:=λL=>zo7 g mx my (v1 m d) (v2 m d) (v3 m d) (v4 m d) (s1 m d) (s2 m d) k1 k2 k3 k4 L;rw[<-hD]at fl;have r5:(fmc R.1).all PV.cell=true:=rfl;have r7:(fmc R.1).length=5:=rfl;have r9:qF 5 [PV.int .i64 0,PV.int .i64 0,PV.slice [] 0 true,PV.slice [] 0 true,PV.slice [] 0 true]=[]:=rfl;(repeat refine .seq ?_);refine .drawi [H.length+5] [(17,[0])] [] [66] mix kr (by simp<;>omega) λK hK=> ?_;simp(maxSteps:=3000000) (disch:=omega) only[go_sem,zD,hi,hx,mB,e4,h2,h3,g7,g8];refine VCj.read (λ_ _=>fl _) rfl ?_;refine sqx (nq2 r5 (nq2 r7 r9)) ?_;refine hK _ _ ?_;clear hK K;exact .at [1,3,4,5,7,10,12,16,17,21,22] hrest rfl rfl
   .have hf:m.fp=false:=h;rw[hf,if_neg sp,<-zvP]at hD;have sx:=λL=>ziD mx L;have sy:=λL=>ziD my L;have pr:=λL=>zdV g (16 * min (max mx (-1)) 128) (16 * min (max my (-1)) 128) (v1 m d) (v2 m d) 16 (.inr rfl) om L;rw[<-hD]at pr;have r5:(fmc R.1).all PV.cell=true:=rfl;have r7:(fmc R.1).length=5:=rfl;have r9:qF 5 [PV.int .i64 0,PV.int .i64 0,PV.slice [] 0 true,PV.slice [] 0 true,PV.slice [] 0 true]=[]:=rfl;(repeat refine .seq ?_);refine .drawi [H.length+5] [(17,[0])] [] [72,74,82] mix kr (by simp<;>omega) λK hK=> ?_;simp(maxSteps:=3000000) (disch:=omega) only[go_sem,zD,hi,hx,mB,e4,h4,g7,g8];refine VCj.read (λ_ _=>sx _) rfl ?_;refine sqz ?_;refine VCj.read (λ_ _=>sy _) rfl ?_;simp(maxSteps:=3000000) (disch:=omega) only[go_sem,zD,hi,hx,mB,e4,h4,g7,g8];refine VCj.read (λ_ _=>pr _) rfl ?_;refine sqx (nq2 r5 (nq2 r7 r9)) ?_;refine hK _ _ ?_;clear hK K;exact .at [1,3,4,5,7,10,12,16,17,21,22] hrest rfl rfl
  refine .e ?_;refine .c (λh=> ?_) (λh=> ?_)
  .have he2:R.2≠0:=by simpa using h
   rw[if_pos he2]at hr;refine .e ?_;refine .v (.tup [.agg [.int .i64 0,.int .i64 0,.slice [] 0 true,.slice [] 0 true,.slice [] 0 true],.int .i64 R.2]) ?_;rw[<-hr];exact .base (fz0 _ _ _)
  have he2:R.2=0:=by simpa using h
  rw[if_neg (by simp[he2])]at hr;have hR:=h16 he2;have nx:=ih (d+1) (l++[R.1]) om (λg hg=>by
   rcases qT.1 hg with hg|hg
   .exact hl g hg
   .rw[List.mem_singleton]at hg;rw[hg];exact hR) (by rw[qG];simp only[qK,qM];omega) hr
  have r7:(fmc R.1).length=5:=rfl;have r8:qE 5 (fmc R.1)=fmc R.1:=rfl;have r5:(fmc R.1).all PV.cell=true:=rfl;have lf:=zxI l;have lb:l.length<=2:=by rw[hlen];unfold zmS;split<;>split<;>omega
  have fa:(l++[R.1]).flatMap fmc=l.flatMap fmc++fmc R.1:=by simp
  have ll1:(l++[R.1]).length=l.length+1:=by simp
  have lp:(l.flatMap fmc++fmc R.1).length=(l.length+1) * 5:=by rw[qG,lf,r7];omega
  rw[fa,ll1]at nx;refine .skip ?_;refine .g (nq2 r5 (nq2 r7 (nq2 r8 lf))) ?_;refine .e ?_;rw[lp];refine .view (Vs.trim (F1:=[(1,.ptr i 0 0),(3,.int .i64 mx),(4,.int .i64 my),(5,.ptr H.length 0 0),(7,.ptr (H.length+1) 0 0),(10,.ptr (H.length+2) 0 0),(12,.msl (H.length+3) ((l.length+1) * 5) 0 (l.length+1) 5 true),(21,.agg [.bool m.ua,.bool m.ub]),(22,.int .i64 ((d+1:Nat):Int))]) (H1:=H++[⟨112,0,cxc c⟩,⟨58,0,fmc pa++(fmc fu++fmc fi)⟩,⟨30,0,[.int .i64 0,.int .i64 0,.slice [] 0 true,.slice [] 0 true,.slice [] 0 true]⟩,⟨30,(l.length+1) * 5,l.flatMap fmc++fmc R.1⟩]) (zh0 ?_) sp (qL _ [_,_,_,_] [_,_]).symm ?_) nx
  .intro b hb z hz;simp only[qJ,qH,or_false]at hb;rcases hb with rfl|rfl|rfl|rfl
   .simp only[cxc,qJ,qH,or_false]at hz;rcases hz with rfl|rfl|rfl|rfl
    .exact .int _ _
    .exact .int _ _
    .exact .bool _
    .exact .bool _
   .rcases qT.1 hz with hz|hz
    .exact zas _ _ _ _ _ _ _ _ _ _ _ _ z hz
    .rcases qT.1 hz with hz|hz
     .exact zas _ _ _ _ _ _ _ _ _ _ _ _ z hz
     .exact zas _ _ _ _ _ _ _ _ _ _ _ _ z hz
   .exact zas _ 0 0 [] [] [] _ _ _ _ _ _ z hz
   .rcases qT.1 hz with hz|hz
    .obtain⟨g,_,hg⟩:=List.mem_flatMap.1 hz;exact zas _ _ _ _ _ _ _ _ _ _ _ _ z hg
    .exact zas _ _ _ _ _ _ _ _ _ _ _ _ z hz
  .rw[hl4];exact⟨.id (.ptr om),.id (.int _ _),.id (.int _ _),.id (.ptr om),.id (.ptr om),.id (.ptr om),.id (.msl om),.id (zq λx hx=>by
    simp only[qJ,qH,or_false]at hx;rcases hx with rfl|rfl<;>exact .bool _),.id (.int _ _),trivial⟩
theorem zvU(H:za):CallOk qB 216 [.int .u64 1,.int .u64 64] H (.tup [.int .u64 0,.int .u64 64]) H:=CallOk.evalV 100000 kr (λx hx=>by
 simp only[qJ,qH,or_false]at hx;rcases hx with rfl|rfl<;>exact .int _ _)
theorem ztA(H:za):CallOk qB 216 [.int .u64 1,.int .u64 256] H (.tup [.int .u64 0,.int .u64 256]) H:=CallOk.evalV 100000 kr (λx hx=>by
 simp only[qJ,qH,or_false]at hx;rcases hx with rfl|rfl<;>exact .int _ _)
def rpk(n k:Nat):List UInt8:=qA k 128++qA (n - k) 0
theorem znn{n k:Nat}(h:k<=n):(rpk n k).length=n:=by simp[rpk];omega
theorem zno(n:Nat):rpk n n=qA n 128:=by simp[rpk]
theorem ziF(n:Nat)(hn:n=64\/n=256)(H:za):CallOk qB 132 [.slice [.int .u8 128] 1 true,.int .i64 (n:Int)] H (.slice (bs (qA n 128)) n false) H:=by
 have mu:∀ K,CallOk qB 216 [.int .u64 1,.int .u64 (n:Int)] K (.tup [.int .u64 0,.int .u64 (n:Int)]) K:=λK=>by grind[zvU,ztA]
 have hz:(qA n [PV.int .u8 0]).flatten=bs (qA n 0):=zbl n;have u1:IntKind.u64.wrap (n:Int)=(n:Int):=by rcases hn with rfl|rfl<;>rfl
 have u2:IntKind.u64.wrap 1=1:=rfl;refine .go Tryz.func132 Tryz.ntmps132 Tryz.results132 ?_;refine .e ?_;refine .e ?_;refine .us ?_;refine .m (nq2 u1 u2) mu ?_;(repeat refine .seq ?_);refine .rgv (P:=qB) [0,6] 26 (.bool false) ?_ ?_ ?_
 .rfl
 .simp(maxSteps:=3000000) (disch:=omega) only[go_sem];(repeat'((refine zg ?_ ?_)<;>intro h<;>(try simp only[nqb]at h)<;>simp(maxSteps:=3000000) (disch:=omega) only[go_sem,h]));all_goals(simp_all[slot,qO])
 refine .us ?_;refine .e ?_;rw[hz];have mn:min 1 n=1:=om;refine .f (λK k=>by simp(maxSteps:=3000000) (disch:=omega) only[go_sem,zd,qI,mn];exact k) ?_;refine .l ?_;suffices hloop:∀ k:Nat,1<=k->k<=n->PL qB _ _ [(7,.msl H.length 0 0 n 1 true),(8,.int .i64 (k:Int))] (H++[⟨5,0,bs (rpk n k)⟩]) _ by exact .at [7,8] (hloop 1 om om) rfl (by simp[zW];rcases hn with rfl|rfl<;>rfl)
 intro k hk1 hkn;induction hm:n - k using Nat.strongRecOn generalizing k with
 | _ d ih=>
  have hl:=znn hkn;refine .round ?_;refine .e ?_;refine .c (λh=> ?_) (λh=> ?_)
  .have h4:k<n:=by simp_all
   refine .skip ?_;refine .b ?_;(repeat refine .seq ?_);refine .draw mix kr λK hK=> ?_;simp(maxSteps:=3000000) (disch:=omega) only[go_sem,zd,hl];refine hK _ _ ?_;clear hK K;have hm1:min (k - 0) (n - k)=min k (n - k):=by rfl
   rw[hm1,Nat.sub_zero];have e1:(k:Int)+((min k (n - k):Nat):Int)=((k+min k (n - k):Nat):Int):=om;rw[e1];have e2:qE k (bs (rpk n k))=bs (qA k 128):=by simp_all[zbm,rpk,qX,qN]
   have e3:qE (min k (n - k)) (bs (qA k (128:UInt8)))=bs (qA (min k (n - k)) 128):=by simp_all[zbm,jD]
   have e4:qF (k+(bs (qA (min k (n - k)) (128:UInt8))).length) (bs (rpk n k))=bs (qA (n - (k+min k (n - k))) 0):=by rw[zd,qI,zbV];congr 1;simp_all[rpk,List.drop_append,qI,qP,qR,jE];omega
   rw[e2,e3,e4];have e5:bs (qA k 128)++(bs (qA (min k (n - k)) 128)++bs (qA (n - (k+min k (n - k))) 0))=bs (rpk n (k+min k (n - k))):=by rw[<-zR,<-zR];unfold rpk;rw[<-qL,qV]
   rw[e5];exact .at [7,8] (ih (n - (k+min k (n - k))) om (k+min k (n - k)) om om rfl) rfl rfl
  .have h4:k=n:=by grind
   subst h4;refine .exit ?_;rw[zno];refine .e ?_;refine .ret ⟨_,rfl,?_⟩;exact .base (Fz.mslC (e:=5) (xs:=bs (qA k 128)) om (hp0 _ _ _) (by simp[zd]) (FzC.refl (zh _ _)))
theorem zuT:fmc gry=[.int .i64 16,.int .i64 16,.slice (bs (qA 256 128)) 256 false,.slice (bs (qA 64 128)) 64 false,.slice (bs (qA 64 128)) 64 false]:=F16.gry.c
theorem ztX(H:za):CallOk qB 74 [.int .i64 16,.int .i64 16,.int .u8 128,.int .u8 128,.int .u8 128] H (.tup [.agg (fmc gry),.int .i64 0]) H:=by have fz:=λK=>zjW 16 16 K;rw[show fsz 16 16=true by decide]at fz;have r1:=λK=>ziF 256 (.inr rfl) K;have r2:=λK=>ziF 64 (.inl rfl) K;rw[zuT];generalize qA 256 (128:UInt8)=A at r1 |-;generalize qA 64 (128:UInt8)=B at r2 |-;have d1:(16:Int).tdiv 2=8:=rfl;have m1:(16:Int) * 16=((256:Nat):Int):=rfl;have m2:(8:Int) * 8=((64:Nat):Int):=rfl;refine .go Tryz.func74 Tryz.ntmps74 Tryz.results74 ?_;refine .e ?_;refine .k fz ?_;refine .us ?_;refine .g (nq2 d1 (nq2 m1 m2)) ?_;refine .f (λK k=>by simp(maxSteps:=3000000) (disch:=omega) only[go_sem];refine VCx.call (r1 _) rfl ?_;simp(maxSteps:=3000000) (disch:=omega) only[go_sem];refine VCx.call (r2 _) rfl ?_;simp(maxSteps:=3000000) (disch:=omega) only[go_sem];refine VCx.call (r2 _) rfl ?_;simp(maxSteps:=3000000) (disch:=omega) only[go_sem];exact k) ?_;refine .v (.tup [.agg [.int .i64 16,.int .i64 16,.slice (bs A) 256 false,.slice (bs B) 64 false,.slice (bs B) 64 false],.int .i64 0]) ?_;exact .base (.id (zC _ _ _ _ _ _ _ _ _ _))
theorem zvc(q:Int)(H:za):CallOk qB 85 [.int .i64 q] H (.bool (qnB q)) H:=by refine .go Tryz.func85 Tryz.ntmps85 Tryz.results85 ?_;(repeat'(first|refine .seq ?_|((refine .rg rfl λK hK=> ?_);simp(maxSteps:=3000000) (disch:=omega) only[go_sem])|((refine zg ?_ ?_)<;>intro h<;>(try simp only[nqb]at h)<;>simp(maxSteps:=3000000) (disch:=omega) only[go_sem,h])|(refine hK _ _ ?_;clear hK K)));all_goals((refine .ret ⟨_,rfl,?_⟩;refine .inl ⟨?_,rfl⟩);(simp_all[qnB,slot,qO]<;>omega))
theorem zj7{c:Cx}{fp used:Bool}{a b d e p q:Int}(h:zbM c fp used a b d e p q=true):(p=0\/p=1)/\(q=0\/q=1)/\(used=true->vrg a b=true/\vrg d e=true):=by unfold zbM at h;grind
theorem zh3{c:Cx}{m:Mb}(h:fmS c m=true)(hk:m.k=2):PrOk m/\selB m/\lvr m.lv=true:=by unfold fmS at h;rw[qD,if_neg om,if_neg om,if_pos hk]at h;have h2:=h.2;unfold zfk at h2;simp only[qD]at h2;obtain⟨hu,_,h0,h1,hl,_⟩:=h2;have d0:=zj7 h0;have d1:=zj7 h1;refine⟨⟨?_,λd hd hf=> ?_⟩,⟨d0.1,d0.2.1,d1.1,d1.2.1⟩,hl⟩;all_goals grind[zfH,us,s1,s2,v1,v2,v3,v4]
theorem zrR{c:Cx}{m:Mb}(h:fmS c m=true)(hk:m.k=1):lvr m.lv=true:=by simp_all[fmS,qD]
theorem zo5{c:Cx}{m:Mb}(h:fmS c m=true):m.k=0\/m.k=1\/m.k=2:=by unfold fmS at h;grind
theorem zwT:lrm zl384:=λi=>by grind[ze,zl384]
theorem zvu(c:Cx):PrOk (stl c):=⟨.inl rfl,λd _ hf=>by cases hf⟩
theorem zp0(s:Sq)(h:s.ia.length=64):qE 64 (qF 7 (sqc s))=bs s.ia:=zhr s.ia s.ie h
theorem zpZ(s:Sq)(h:s.ia.length=64)(h':s.ie.length=64):qE 64 (qF 71 (sqc s))=bs s.ie:=by show qE 64 (qF 64 (bs s.ia++bs s.ie))=_;rw[zhq _ _ h,zgj _ h']
theorem znh(s:Sq)(h:s.ia.length=64)(h':s.ie.length=64):(sqc s).length=135:=by simp[sqc,zd,h,h']
theorem zkK(s:Sq):(sqc s).all PV.cell=true:=by simp[sqc,bs,PV.cell]
theorem zqs(c:Cx)(s:Sq)(al:Bool)(q:Int)(m:Mb)(pa fu fi:Fm)(mx my:Int)(H:za)(hml:m.lv.length=384)(hia:s.ia.length=64)(hie:s.ie.length=64):
  CallOk qB 38 [.agg (cxc c),.agg (sqc s),.bool al,.int .i64 q,.agg (mbc m),.agg (fmc pa++(fmc fu++fmc fi)),.int .i64 mx,.int .i64 my] H (.tup [.agg (fmc (zdk c s.ia s.ie al q m pa fu fi mx my).1),.int .i64 (zdk c s.ia s.ie al q m pa fu fi mx my).2]) H:=by
 have fo:=λL=>zxH c m L hml;have q1:=λL=>zlg s.ia L hia;have q2:=λL=>zlg s.ie L hie;have q3:=λL=>zvc q L;have c1:=zp0 s hia;have c2:=zpZ s hia hie;have c3:=znh s hia hie;have c4:=zkK s;have m1:=zbs m hml;have m2:=zbJ m;have m3:(mbc m)[0]? =some (.int .i64 m.k):=rfl;have m4:qE 408 (mbc m)=mbc m:=qN om;have m5:qF 408 (mbc m)=[]:=qP om;have cl:(cxc c).length=4:=rfl;have cc:(cxc c).all PV.cell=true:=rfl;have ct4:qE 4 (cxc c)=cxc c:=rfl;have rl:(fmc pa++(fmc fu++fmc fi)).length=15:=rfl;have rc:(fmc pa++(fmc fu++fmc fi)).all PV.cell=true:=rfl;have rt:qE 15 (fmc pa++(fmc fu++fmc fi))=fmc pa++(fmc fu++fmc fi):=rfl;have z9:qF 5 [PV.int .i64 0,PV.int .i64 0,PV.slice [] 0 true,PV.slice [] 0 true,PV.slice [] 0 true]=[]:=rfl;generalize hr:zdk c s.ia s.ie al q m pa fu fi mx my=r;unfold zdk at hr;refine .go Tryz.func38 Tryz.ntmps38 Tryz.results38 ?_;refine .g (nq2 cc (nq2 rc (nq2 c4 m2))) ?_;(repeat refine .seq ?_);refine .rgv (P:=qB) [2,3,6,7,8,9,12,13,16,17] 42 (.bool (!(fmS c m&&(zaU s.ia&&(zaU s.ie&&qnB q))))) ?_ ?_ ?_
 .rfl
 .clear hr;generalize fmS c m=b1 at fo |-;generalize zaU s.ia=b2 at q1 |-;generalize zaU s.ie=b3 at q2 |-;generalize qnB q=b4 at q3 |-;simp(maxSteps:=3000000) (disch:=omega) only[go_sem,cl,ct4,m1,m4,c1,c2,c3];(repeat'(first|((refine zg ?_ ?_)<;>intro h<;>(try simp only[nqb]at h)<;>simp(maxSteps:=3000000) (disch:=omega) only[go_sem,cl,ct4,m1,m4,c1,c2,c3,h])|((first|refine VCx.call (fo _) rfl ?_|refine VCx.call (q1 _) rfl ?_|refine VCx.call (q2 _) rfl ?_|refine VCx.call (q3 _) rfl ?_);simp(maxSteps:=3000000) (disch:=omega) only[go_sem,cl,ct4,m1,m4,c1,c2,c3])));all_goals(clear fo q1 q2 q3;(simp_all[slot,qO]))
 refine .c (λh=> ?_) (λh=> ?_)
 .have hb:(fmS c m&&(zaU s.ia&&(zaU s.ie&&qnB q)))=false:=by grind
  rw[hb,if_neg sp]at hr;refine .e ?_;refine .v (.tup [.agg [.int .i64 0,.int .i64 0,.slice [] 0 true,.slice [] 0 true,.slice [] 0 true],.int .i64 1]) ?_;rw[<-hr];exact .base (fz0 _ _ _)
 have hb:(fmS c m&&(zaU s.ia&&(zaU s.ie&&qnB q)))=true:=by simpa using h
 rw[hb,if_pos rfl]at hr;simp only[qD]at hb;obtain⟨hf,hb1,hb2,hb3⟩:=hb;refine .skip ?_;refine .g (nq2 m1 m3) ?_;refine .c (λh=> ?_) (λh=> ?_)
 .have hk:m.k=1:=by simpa using h
  rw[if_pos hk]at hr;have fl:=λL=>ztX L;have ad:=λL hL=>zsE gry F16.gry m (H.length+2) s.ia q al L hL hml (zjR hml (zrR hf hk)) hia hb1 hb3;generalize gry=g at fl ad hr;obtain⟨g',hg'⟩:∃ g',addN m al s.ia q g 6=g':=⟨_,rfl⟩;rw[hg']at ad hr;have g5:(fmc g).all PV.cell=true:=rfl;have g7:(fmc g).length=5:=rfl;have g8:qE 5 (fmc g)=fmc g:=rfl;have e5:(fmc g').all PV.cell=true:=rfl;have e7:(fmc g').length=5:=rfl;have e8:qE 5 (fmc g')=fmc g':=rfl;refine .m (nq2 g5 (nq2 g7 z9)) fl ?_;refine .e ?_;refine .us ?_;refine .f (λK k=>by simp(maxSteps:=3000000) (disch:=omega) only[go_sem,g7,g8,c1,c3,e5,e7,e8,z9];refine VCx.call (ad _ (apn _ _ 2)) rfl ?_;simp(maxSteps:=3000000) (disch:=omega) only[go_sem,g7,g8,c1,c3,e5,e7,e8,z9];exact k) ?_;refine .w (.tup [.agg (fmc g'),.int .i64 0]) (nq2 e7 e8) ?_;rw[<-hr];exact .base (.id (zC _ _ _ _ _ _ _ _ _ _))
 have hk:m.k≠1:=by simpa using h
 rw[if_neg hk]at hr;refine .skip ?_;obtain⟨M,hM⟩:∃ M,(if m.k=0 then stl c else m)=M:=⟨_,rfl⟩;have hMl:M.lv.length=384:=by rw[<-hM];split;exact zdc;exact hml
 have hMp:PrOk M:=by rw[<-hM];split;all_goals grind[zvu,zh3,zo5]
 have hMr:lrm M.lv:=by
  rw[<-hM];split
  .exact zwT
  grind[zjR,zh3,zo5]
 rw[hM]at hr;suffices hrest:PW qB _ _ [(2,.bool al),(3,.int .i64 q),(6,.int .i64 mx),(7,.int .i64 my),(8,.ptr H.length 0 0),(9,.ptr (H.length+1) 0 0),(12,.ptr (H.length+2) 0 0),(13,.ptr (H.length+3) 0 0),(16,.ptr (H.length+4) 0 0)] (H++[⟨112,0,cxc c⟩,⟨26,0,sqc s⟩,⟨109,0,mbc M⟩,⟨58,0,fmc pa++(fmc fu++fmc fi)⟩,⟨30,0,[.int .i64 0,.int .i64 0,.slice [] 0 true,.slice [] 0 true,.slice [] 0 true]⟩]) _ by
  refine .g (nq2 m1 m3) ?_;refine .c (λh=> ?_) (λh=> ?_)
  .have hz:m.k=0:=by simpa using h
   rw[if_pos hz]at hM;have so:=λL=>zpV c L;rw[hM]at so;have n1:=zbs M hMl;have n2:=zbJ M;refine .m (nq2 cl (nq2 ct4 (nq2 m1 (nq2 m5 (nq2 n1 n2))))) so ?_;exact .at [2,3,6,7,8,9,12,13,16] hrest rfl rfl
  .have hz:m.k≠0:=by simpa using h
   rw[if_neg hz]at hM;subst hM;refine .skip ?_;exact .at [2,3,6,7,8,9,12,13,16] hrest rfl rfl
 have h16:(prS c M pa fu fi mx my).2=0->F16 (prS c M pa fu fi mx my).1:=zqD;have pr:=λL hL=>zkZ c M (H.length+2) pa fu fi mx my L hL hMl hMp;generalize prS c M pa fu fi mx my=T at pr hr h16;obtain⟨g,e⟩:=T;simp only at pr hr h16;have g5:(fmc g).all PV.cell=true:=rfl;have g7:(fmc g).length=5:=rfl;have g8:qE 5 (fmc g)=fmc g:=rfl;refine .f (λK k=>by simp(maxSteps:=3000000) (disch:=omega) only[go_sem,cl,ct4,rl,rt,g5,g7,z9];refine VCx.call (pr _ (apn _ _ 2)) rfl ?_;simp(maxSteps:=3000000) (disch:=omega) only[go_sem,cl,ct4,rl,rt,g5,g7,z9];exact k) ?_;refine .e ?_;refine .c (λh=> ?_) (λh=> ?_)
 .have he:e≠0:=by simpa using h
  rw[if_pos he]at hr;refine .e ?_;refine .v (.tup [.agg [.int .i64 0,.int .i64 0,.slice [] 0 true,.slice [] 0 true,.slice [] 0 true],.int .i64 e]) ?_;rw[<-hr];exact .base (fz0 _ _ _)
 have he:e=0:=by simpa using h
 rw[if_neg (by simp[he])]at hr;have ad:=λL hL=>zsE g (h16 he) M (H.length+2) s.ie q al L hL hMl hMr hie hb2 hb3;obtain⟨g',hg'⟩:∃ g',addN M al s.ie q g 6=g':=⟨_,rfl⟩;rw[hg']at ad hr;have e5:(fmc g').all PV.cell=true:=rfl;have e7:(fmc g').length=5:=rfl;have e8:qE 5 (fmc g')=fmc g':=rfl;refine .skip ?_;refine .f (λK k=>by simp(maxSteps:=3000000) (disch:=omega) only[go_sem,g7,g8,c2,c3,e5,e7,e8,z9];refine VCx.call (ad _ (apn _ _ 2)) rfl ?_;simp(maxSteps:=3000000) (disch:=omega) only[go_sem,g7,g8,c2,c3,e5,e7,e8,z9];exact k) ?_;refine .w (.tup [.agg (fmc g'),.int .i64 0]) (nq2 e7 e8) ?_;rw[<-hr];exact .base (.id (zC _ _ _ _ _ _ _ _ _ _))
theorem zfm(f:Fm)(mx my:Int)(H:za):CallOk qB 99 [.agg (fmc f),.int .i64 mx,.int .i64 my] H (.bool (zbL f mx my)) H:=by
 have va:=λK=>ziv f K;have hr:zbL f mx my=(fvd f&&(decide (0<=mx)&&(decide (mx<f.w / 16)&&(decide (0<=my)&&decide (my<f.h / 16))))):=rfl;generalize zbL f mx my=r at hr |-;cases hv:fvd f
 .rw[hv]at va hr;obtain⟨w,ht,y,u,v⟩:=f;simp only[fmc]at va |-;refine .body (F0:=[(0,.agg [.int .i64 w,.int .i64 ht,.slice (bs y) y.length false,.slice (bs u) u.length false,.slice (bs v) v.length false]),(1,.int .i64 mx),(2,.int .i64 my)]) Tryz.func99 rfl Tryz.ntmps99 Tryz.results99 rfl kr rfl ?_;refine .e ?_;(repeat refine .seq ?_);refine .rg rfl λK hK=> ?_;simp(disch:=omega) only[go_sem];(repeat'(first|((first|refine zg ?_ ?_|refine And.intro ?_ ?_)<;>intro h<;>(try simp only[nqb]at h)<;>simp(disch:=omega) only[go_sem,h])|((refine VCx.call (va _) rfl ?_);simp(disch:=omega) only[go_sem])));all_goals(refine hK _ _ ?_;clear hK;(refine .ret ⟨_,rfl,?_⟩;first|refine .inl ⟨?_,rfl⟩|refine .base (.id' ?_ (.bool _))|refine .base (.id' ?_ (.int _ _)));(simp_all[slot,qO]<;>first|rfl|omega|(rw[qQ];simp;done)|(rw[qQ];simp;omega)))
 .rw[hv]at va hr;have hp:(0<=f.w/\f.w<=64)/\0<=f.h/\f.h<=64:=by unfold fvd fmd at hv;simp only[qD]at hv;have:=zbc hv.1.1;omega
  obtain⟨w,ht,y,u,v⟩:=f;simp only[fmc]at va hp hr |-;clear hv;refine .body (F0:=[(0,.agg [.int .i64 w,.int .i64 ht,.slice (bs y) y.length false,.slice (bs u) u.length false,.slice (bs v) v.length false]),(1,.int .i64 mx),(2,.int .i64 my)]) Tryz.func99 rfl Tryz.ntmps99 Tryz.results99 rfl kr rfl ?_;refine .e ?_;(repeat refine .seq ?_);refine .rg rfl λK hK=> ?_;simp(disch:=omega) only[go_sem];(repeat'(first|((first|refine zg ?_ ?_|refine And.intro ?_ ?_)<;>intro h<;>(try simp only[nqb]at h)<;>simp(disch:=omega) only[go_sem,zE,h])|((refine VCx.call (va _) rfl ?_);simp(disch:=omega) only[go_sem,zE])));all_goals(refine hK _ _ ?_;clear hK va;(refine .ret ⟨_,rfl,?_⟩;first|refine .inl ⟨?_,rfl⟩|refine .base (.id' ?_ (.bool _))|refine .base (.id' ?_ (.int _ _)));rw[hr];simp_all[slot,qO]<;>grind)
def zBk(n:Nat):Blk:=⟨5,1,bs (qA n 0)⟩
theorem zi3(N:Nat)(f:Nat->Int):zBk N=⟨5,1,bs (flB N f 0)⟩:=by unfold zBk;rw[zrW,zbl]
theorem zpf(K0:za):CallOk qB 97 [.int .i64 16,.int .i64 16] (K0++[plc,plc,plc]) (.agg [.int .i64 16,.int .i64 16,.msl K0.length 1 0 256 1 true,.msl (K0.length+1) 1 0 64 1 true,.msl (K0.length+2) 1 0 64 1 true]) (K0++[zBk 256,zBk 64,zBk 64]):=by
 have d1:(16:Int).tdiv 2=8:=rfl;obtain⟨N1,h1⟩:∃ N:Nat,N=256:=⟨_,rfl⟩;obtain⟨N2,h2⟩:∃ N:Nat,N=64:=⟨_,rfl⟩;have m1:(16:Int) * 16=(N1:Int):=by rw[h1];rfl
 have m2:(8:Int) * 8=(N2:Int):=by rw[h2];rfl
 rw[<-h1,<-h2];have z1:(qA N1 [PV.int .u8 0]).flatten=bs (qA N1 0):=zbl N1;have z2:(qA N2 [PV.int .u8 0]).flatten=bs (qA N2 0):=zbl N2;refine .go Tryz.func97 Tryz.ntmps97 Tryz.results97 ?_;refine .f (λK k=>by simp(disch:=omega) only[go_sem,plc];exact k) ?_;(repeat refine .seq ?_);refine .drawi [K0.length,K0.length+1,K0.length+2,K0.length+3] [(4,[3]),(10,[0]),(16,[1]),(22,[2])] [(10,0),(16,1),(22,2)] [] mix kr (by simp<;>omega) λK hK=> ?_;simp(disch:=omega) only[go_sem,zD,plc,d1,m1,m2];refine hK _ _ ?_;clear hK K;rw[z1,z2];refine .v (.agg [.int .i64 16,.int .i64 16,.msl K0.length 1 0 N1 1 true,.msl (K0.length+1) 1 0 N2 1 true,.msl (K0.length+2) 1 0 N2 1 true]) ?_;refine .cut (A:=K0++[zBk N1,zBk N2,zBk N2]) (qL _ [_,_,_] [_]).symm sp (zo0 sp λb hb x hx=> ?_) (.id (zq λx hx=> ?_))
 .simp only[qJ,qH,or_false]at hb;rcases hb with rfl|rfl|rfl<;>exact zh _ _ x hx
 .simp only[qJ,qH,or_false]at hx;rcases hx with rfl|rfl|rfl|rfl|rfl
  .exact .int _ _
  .exact .int _ _
  .exact .msl (by simp only[qG,qK,qM];omega)
  .exact .msl (by simp only[qG,qK,qM];omega)
  .exact .msl (by simp only[qG,qK,qM];omega)
theorem zj0(n:Nat):rgB n (λ_=>128)=qA n 128:=by apply List.ext_getElem;all_goals simp_all[rgB,u8]
theorem zrS(H:za):CallOk qB 50 [.int .i64 16,.int .i64 16,.int .u8 128,.int .u8 128,.int .u8 128] H (.agg (fmc gry)) H:=by
 have bl:=zpf (H++[⟨30,0,[PV.int .i64 0,PV.int .i64 0,PV.slice [] 0 true,PV.slice [] 0 true,PV.slice [] 0 true]⟩]);rw[zi3 256 (λ_=>128),zi3 64 (λ_=>128)]at bl;simp only[plc,hl1,qL,qW,qR,qU,qS]at bl;rw[zuT,<-zj0,<-zj0,<-zep,<-zep];obtain⟨N1,hn1⟩:∃ N:Nat,N=256:=⟨_,rfl⟩;obtain⟨N2,hn2⟩:∃ N:Nat,N=64:=⟨_,rfl⟩;rw[<-hn1,<-hn2]at bl |-;have fs:=fun(N k:Nat)=>zgW (N:=N) (f:=λ_=>128) (n:=k) (by decide);have fl:=λN k=>zgX N (λ_=>128) k;refine .go Tryz.func50 Tryz.ntmps50 Tryz.results50 ?_;refine .e ?_;refine .view (Vs.place 5) ?_;refine .view (Vs.place 5) ?_;refine .view (Vs.place 5) ?_;refine .f (λK k=>by simp(disch:=omega) only[go_sem];refine VCx.call (bl) rfl ?_;simp(disch:=omega) only[go_sem];exact k) ?_;refine .e ?_;refine .l ?_;suffices h1:∀ k:Nat,k<=N1->PL qB _ _ [(2,.int .u8 128),(3,.int .u8 128),(4,.int .u8 128),(10,.ptr H.length 0 0),(11,.ptr (H.length+4) 0 0),(12,.int .i64 (k:Int))] (H++[⟨30,0,[PV.int .i64 0,PV.int .i64 0,PV.slice [] 0 true,PV.slice [] 0 true,PV.slice [] 0 true]⟩,⟨5,1,bs (flB N1 (λ_=>128) k)⟩,⟨5,1,bs (flB N2 (λ_=>128) 0)⟩,⟨5,1,bs (flB N2 (λ_=>128) 0)⟩,⟨30,0,[.int .i64 16,.int .i64 16,.msl (H.length+1) 1 0 N1 1 true,.msl (H.length+2) 1 0 N2 1 true,.msl (H.length+3) 1 0 N2 1 true]⟩]) _ by exact .at [2,3,4,10,11,12] (h1 0 om) rfl rfl
 refine cnt N1 (λk hk ih=> ?_) ?_
 .have ct:=zc4 hk;refine .round ?_;refine .g ct ?_;refine .t ?_;refine .skip ?_;refine .b ?_;refine .f (λK k=>by simp(disch:=omega) only[go_sem,zd,fl,fs];exact k) ?_;refine .e ?_;exact .at [2,3,4,10,11,12] ih rfl rfl
 refine .round ?_;refine .f (λK k=>by simp(disch:=omega) only[go_sem,zdK N1];exact k) ?_;refine .u ?_;refine .exit ?_;refine .e ?_;refine .l ?_;suffices h1:∀ k:Nat,k<=N2->PL qB _ _ [(3,.int .u8 128),(4,.int .u8 128),(10,.ptr H.length 0 0),(11,.ptr (H.length+4) 0 0),(13,.int .i64 (k:Int))] (H++[⟨30,0,[PV.int .i64 0,PV.int .i64 0,PV.slice [] 0 true,PV.slice [] 0 true,PV.slice [] 0 true]⟩,⟨5,1,bs (flB N1 (λ_=>128) N1)⟩,⟨5,1,bs (flB N2 (λ_=>128) k)⟩,⟨5,1,bs (flB N2 (λ_=>128) k)⟩,⟨30,0,[.int .i64 16,.int .i64 16,.msl (H.length+1) 1 0 N1 1 true,.msl (H.length+2) 1 0 N2 1 true,.msl (H.length+3) 1 0 N2 1 true]⟩]) _ by exact .at [3,4,10,11,13] (h1 0 om) rfl rfl
 refine cnt N2 (λk hk ih=> ?_) ?_
 .have ct:=zc4 hk;refine .round ?_;refine .g ct ?_;refine .t ?_;refine .skip ?_;refine .b ?_;(repeat refine .seq ?_);refine .drawi [H.length+2,H.length+3] [(37,[0]),(44,[0]),(40,[1]),(45,[1])] [] [] mix kr (by simp<;>omega) λK hK=> ?_;simp(disch:=omega) only[go_sem,zD,zd,fl,fs];refine hK _ _ ?_;clear hK K;refine .e ?_;exact .at [3,4,10,11,13] ih rfl rfl
 refine .round ?_;refine .f (λK k=>by simp(disch:=omega) only[go_sem,zdK N2];exact k) ?_;refine .u ?_;refine .exit ?_;refine .e ?_;refine .v (.agg [.int .i64 16,.int .i64 16,.msl (H.length+1) 1 0 N1 1 true,.msl (H.length+2) 1 0 N2 1 true,.msl (H.length+3) 1 0 N2 1 true]) ?_;refine .base (Fz.aggC ⟨.id (.int _ _),.id (.int _ _),Fz.mslC (e:=5) (xs:=bs (flB N1 (λ_=>128) N1)) om (apn _ _ 1) (by rw[zd,fl];omega) (FzC.refl (zh _ _)),Fz.mslC (e:=5) (xs:=bs (flB N2 (λ_=>128) N2)) om (apn _ _ 2) (by rw[zd,fl];omega) (FzC.refl (zh _ _)),Fz.mslC (e:=5) (xs:=bs (flB N2 (λ_=>128) N2)) om (apn _ _ 3) (by rw[zd,fl];omega) (FzC.refl (zh _ _)),trivial⟩)
theorem zoK(w ht:Int)(y u v:List UInt8)(n:Nat)(H:za)(hn:n<6):CallOk qB 185 [.agg (fmc ⟨w,ht,y,u,v⟩),.int .i64 (n:Int)] H (.slice (bs (cmp ⟨w,ht,y,u,v⟩ n)) (cmp ⟨w,ht,y,u,v⟩ n).length false) H:=by
 refine .body (F0:=[(0,.agg [.int .i64 w,.int .i64 ht,.slice (bs y) y.length false,.slice (bs u) u.length false,.slice (bs v) v.length false]),(1,.int .i64 (n:Int))]) Tryz.func185 rfl Tryz.ntmps185 Tryz.results185 rfl kr rfl ?_;refine .e ?_;refine .e ?_;refine .b ?_;refine .e ?_;refine .c (λh=> ?_) (λh=> ?_)
 .have e:n=4:=by grind
  subst e;refine .e ?_;exact .ret ⟨_,rfl,Fin.base (.id (zr (zh _ _)))⟩
 have e4:n≠4:=by grind
 refine .e ?_;refine .c (λh=> ?_) (λh=> ?_)
 .have e:n=5:=by grind
  subst e;refine .e ?_;exact .ret ⟨_,rfl,Fin.base (.id (zr (zh _ _)))⟩
 have e5:n≠5:=by grind
 have ec:cmp ⟨w,ht,y,u,v⟩ n=y:=by unfold cmp;rw[if_neg e4,if_neg e5]
 rw[ec];refine .skip ?_;refine .e ?_;exact .ret ⟨_,rfl,Fin.base (.id (zr (zh _ _)))⟩
theorem zmn(w ht:Int)(r a b c:Nat)(n:Nat)(H:za)(hr:r+2<H.length)(hn:n<6):CallOk qB 185 [.agg [.int .i64 w,.int .i64 ht,.msl r 1 0 a 1 true,.msl (r+1) 1 0 b 1 true,.msl (r+2) 1 0 c 1 true],.int .i64 (n:Int)] H (if n=4 then .msl (r+1) 1 0 b 1 true else if n=5 then .msl (r+2) 1 0 c 1 true else .msl r 1 0 a 1 true) H:=by
 refine .go Tryz.func185 Tryz.ntmps185 Tryz.results185 ?_;refine .e ?_;refine .e ?_;refine .b ?_;refine .e ?_;refine .c (λh=> ?_) (λh=> ?_)
 .have e:n=4:=by grind
  subst e;refine .e ?_;exact .ret ⟨_,rfl,Fin.base (.id (.msl om))⟩
 have e4:n≠4:=by grind
 rw[if_neg e4];refine .e ?_;refine .c (λh=> ?_) (λh=> ?_)
 .have e:n=5:=by grind
  subst e;refine .e ?_;exact .ret ⟨_,rfl,Fin.base (.id (.msl om))⟩
 have e5:n≠5:=by grind
 rw[if_neg e5];refine .skip ?_;refine .e ?_;exact .ret ⟨_,rfl,Fin.base (.id (.msl om))⟩
theorem zic(v:Int)(H:za):CallOk qB 187 [.int .i64 v] H (.int .u8 (clp v)) H:=by
 have cl:(if(if 255<v then 255 else v)>0 then(if 255<v then 255 else v)else 0)=clp v:=by unfold clp;omega
 have b1:=zdw v;refine .go Tryz.func187 Tryz.ntmps187 Tryz.results187 ?_;refine .e ?_;refine .g cl ?_;(refine .ret ⟨_,rfl,?_⟩;first|refine .inl ⟨?_,rfl⟩|refine .base (.id' ?_ (.bool _))|refine .base (.id' ?_ (.int _ _)));rfl
theorem zdn(n:Nat)(fd:Bool)(k:Nat)(hn:n<6)(hk:k<64)(H:za):CallOk qB 186 [.int .i64 16,.int .i64 0,.int .i64 0,.int .i64 (n:Int),.bool fd,.int .i64 (k:Int)] H (.int .i64 (bps n fd k:Int)) H:=by
 have m1:(n:Int).tmod 2=((n%2:Nat):Int):=by rfl
 have m2:(n:Int).tdiv 2=((n / 2:Nat):Int):=by rfl
 have k1:(k:Int).tmod 8=((k%8:Nat):Int):=by rfl
 have k2:(k:Int).tdiv 8=((k / 8:Nat):Int):=by rfl
 have d1:(16:Int).tdiv 2=8:=rfl;refine .go Tryz.func186 Tryz.ntmps186 Tryz.results186 ?_;refine .e ?_;refine .e ?_;refine .c (λh=> ?_) (λh=> ?_)
 .have h4:4<=n:=by grind
  refine .g (nq2 m1 (nq2 m2 (nq2 k1 (nq2 k2 d1)))) ?_;(refine .ret ⟨_,rfl,?_⟩;first|refine .inl ⟨?_,rfl⟩|refine .base (.id' ?_ (.bool _))|refine .base (.id' ?_ (.int _ _)));simp_all[slot,qO,bps,bfr,bst]
 have h4:¬ 4<=n:=by grind
 refine .skip ?_;refine .g (nq2 m1 (nq2 m2 (nq2 k1 (nq2 k2 d1)))) ?_;refine .e ?_;cases fd
 .refine .us ?_;refine .g (nq2 m1 (nq2 m2 (nq2 k1 (nq2 k2 d1)))) ?_;(refine .ret ⟨_,rfl,?_⟩;first|refine .inl ⟨?_,rfl⟩|refine .base (.id' ?_ (.bool _))|refine .base (.id' ?_ (.int _ _)));simp only[slot,qO];grind[bps,bfr,bst,Bool.false_eq_true]
 .refine .t ?_;refine .g (nq2 m1 (nq2 m2 (nq2 k1 (nq2 k2 d1)))) ?_;refine .g (nq2 m1 (nq2 m2 (nq2 k1 (nq2 k2 d1)))) ?_;(refine .ret ⟨_,rfl,?_⟩;first|refine .inl ⟨?_,rfl⟩|refine .base (.id' ?_ (.bool _))|refine .base (.id' ?_ (.int _ _)));simp only[slot,qO];grind[bps,bfr,bst]
theorem zpe(f:Fm)(hf:F16 f)(n:Nat)(hn:n<6)(fd:Bool)(H:za):
  CallOk qB 108 [.agg (fmc f),.int .i64 0,.int .i64 0,.int .i64 (n:Int),.bool fd] H (.tup [.agg (is (blk (cmp f n) n fd)),.int .i64 0]) H:=by
 have hm:=λK=>zfm f 0 0 K;rw[hf.has]at hm;have co:=λK=>zoK f.w f.h f.y f.u f.v n K hn;have cl:=hf.cmp hn;have bb:bln n<=256:=by unfold bln;split<;>omega
 have hz:=zgr (λk=>byt (cmp f n) (bps n fd k));obtain⟨w,ht,y,u,v⟩:=f;have hw:w=16:=hf.w;have hh:ht=16:=hf.h;subst hw hh;simp only at co;obtain⟨P,hP⟩:∃ P,cmp ⟨16,16,y,u,v⟩ n=P:=⟨_,rfl⟩;rw[hP]at co cl hz |-;simp only[fmc]at hm co |-;refine .body (F0:=[(0,.agg [.int .i64 16,.int .i64 16,.slice (bs y) y.length false,.slice (bs u) u.length false,.slice (bs v) v.length false]),(1,.int .i64 0),(2,.int .i64 0),(3,.int .i64 (n:Int)),(4,.bool fd)]) Tryz.func108 rfl Tryz.ntmps108 Tryz.results108 rfl kr rfl ?_;refine .e ?_;(repeat refine .seq ?_);refine .rgv (P:=qB) [1,2,3,4,5,10,11] 26 (.bool false) ?_ ?_ ?_
 .rfl
 .simp(disch:=omega) only[go_sem];(repeat'(first|((first|refine zg ?_ ?_|refine And.intro ?_ ?_)<;>intro h<;>(try simp only[nqb]at h)<;>simp(disch:=omega) only[go_sem,h])|((refine VCx.call (hm _) rfl ?_);simp(disch:=omega) only[go_sem])));all_goals(simp_all[slot,qO]<;>first|rfl|omega|(rw[qQ];simp;done)|(rw[qQ];simp;omega))
 refine .us ?_;refine .e ?_;refine .e ?_;refine .l ?_;suffices h1:∀ k:Nat,k<=64->PL qB _ _ [(1,.int .i64 0),(2,.int .i64 0),(3,.int .i64 (n:Int)),(4,.bool fd),(5,.ptr H.length 0 0),(10,.ptr (H.length+1) 0 0),(12,.ptr (H.length+2) 0 0),(13,.int .i64 (k:Int))] (H++[⟨30,0,[.int .i64 16,.int .i64 16,.slice (bs y) y.length false,.slice (bs u) u.length false,.slice (bs v) v.length false]⟩,⟨106,0,is zi⟩,⟨106,0,is (fil (λk=>byt P (bps n fd k)) k)⟩]) _ by exact .at [1,2,3,4,5,10,12,13] (h1 0 om) rfl (by rw[hz];rfl)
 refine cnt 64 (λk hk ih=> ?_) ?_
 .have po:=λL=>zdn n fd k hn hk L;have bl:=zge (fd:=fd) hn hk;have f1:=zeq (λk=>byt P (bps n fd k)) k;have f2:=za6 (λk=>byt P (bps n fd k)) k;have br:=zK P (bps n fd k);refine .round ?_;refine .e ?_;refine .t ?_;refine .skip ?_;refine .b ?_;(repeat refine .seq ?_);refine .drawi [H.length+2] [(12,[0]),(47,[0])] [] [35,43] mix kr (by simp<;>omega) λK hK=> ?_;simp(disch:=omega) only[go_sem,zD];refine VCj.read (λ_ _=>co _) rfl ?_;simp(disch:=omega) only[go_sem,zD];refine VCj.read (λ_ _=>po _) rfl ?_;simp(disch:=omega) only[go_sem,zD,zaf,zd,zj,f2,zaG,f1];refine hK _ _ ?_;clear hK K;refine .e ?_;exact .at [1,2,3,4,5,10,12,13] ih rfl rfl
 refine .round ?_;refine .e ?_;refine .u ?_;refine .exit ?_;rw[zn7];have c3:(blk P n fd).length=64:=zaW _ _;have c4:(is (blk P n fd)).length=64:=by rfl
 have c5:=zt (blk P n fd);have c6:qE 64 (is (blk P n fd))=is (blk P n fd):=qN om;have z3:(is zi).length=64:=by rfl
 have z4:qF 64 (is zi)=[]:=qP om;refine .g (nq2 c4 (nq2 c5 (nq2 c6 (nq2 z3 z4)))) ?_;refine .w (.tup [.agg (is (blk P n fd)),.int .i64 0]) (nq2 c4 c6) ?_;exact .base (.id (ziU _ _ _))
theorem zse(w ht:Int)(y u v:List UInt8)(K0:za)(hy:1<=y.length/\y.length<=100000)(hu:1<=u.length/\u.length<=100000)(hv:1<=v.length/\v.length<=100000):
  CallOk qB 100 [.agg (fmc ⟨w,ht,y,u,v⟩)] (K0++[plc,plc,plc]) (.agg [.int .i64 w,.int .i64 ht,.msl K0.length 1 0 y.length 1 true,.msl (K0.length+1) 1 0 u.length 1 true,.msl (K0.length+2) 1 0 v.length 1 true]) (K0++[cpB y,cpB u,cpB v]):=by
 refine .body (F0:=[(0,.agg [.int .i64 w,.int .i64 ht,.slice (bs y) y.length false,.slice (bs u) u.length false,.slice (bs v) v.length false])]) Tryz.func100 rfl Tryz.ntmps100 Tryz.results100 rfl kr rfl ?_;refine .e ?_;(repeat refine .seq ?_);refine .drawi [K0.length,K0.length+1,K0.length+2,K0.length+3] [(1,[3]),(4,[3]),(8,[3]),(12,[3]),(15,[3]),(16,[3]),(17,[3]),(6,[0]),(10,[1]),(14,[2])] [(6,0),(10,1),(14,2)] [] mix kr (by simp<;>omega) λK hK=> ?_;simp(disch:=omega) only[go_sem,zD,plc,zd];refine hK _ _ ?_;clear hK K;refine .e ?_;refine .v (.agg [.int .i64 w,.int .i64 ht,.msl K0.length 1 0 y.length 1 true,.msl (K0.length+1) 1 0 u.length 1 true,.msl (K0.length+2) 1 0 v.length 1 true]) ?_;refine .cut (A:=K0++[cpB y,cpB u,cpB v]) (qL _ [_,_,_] [_,_]).symm sp (zo0 sp λb hb x hx=> ?_) (.id (zq λx hx=> ?_))
 .simp only[qJ,qH,or_false]at hb;rcases hb with rfl|rfl|rfl<;>exact zh _ _ x hx
 .simp only[qJ,qH,or_false]at hx;rcases hx with rfl|rfl|rfl|rfl|rfl
  .exact .int _ _
  .exact .int _ _
  .exact .msl (by simp only[qG,qK,qM];omega)
  .exact .msl (by simp only[qG,qK,qM];omega)
  .exact .msl (by simp only[qG,qK,qM];omega)
theorem zjo(f:Fm)(hf:F16 f)(n:Nat)(hn:n<6)(fd:Bool)(x:List Int)(hx:x.length=64)(H:za):
  CallOk qB 109 [.agg (fmc f),.int .i64 0,.int .i64 0,.int .i64 (n:Int),.bool fd,.agg (is x)] H (.tup [.agg (fmc (zgu f n (zdh (cmp f n) n fd x))),.int .i64 0]) H:=by
 have hm:=λK=>zfm f 0 0 K;rw[hf.has]at hm;have cl:=hf.cmp hn;have bb:bln n<=256:=by unfold bln;split<;>omega
 have hsl:=zcq (fd:=fd) (x:=x) hn cl;obtain⟨w,ht,y,u,v⟩:=f;obtain⟨hw,hh,l1,l2,l3⟩:=hf;simp only at hw hh l1 l2 l3;subst hw hh;have hall:=zt x;have fc:=zse 16 16 y u v (H++[⟨30,0,fmc ⟨16,16,y,u,v⟩⟩,⟨106,0,is x⟩,⟨30,0,[.int .i64 0,.int .i64 0,.slice [] 0 true,.slice [] 0 true,.slice [] 0 true]⟩]) om om om;simp only[fmc,plc,cpB,l1,l2,l3,hl3,qL,qW,qR,qU,qS]at hm fc |-;refine .body (F0:=[(0,.agg [.int .i64 16,.int .i64 16,.slice (bs y) 256 false,.slice (bs u) 64 false,.slice (bs v) 64 false]),(1,.int .i64 0),(2,.int .i64 0),(3,.int .i64 (n:Int)),(4,.bool fd),(5,.agg (is x))]) Tryz.func109 rfl Tryz.ntmps109 Tryz.results109 rfl kr rfl ?_;refine .g hall ?_;(repeat refine .seq ?_);refine .rgv (P:=qB) [1,2,3,4,6,11,12,13] 27 (.bool false) ?_ ?_ ?_
 .rfl
 .simp(disch:=omega) only[go_sem];(repeat'(first|((first|refine zg ?_ ?_|refine And.intro ?_ ?_)<;>intro h<;>(try simp only[nqb]at h)<;>simp(disch:=omega) only[go_sem,h])|((refine VCx.call (hm _) rfl ?_);simp(disch:=omega) only[go_sem])));all_goals(simp_all[slot,qO]<;>first|rfl|omega|(rw[qQ];simp;done)|(rw[qQ];simp;omega))
 refine .us ?_;refine .view (Vs.place 5) ?_;refine .view (Vs.place 5) ?_;refine .view (Vs.place 5) ?_;refine .f (λK k=>by simp(disch:=omega) only[go_sem];refine VCx.call (fc) rfl ?_;simp(disch:=omega) only[go_sem];exact k) ?_;refine .e ?_;refine .l ?_;have co:=λL hL=>zmn 16 16 (H.length+3) 256 64 64 n L hL hn;simp only[qU,qS]at co;by_cases h4:n=4
 .subst h4;have cu:cmp ⟨16,16,y,u,v⟩ 4=u:=rfl;rw[cu]at hsl cl;rw[cu,zuB];simp only[if_pos,hsl,l1,l2,l3]at co |-;have sz:=zdP (fd:=fd) (x:=x) hn (show u.length=bln 4 by rw[cl]);suffices h1:∀ k:Nat,k<=64->PL qB _ _ [(1,.int .i64 0),(2,.int .i64 0),(3,.int .i64 ((4:Nat):Int)),(4,.bool fd),(6,.ptr H.length 0 0),(11,.ptr (H.length+1) 0 0),(12,.ptr (H.length+2) 0 0),(14,.int .i64 (k:Int))] (H++[⟨30,0,[.int .i64 16,.int .i64 16,.msl (H.length+3) 1 0 256 1 true,.msl (H.length+4) 1 0 64 1 true,.msl (H.length+5) 1 0 64 1 true]⟩,⟨106,0,is x⟩,⟨30,0,[.int .i64 0,.int .i64 0,.slice [] 0 true,.slice [] 0 true,.slice [] 0 true]⟩,⟨5,1,bs y⟩,⟨5,1,bs (sst u 4 fd x k)⟩,⟨5,1,bs v⟩]) _ by exact .at [1,2,3,4,6,11,12,14] (h1 0 om) rfl rfl
  refine cnt 64 (λk hk ih=> ?_) ?_
  .have b1:=zdw (ze x k);have sl:=zcf u 4 fd x k;have bl:=zge (fd:=fd) hn hk;have sv:(bs (sst u 4 fd x k)).set (bps 4 fd k) (.int .u8 (clp (ze x k)))=bs (sst u 4 fd x (k+1)):=by
    conv=>lhs;rw[<-zcN b1]
    rw[zie];rfl
   have po:=λL=>zdn 4 fd k hn hk L;have cp:=λL=>zic (ze x k) L;refine .round ?_;refine .e ?_;refine .t ?_;refine .skip ?_;refine .b ?_;(repeat refine .seq ?_);refine .drawi [H.length+4] [(37,[0]),(50,[0])] [] [37,45,49] mix kr (by simp<;>omega) λK hK=> ?_;simp(disch:=omega) only[go_sem,zD,zQ,zj,hx];refine VCj.read (λL hL=>co L (by have:=hL.len;simp at this;omega)) rfl ?_;refine sqz ?_;refine VCj.read (λ_ _=>po _) rfl ?_;simp(disch:=omega) only[go_sem,zD,zQ,zj,hx];refine VCj.read (λ_ _=>cp _) rfl ?_;simp(disch:=omega) only[go_sem,zD,zd,sl,l2,sv];refine hK _ _ ?_;clear hK K;refine .e ?_;exact .at [1,2,3,4,6,11,12,14] ih rfl rfl
  refine .round ?_;refine .e ?_;refine .u ?_;refine .exit ?_;rw[sz];have hs2:=zcq (fd:=fd) (x:=x) hn (show u.length=bln 4 by rw[cl]);refine .e ?_;refine .v (.tup [.agg [.int .i64 16,.int .i64 16,.msl (H.length+3) 1 0 256 1 true,.msl (H.length+4) 1 0 64 1 true,.msl (H.length+5) 1 0 64 1 true],.int .i64 0]) ?_;refine .base (Fz.tupC ⟨Fz.aggC ⟨.id (.int _ _),.id (.int _ _),Fz.mslC (e:=5) (xs:=(bs y)) om (apn _ _ 3) (by rw[zd];omega) (FzC.refl (zh _ _)),Fz.mslC (e:=5) (xs:=(bs (zdh u 4 fd x))) om (apn _ _ 4) (by rw[zd];omega) (FzC.refl (zh _ _)),Fz.mslC (e:=5) (xs:=(bs v)) om (apn _ _ 5) (by rw[zd];omega) (FzC.refl (zh _ _)),trivial⟩,.id (.int _ _),trivial⟩)
 by_cases h5:n=5
 .subst h5;have cu:cmp ⟨16,16,y,u,v⟩ 5=v:=rfl;rw[cu]at hsl cl;rw[cu,zuA];simp only[if_neg h4,if_pos,hsl,l1,l2,l3]at co |-;have sz:=zdP (fd:=fd) (x:=x) hn (show v.length=bln 5 by rw[cl]);suffices h1:∀ k:Nat,k<=64->PL qB _ _ [(1,.int .i64 0),(2,.int .i64 0),(3,.int .i64 ((5:Nat):Int)),(4,.bool fd),(6,.ptr H.length 0 0),(11,.ptr (H.length+1) 0 0),(12,.ptr (H.length+2) 0 0),(14,.int .i64 (k:Int))] (H++[⟨30,0,[.int .i64 16,.int .i64 16,.msl (H.length+3) 1 0 256 1 true,.msl (H.length+4) 1 0 64 1 true,.msl (H.length+5) 1 0 64 1 true]⟩,⟨106,0,is x⟩,⟨30,0,[.int .i64 0,.int .i64 0,.slice [] 0 true,.slice [] 0 true,.slice [] 0 true]⟩,⟨5,1,bs y⟩,⟨5,1,bs u⟩,⟨5,1,bs (sst v 5 fd x k)⟩]) _ by exact .at [1,2,3,4,6,11,12,14] (h1 0 om) rfl rfl
  refine cnt 64 (λk hk ih=> ?_) ?_
  .have b1:=zdw (ze x k);have sl:=zcf v 5 fd x k;have bl:=zge (fd:=fd) hn hk;have sv:(bs (sst v 5 fd x k)).set (bps 5 fd k) (.int .u8 (clp (ze x k)))=bs (sst v 5 fd x (k+1)):=by
    conv=>lhs;rw[<-zcN b1]
    rw[zie];rfl
   have po:=λL=>zdn 5 fd k hn hk L;have cp:=λL=>zic (ze x k) L;refine .round ?_;refine .e ?_;refine .t ?_;refine .skip ?_;refine .b ?_;(repeat refine .seq ?_);refine .drawi [H.length+5] [(37,[0]),(50,[0])] [] [37,45,49] mix kr (by simp<;>omega) λK hK=> ?_;simp(disch:=omega) only[go_sem,zD,zQ,zj,hx];refine VCj.read (λL hL=>co L (by have:=hL.len;simp at this;omega)) rfl ?_;refine sqz ?_;refine VCj.read (λ_ _=>po _) rfl ?_;simp(disch:=omega) only[go_sem,zD,zQ,zj,hx];refine VCj.read (λ_ _=>cp _) rfl ?_;simp(disch:=omega) only[go_sem,zD,zd,sl,l3,sv];refine hK _ _ ?_;clear hK K;refine .e ?_;exact .at [1,2,3,4,6,11,12,14] ih rfl rfl
  refine .round ?_;refine .e ?_;refine .u ?_;refine .exit ?_;rw[sz];have hs2:=zcq (fd:=fd) (x:=x) hn (show v.length=bln 5 by rw[cl]);refine .e ?_;refine .v (.tup [.agg [.int .i64 16,.int .i64 16,.msl (H.length+3) 1 0 256 1 true,.msl (H.length+4) 1 0 64 1 true,.msl (H.length+5) 1 0 64 1 true],.int .i64 0]) ?_;refine .base (Fz.tupC ⟨Fz.aggC ⟨.id (.int _ _),.id (.int _ _),Fz.mslC (e:=5) (xs:=(bs y)) om (apn _ _ 3) (by rw[zd];omega) (FzC.refl (zh _ _)),Fz.mslC (e:=5) (xs:=(bs u)) om (apn _ _ 4) (by rw[zd];omega) (FzC.refl (zh _ _)),Fz.mslC (e:=5) (xs:=(bs (zdh v 5 fd x))) om (apn _ _ 5) (by rw[zd];omega) (FzC.refl (zh _ _)),trivial⟩,.id (.int _ _),trivial⟩)
 have cu:cmp ⟨16,16,y,u,v⟩ n=y:=zu1 _ _ _ _ _ h4 h5;rw[cu]at hsl cl;rw[cu,zuz _ _ _ _ _ _ h4 h5];simp only[if_neg h4,if_neg h5,hsl,l1,l2,l3]at co |-;have sz:=zdP (fd:=fd) (x:=x) hn (show y.length=bln n by rw[cl]);suffices h1:∀ k:Nat,k<=64->PL qB _ _ [(1,.int .i64 0),(2,.int .i64 0),(3,.int .i64 (n:Int)),(4,.bool fd),(6,.ptr H.length 0 0),(11,.ptr (H.length+1) 0 0),(12,.ptr (H.length+2) 0 0),(14,.int .i64 (k:Int))] (H++[⟨30,0,[.int .i64 16,.int .i64 16,.msl (H.length+3) 1 0 256 1 true,.msl (H.length+4) 1 0 64 1 true,.msl (H.length+5) 1 0 64 1 true]⟩,⟨106,0,is x⟩,⟨30,0,[.int .i64 0,.int .i64 0,.slice [] 0 true,.slice [] 0 true,.slice [] 0 true]⟩,⟨5,1,bs (sst y n fd x k)⟩,⟨5,1,bs u⟩,⟨5,1,bs v⟩]) _ by exact .at [1,2,3,4,6,11,12,14] (h1 0 om) rfl rfl
 refine cnt 64 (λk hk ih=> ?_) ?_
 .have b1:=zdw (ze x k);have sl:=zcf y n fd x k;have bl:=zge (fd:=fd) hn hk;have sv:(bs (sst y n fd x k)).set (bps n fd k) (.int .u8 (clp (ze x k)))=bs (sst y n fd x (k+1)):=by
   conv=>lhs;rw[<-zcN b1]
   rw[zie];rfl
  have po:=λL=>zdn n fd k hn hk L;have cp:=λL=>zic (ze x k) L;refine .round ?_;refine .e ?_;refine .t ?_;refine .skip ?_;refine .b ?_;(repeat refine .seq ?_);refine .drawi [H.length+3] [(37,[0]),(50,[0])] [] [37,45,49] mix kr (by simp<;>omega) λK hK=> ?_;simp(disch:=omega) only[go_sem,zD,zQ,zj,hx];refine VCj.read (λL hL=>co L (by have:=hL.len;simp at this;omega)) rfl ?_;refine sqz ?_;refine VCj.read (λ_ _=>po _) rfl ?_;simp(disch:=omega) only[go_sem,zD,zQ,zj,hx];refine VCj.read (λ_ _=>cp _) rfl ?_;simp(disch:=omega) only[go_sem,zD,zd,sl,l1,sv];refine hK _ _ ?_;clear hK K;refine .e ?_;exact .at [1,2,3,4,6,11,12,14] ih rfl rfl
 refine .round ?_;refine .e ?_;refine .u ?_;refine .exit ?_;rw[sz];have hs2:=zcq (fd:=fd) (x:=x) hn (show y.length=bln n by rw[cl]);refine .e ?_;refine .v (.tup [.agg [.int .i64 16,.int .i64 16,.msl (H.length+3) 1 0 256 1 true,.msl (H.length+4) 1 0 64 1 true,.msl (H.length+5) 1 0 64 1 true],.int .i64 0]) ?_;refine .base (Fz.tupC ⟨Fz.aggC ⟨.id (.int _ _),.id (.int _ _),Fz.mslC (e:=5) (xs:=(bs (zdh y n fd x))) om (apn _ _ 3) (by rw[zd];omega) (FzC.refl (zh _ _)),Fz.mslC (e:=5) (xs:=(bs u)) om (apn _ _ 4) (by rw[zd];omega) (FzC.refl (zh _ _)),Fz.mslC (e:=5) (xs:=(bs v)) om (apn _ _ 5) (by rw[zd];omega) (FzC.refl (zh _ _)),trivial⟩,.id (.int _ _),trivial⟩)
def flt(A B:Nat):Fm:=⟨((16 * A:Nat):Int),((16 * B:Nat):Int),qA (16 * A * (16 * B)) 128,qA (8 * A * (8 * B)) 128,qA (8 * A * (8 * B)) 128⟩
theorem zuX(A B:Nat):fmc (flt A B)=[.int .i64 ((16 * A:Nat):Int),.int .i64 ((16 * B:Nat):Int),.slice (bs (qA (16 * A * (16 * B)) 128)) (16 * A * (16 * B)) false,.slice (bs (qA (8 * A * (8 * B)) 128)) (8 * A * (8 * B)) false,.slice (bs (qA (8 * A * (8 * B)) 128)) (8 * A * (8 * B)) false]:=by simp_all[flt,fmc,qI]
theorem zxz(k:Nat)(hk:k<=64)(H:za):CallOk qB 216 [.int .u64 1,.int .u64 ((64 * k:Nat):Int)] H (.tup [.int .u64 0,.int .u64 ((64 * k:Nat):Int)]) H:=by
 have h:((List.range 65).all λk=>zrB (zh5 qB 100000 (.call 216 [.int .u64 1,.int .u64 ((64 * k:Nat):Int)] [])) (.tup [.int .u64 0,.int .u64 ((64 * k:Nat):Int)]))=true:=kr;exact .evalV 100000 (List.all_eq_true.1 h k (List.mem_range.2 om)) (λx hx=>by
  simp only[qJ,qH,or_false]at hx;rcases hx with rfl|rfl<;>exact .int _ _)
theorem zu9(k:Nat)(hk:k<=64):IntKind.u64.wrap ((64 * k:Nat):Int)=((64 * k:Nat):Int):=by have h:((List.range 65).all λk=>decide (IntKind.u64.wrap ((64 * k:Nat):Int)=((64 * k:Nat):Int)))=true:=kr;grind
theorem zhB(n k:Nat)(hn:n=64 * k)(hk:1<=k/\k<=64)(H:za):CallOk qB 132 [.slice [.int .u8 128] 1 true,.int .i64 (n:Int)] H (.slice (bs (qA n 128)) n false) H:=by
 have mu:∀ K,CallOk qB 216 [.int .u64 1,.int .u64 (n:Int)] K (.tup [.int .u64 0,.int .u64 (n:Int)]) K:=λK=>by rw[hn];exact zxz k hk.2 K
 have hz:(qA n [PV.int .u8 0]).flatten=bs (qA n 0):=zbl n;have u1:IntKind.u64.wrap (n:Int)=(n:Int):=by rw[hn];exact zu9 k hk.2
 have u2:IntKind.u64.wrap 1=1:=rfl;have hnb:1<=n/\n<=4096:=om;clear hn;refine .go Tryz.func132 Tryz.ntmps132 Tryz.results132 ?_;refine .e ?_;refine .e ?_;refine .us ?_;refine .m (nq2 u1 u2) mu ?_;(repeat refine .seq ?_);refine .rgv (P:=qB) [0,6] 26 (.bool false) ?_ ?_ ?_
 .rfl
 .simp(disch:=omega) only[go_sem];(repeat'((refine zg ?_ ?_)<;>intro h<;>(try simp only[nqb]at h)<;>simp(disch:=omega) only[go_sem,h]));all_goals(simp_all[slot,qO])
 refine .us ?_;refine .e ?_;rw[hz];have mn:min 1 n=1:=om;refine .f (λK k=>by simp(disch:=omega) only[go_sem,zd,qI,mn];exact k) ?_;refine .l ?_;suffices hloop:∀ k:Nat,1<=k->k<=n->PL qB _ _ [(7,.msl H.length 0 0 n 1 true),(8,.int .i64 (k:Int))] (H++[⟨5,0,bs (rpk n k)⟩]) _ by refine .at [7,8] (hloop 1 om om) rfl ?_;simp_all[zW,rpk,bs,List.replicate_succ]
 intro k hk1 hkn;induction hm:n - k using Nat.strongRecOn generalizing k with
 | _ d ih=>
  have hl:=znn hkn;refine .round ?_;refine .e ?_;refine .c (λh=> ?_) (λh=> ?_)
  .have h4:k<n:=by simp_all
   refine .skip ?_;refine .b ?_;(repeat refine .seq ?_);refine .draw mix kr λK hK=> ?_;simp(disch:=omega) only[go_sem,zd,hl];refine hK _ _ ?_;clear hK K;have hm1:min (k - 0) (n - k)=min k (n - k):=by rfl
   rw[hm1,Nat.sub_zero];have e1:(k:Int)+((min k (n - k):Nat):Int)=((k+min k (n - k):Nat):Int):=om;rw[e1];have e2:qE k (bs (rpk n k))=bs (qA k 128):=by simp_all[zbm,rpk,qX,qN]
   have e3:qE (min k (n - k)) (bs (qA k (128:UInt8)))=bs (qA (min k (n - k)) 128):=by simp_all[zbm,jD]
   have e4:qF (k+(bs (qA (min k (n - k)) (128:UInt8))).length) (bs (rpk n k))=bs (qA (n - (k+min k (n - k))) 0):=by rw[zd,qI,zbV];congr 1;simp_all[rpk,List.drop_append,qI,qP,qR,jE];omega
   rw[e2,e3,e4];have e5:bs (qA k 128)++(bs (qA (min k (n - k)) 128)++bs (qA (n - (k+min k (n - k))) 0))=bs (rpk n (k+min k (n - k))):=by rw[<-zR,<-zR];unfold rpk;rw[<-qL,qV]
   rw[e5];exact .at [7,8] (ih (n - (k+min k (n - k))) om (k+min k (n - k)) om om rfl) rfl rfl
  .have h4:k=n:=by grind
   subst h4;refine .exit ?_;rw[zno];refine .e ?_;refine .ret ⟨_,rfl,?_⟩;exact .base (Fz.mslC (e:=5) (xs:=bs (qA k 128)) om (hp0 _ _ _) (by simp[zd]) (FzC.refl (zh _ _)))
theorem nAB{A B:Nat}(hA:1<=A/\A<=4)(hB:1<=B/\B<=4):1<=A * B/\A * B<=16:=⟨Nat.mul_pos om om,Nat.mul_le_mul hA.2 hB.2⟩
theorem zrU(A B:Nat)(hA:1<=A/\A<=4)(hB:1<=B/\B<=4)(H:za):CallOk qB 74 [.int .i64 ((16 * A:Nat):Int),.int .i64 ((16 * B:Nat):Int),.int .u8 128,.int .u8 128,.int .u8 128] H (.tup [.agg (fmc (flt A B)),.int .i64 0]) H:=by
 have fz:=λK=>zjW ((16 * A:Nat):Int) ((16 * B:Nat):Int) K;have hfs:fsz ((16 * A:Nat):Int) ((16 * B:Nat):Int)=true:=by simp_all[fsz,qD];omega
 rw[hfs]at fz;have nb:=nAB hA hB;have p1:16 * A * (16 * B)=64 * (4 * (A * B)):=by grind
 have p2:8 * A * (8 * B)=64 * (A * B):=by grind
 have r1:=λK=>zhB (16 * A * (16 * B)) _ p1 om K;have r2:=λK=>zhB (8 * A * (8 * B)) _ p2 om K;rw[zuX];have b1:16 * A * (16 * B)<=4096:=om;have b2:8 * A * (8 * B)<=4096:=om;have m1:((16 * A:Nat):Int) * ((16 * B:Nat):Int)=((16 * A * (16 * B):Nat):Int):=(qZ _ _).symm;have m2:((8 * A:Nat):Int) * ((8 * B:Nat):Int)=((8 * A * (8 * B):Nat):Int):=(qZ _ _).symm;have d1:((16 * A:Nat):Int).tdiv 2=((8 * A:Nat):Int):=by grind
 have d2:((16 * B:Nat):Int).tdiv 2=((8 * B:Nat):Int):=by grind
 generalize 16 * A * (16 * B)=n1 at r1 m1 b1 p1 |-;generalize 8 * A * (8 * B)=n2 at r2 m2 b2 p2 |-;generalize qA n1 (128:UInt8)=P at r1 |-;generalize qA n2 (128:UInt8)=Q at r2 |-;refine .go Tryz.func74 Tryz.ntmps74 Tryz.results74 ?_;refine .e ?_;refine .k fz ?_;refine .us ?_;refine .g (nq2 d1 (nq2 d2 (nq2 m1 m2))) ?_;refine .f (λK k=>by simp(disch:=omega) only[go_sem];refine VCx.call (r1 _) rfl ?_;simp(disch:=omega) only[go_sem];refine VCx.call (r2 _) rfl ?_;simp(disch:=omega) only[go_sem];refine VCx.call (r2 _) rfl ?_;simp(disch:=omega) only[go_sem];exact k) ?_;refine .v (.tup [.agg [.int .i64 ((16 * A:Nat):Int),.int .i64 ((16 * B:Nat):Int),.slice (bs P) n1 false,.slice (bs Q) n2 false,.slice (bs Q) n2 false],.int .i64 0]) ?_;exact .base (.id (zC _ _ _ _ _ _ _ _ _ _))
theorem zmZ(w h:Int)(N1 N2:Nat)(hw:0<=w/\w<=64)(hh:0<=h/\h<=64)(m1:w * h=(N1:Int))(m2:w / 2 * (h / 2)=(N2:Int))(hN:1<=N1/\N1<=4096/\1<=N2/\N2<=4096)(K0:za):CallOk qB 97 [.int .i64 w,.int .i64 h] (K0++[plc,plc,plc]) (.agg [.int .i64 w,.int .i64 h,.msl K0.length 1 0 N1 1 true,.msl (K0.length+1) 1 0 N2 1 true,.msl (K0.length+2) 1 0 N2 1 true]) (K0++[zBk N1,zBk N2,zBk N2]):=by
 have d1:w.tdiv 2=w / 2:=zE _ _ om;have d2:h.tdiv 2=h / 2:=zE _ _ om;have z1:(qA N1 [PV.int .u8 0]).flatten=bs (qA N1 0):=zbl N1;have z2:(qA N2 [PV.int .u8 0]).flatten=bs (qA N2 0):=zbl N2;refine .go Tryz.func97 Tryz.ntmps97 Tryz.results97 ?_;refine .f (λK k=>by simp(disch:=omega) only[go_sem,plc];exact k) ?_;(repeat refine .seq ?_);refine .drawi [K0.length,K0.length+1,K0.length+2,K0.length+3] [(4,[3]),(10,[0]),(16,[1]),(22,[2])] [(10,0),(16,1),(22,2)] [] mix kr (by simp<;>omega) λK hK=> ?_;simp(disch:=omega) only[go_sem,zD,plc,d1,d2,m1,m2];refine hK _ _ ?_;clear hK K;rw[z1,z2];refine .v (.agg [.int .i64 w,.int .i64 h,.msl K0.length 1 0 N1 1 true,.msl (K0.length+1) 1 0 N2 1 true,.msl (K0.length+2) 1 0 N2 1 true]) ?_;refine .cut (A:=K0++[zBk N1,zBk N2,zBk N2]) (qL _ [_,_,_] [_]).symm sp (zo0 sp λb hb x hx=> ?_) (.id (zq λx hx=> ?_))
 .simp only[qJ,qH,or_false]at hb;rcases hb with rfl|rfl|rfl<;>exact zh _ _ x hx
 .simp only[qJ,qH,or_false]at hx;rcases hx with rfl|rfl|rfl|rfl|rfl
  .exact .int _ _
  .exact .int _ _
  .exact .msl (by simp only[qG,qK,qM];omega)
  .exact .msl (by simp only[qG,qK,qM];omega)
  .exact .msl (by simp only[qG,qK,qM];omega)
theorem zo6(A B:Nat)(hA:1<=A/\A<=4)(hB:1<=B/\B<=4)(H:za):CallOk qB 50 [.int .i64 ((16 * A:Nat):Int),.int .i64 ((16 * B:Nat):Int),.int .u8 128,.int .u8 128,.int .u8 128] H (.agg (fmc (flt A B))) H:=by
 have nb:=nAB hA hB;have p1:16 * A * (16 * B)=64 * (4 * (A * B)):=by grind
 have p2:8 * A * (8 * B)=64 * (A * B):=by grind
 have b1:1<=16 * A * (16 * B)/\16 * A * (16 * B)<=4096:=om;have b2:1<=8 * A * (8 * B)/\8 * A * (8 * B)<=4096:=om;have m1:((16 * A:Nat):Int) * ((16 * B:Nat):Int)=((16 * A * (16 * B):Nat):Int):=(qZ _ _).symm;have d1:((16 * A:Nat):Int) / 2=((8 * A:Nat):Int):=om;have d2:((16 * B:Nat):Int) / 2=((8 * B:Nat):Int):=om;have m2:((16 * A:Nat):Int) / 2 * (((16 * B:Nat):Int) / 2)=((8 * A * (8 * B):Nat):Int):=by grind
 have bl:=zmZ ((16 * A:Nat):Int) ((16 * B:Nat):Int) _ _ om om m1 m2 om (H++[⟨30,0,[PV.int .i64 0,PV.int .i64 0,PV.slice [] 0 true,PV.slice [] 0 true,PV.slice [] 0 true]⟩]);rw[zuX];generalize 16 * A * (16 * B)=N1 at bl b1 |-;generalize 8 * A * (8 * B)=N2 at bl b2 |-;clear p1 p2 m1 m2 d1 d2;rw[zi3 N1 (λ_=>128),zi3 N2 (λ_=>128)]at bl;simp only[plc,hl1,qL,qW,qR,qU,qS]at bl;rw[<-zj0,<-zj0,<-zep,<-zep];have fs:=fun(N k:Nat)=>zgW (N:=N) (f:=λ_=>128) (n:=k) (by decide);have fl:=λN k=>zgX N (λ_=>128) k;generalize hw:((16 * A:Nat):Int)=w at bl |-;generalize hh:((16 * B:Nat):Int)=ht at bl |-;refine .body (F0:=[(0,.int .i64 w),(1,.int .i64 ht),(2,.int .u8 128),(3,.int .u8 128),(4,.int .u8 128)]) Tryz.func50 rfl Tryz.ntmps50 Tryz.results50 rfl kr rfl ?_;refine .e ?_;refine .view (Vs.place 5) ?_;refine .view (Vs.place 5) ?_;refine .view (Vs.place 5) ?_;refine .f (λK k=>by simp(disch:=omega) only[go_sem];refine VCx.call (bl) rfl ?_;simp(disch:=omega) only[go_sem];exact k) ?_;refine .e ?_;refine .l ?_;suffices h1:∀ k:Nat,k<=N1->PL qB _ _ [(2,.int .u8 128),(3,.int .u8 128),(4,.int .u8 128),(10,.ptr H.length 0 0),(11,.ptr (H.length+4) 0 0),(12,.int .i64 (k:Int))] (H++[⟨30,0,[PV.int .i64 0,PV.int .i64 0,PV.slice [] 0 true,PV.slice [] 0 true,PV.slice [] 0 true]⟩,⟨5,1,bs (flB N1 (λ_=>128) k)⟩,⟨5,1,bs (flB N2 (λ_=>128) 0)⟩,⟨5,1,bs (flB N2 (λ_=>128) 0)⟩,⟨30,0,[.int .i64 w,.int .i64 ht,.msl (H.length+1) 1 0 N1 1 true,.msl (H.length+2) 1 0 N2 1 true,.msl (H.length+3) 1 0 N2 1 true]⟩]) _ by exact .at [2,3,4,10,11,12] (h1 0 om) rfl rfl
 refine cnt N1 (λk hk ih=> ?_) ?_
 .have ct:=zc4 hk;refine .round ?_;refine .g ct ?_;refine .t ?_;refine .skip ?_;refine .b ?_;refine .f (λK k=>by simp(disch:=omega) only[go_sem,zd,fl,fs];exact k) ?_;refine .e ?_;exact .at [2,3,4,10,11,12] ih rfl rfl
 refine .round ?_;refine .f (λK k=>by simp(disch:=omega) only[go_sem,zdK N1];exact k) ?_;refine .u ?_;refine .exit ?_;refine .e ?_;refine .l ?_;suffices h1:∀ k:Nat,k<=N2->PL qB _ _ [(3,.int .u8 128),(4,.int .u8 128),(10,.ptr H.length 0 0),(11,.ptr (H.length+4) 0 0),(13,.int .i64 (k:Int))] (H++[⟨30,0,[PV.int .i64 0,PV.int .i64 0,PV.slice [] 0 true,PV.slice [] 0 true,PV.slice [] 0 true]⟩,⟨5,1,bs (flB N1 (λ_=>128) N1)⟩,⟨5,1,bs (flB N2 (λ_=>128) k)⟩,⟨5,1,bs (flB N2 (λ_=>128) k)⟩,⟨30,0,[.int .i64 w,.int .i64 ht,.msl (H.length+1) 1 0 N1 1 true,.msl (H.length+2) 1 0 N2 1 true,.msl (H.length+3) 1 0 N2 1 true]⟩]) _ by exact .at [3,4,10,11,13] (h1 0 om) rfl rfl
 refine cnt N2 (λk hk ih=> ?_) ?_
 .have ct:=zc4 hk;refine .round ?_;refine .g ct ?_;refine .t ?_;refine .skip ?_;refine .b ?_;(repeat refine .seq ?_);refine .drawi [H.length+2,H.length+3] [(37,[0]),(44,[0]),(40,[1]),(45,[1])] [] [] mix kr (by simp<;>omega) λK hK=> ?_;simp(disch:=omega) only[go_sem,zD,zd,fl,fs];refine hK _ _ ?_;clear hK K;refine .e ?_;exact .at [3,4,10,11,13] ih rfl rfl
 refine .round ?_;refine .f (λK k=>by simp(disch:=omega) only[go_sem,zdK N2];exact k) ?_;refine .u ?_;refine .exit ?_;refine .e ?_;refine .v (.agg [.int .i64 w,.int .i64 ht,.msl (H.length+1) 1 0 N1 1 true,.msl (H.length+2) 1 0 N2 1 true,.msl (H.length+3) 1 0 N2 1 true]) ?_;refine .base (Fz.aggC ⟨.id (.int _ _),.id (.int _ _),Fz.mslC (e:=5) (xs:=bs (flB N1 (λ_=>128) N1)) om (apn _ _ 1) (by rw[zd,fl];omega) (FzC.refl (zh _ _)),Fz.mslC (e:=5) (xs:=bs (flB N2 (λ_=>128) N2)) om (apn _ _ 2) (by rw[zd,fl];omega) (FzC.refl (zh _ _)),Fz.mslC (e:=5) (xs:=bs (flB N2 (λ_=>128) N2)) om (apn _ _ 3) (by rw[zd,fl];omega) (FzC.refl (zh _ _)),trivial⟩)
theorem zqw{s:Sq}{p:Pi}(hv:zP s p=true):∃ A B:Nat,(1<=A/\A<=4)/\(1<=B/\B<=4)/\s.w=((16 * A:Nat):Int)/\hgt s p=((16 * B:Nat):Int)/\zaq s p=(B:Int)/\(p.st=3->s.h=((16 * B:Nat):Int))/\(p.st≠3->s.h=((32 * B:Nat):Int)/\s.il=true)/\(1<=p.st/\p.st<=3)/\(1<=p.ty/\p.ty<=3):=by
 have hr:=zaC hv;have hv':=hv;unfold zP at hv;simp only[qD,Bool.or_eq_true,beq_iff_eq]at hv;obtain⟨⟨hq,hc⟩,hi⟩:=hv;unfold zcT vsz mbs at hq;simp only[qD,Bool.or_eq_true,beq_iff_eq,decide_eq_true_eq,Bool.not_eq_true']at hq;unfold zpb at hc;simp only[qD,decide_eq_true_eq]at hc;have h1:s.w%16=0:=by grind
 have h2:s.h%16=0:=by grind
 have h3:s.il=true->s.h%32=0:=λe=>by grind
 have e1:s.h.tdiv 16=s.h / 16:=zE _ _ om;have e2:s.h.tdiv 32=s.h / 32:=zE _ _ om;have e3:s.h.tdiv 2=s.h / 2:=zE _ _ om;have hst:p.st≠3->s.il=true:=λh=>by simp_all
 by_cases h:p.st=3
 .refine⟨(s.w / 16).toNat,(s.h / 16).toNat,om,om,om,?_,?_,λ_=>om,λh'=>absurd h h',om,om⟩;all_goals grind[hgt,zaq]
 .have h32:=h3 (hst h);refine⟨(s.w / 16).toNat,(s.h / 32).toNat,om,om,om,?_,?_,λh'=>absurd h' h,λ_=>⟨om,hst h⟩,om,om⟩;all_goals grind[hgt,zaq]
def mOr(f:Fm)(w h:Int):Bool:=decide (f.w=0)||(fmd f&&(decide (f.w=w)&&decide (f.h=h)))
theorem zmE(f:Fm)(w h:Int)(H:za):CallOk qB 73 [.agg (fmc f),.int .i64 w,.int .i64 h] H (.bool (mOr f w h)) H:=by have fo:=λK=>za5 f K;unfold mOr;generalize fmd f=b at fo |-;obtain⟨fw,fh,y,u,v⟩:=f;simp only[fmc]at fo |-;refine .body (F0:=[(0,.agg [.int .i64 fw,.int .i64 fh,.slice (bs y) y.length false,.slice (bs u) u.length false,.slice (bs v) v.length false]),(1,.int .i64 w),(2,.int .i64 h)]) Tryz.func73 rfl Tryz.ntmps73 Tryz.results73 rfl kr rfl ?_;refine .e ?_;(repeat refine .seq ?_);refine .rg rfl λK hK=> ?_;simp(disch:=omega) only[go_sem];(repeat'(first|((refine zg ?_ ?_)<;>intro h<;>(try simp only[nqb]at h)<;>simp(disch:=omega) only[go_sem,h])|((refine VCx.call (fo _) rfl ?_);simp(disch:=omega) only[go_sem])));all_goals(refine hK _ _ ?_;clear hK;(refine .ret ⟨_,rfl,?_⟩;refine .base (.id' ?_ (.bool _)));(simp_all[slot,qO]<;>rfl))
def zgz(s:Sq)(p:Pi)(pa fu fi:Fm)(b:Bool):Int:=if(zci s p b&&(mOr pa s.w s.h&&(mOr fu s.w s.h&&mOr fi s.w (s.h.tdiv 2))))=true then(if((!decide (p.ty=1)&&decide (pa.w=0))||((decide (p.ty=3)&&decide (fu.w=0))||(decide (p.ty=2)&&(b&&decide (fi.w=0)))))=true then 6 else 0)else 1
theorem zww(s:Sq)(p:Pi)(pa fu fi:Fm)(b:Bool)(hs:SqOk s)(H:za):CallOk qB 32 [.agg (sqc s),.agg (pic p),.agg (fmc pa++(fmc fu++fmc fi)),.bool b] H (.int .i64 (zgz s p pa fu fi b)) H:=by
 have fo:=λK=>znV s p b K hs;have h1:=zah s;have h2:=zax s hs;have h3:=zbD s hs;have h4:=zni s;have h5:(sqc s)[1]? =some (.int .i64 s.h):=rfl;have p6:(pic p).length=6:=rfl;have p7:(pic p).all PV.cell=true:=rfl;have t6:qE 6 (pic p)=pic p:=rfl;have ty:(pic p)[0]? =some (.int .i64 p.ty):=rfl;have rl:(fmc pa++(fmc fu++fmc fi)).length=15:=rfl;have rc:(fmc pa++(fmc fu++fmc fi)).all PV.cell=true:=rfl;have r0:qE 5 (fmc pa++(fmc fu++fmc fi))=fmc pa:=rfl;have r1:qE 5 (qF 5 (fmc pa++(fmc fu++fmc fi)))=fmc fu:=rfl;have r2:qE 5 (qF 10 (fmc pa++(fmc fu++fmc fi)))=fmc fi:=rfl;have w0:(fmc pa++(fmc fu++fmc fi))[0]? =some (.int .i64 pa.w):=rfl;have w1:(fmc pa++(fmc fu++fmc fi))[5]? =some (.int .i64 fu.w):=rfl;have w2:(fmc pa++(fmc fu++fmc fi))[10]? =some (.int .i64 fi.w):=rfl;have m1:=λK=>zmE pa s.w s.h K;have m2:=λK=>zmE fu s.w s.h K;have m3:=λK=>zmE fi s.w (s.h.tdiv 2) K;unfold zgz;generalize hbf:zci s p b=bf at fo |-;generalize mOr pa s.w s.h=b1 at m1 |-;generalize mOr fu s.w s.h=b2 at m2 |-;generalize mOr fi s.w (s.h.tdiv 2)=b3 at m3 |-;refine .go Tryz.func32 Tryz.ntmps32 Tryz.results32 ?_;refine .g (nq2 h1 (nq2 p7 rc)) ?_;refine .m (nq2 h2 (nq2 h3 (nq2 p6 t6))) fo ?_;refine .c (λh=> ?_) (λh=> ?_)
 .have hb:bf=false:=by simpa using h
  subst hb;refine .e ?_;(refine .ret ⟨_,rfl,?_⟩;refine .base (.id' ?_ (.int _ _)));rfl
 have hb:bf=true:=by simpa using h
 subst hb;have wd:IntKind.i64.wrap (s.h.tdiv 2)=s.h.tdiv 2:=by unfold zci at hbf;rw[qD]at hbf;have:=zaC hbf.1;exact zi4 _ _ om
 refine .skip ?_;(repeat refine .seq ?_);refine .rgv (P:=qB) [3,5,6] 42 (.bool (!(b1&&(b2&&b3)))) ?_ ?_ ?_
 .rfl
 .simp(disch:=omega) only[go_sem,h2,h4,h5,rl,r0,r1,r2];(repeat'(first|((refine zg ?_ ?_)<;>intro h<;>(try simp only[nqb]at h)<;>simp(disch:=omega) only[go_sem,h2,h4,h5,rl,r0,r1,r2,wd,h])|((first|refine VCx.call (m1 _) rfl ?_|refine VCx.call (m2 _) rfl ?_|refine VCx.call (m3 _) rfl ?_);simp(disch:=omega) only[go_sem,h2,h4,h5,rl,r0,r1,r2,wd])));all_goals(clear hbf wd m1 m2 m3 fo h1 h2 h3 h4 h5 rl rc r0 r1 r2 w0 w1 w2 p6 p7 t6 ty;(simp_all[slot,qO]))
 refine .c (λh=> ?_) (λh=> ?_)
 .have hb:(b1&&(b2&&b3))=false:=by grind
  rw[hb];refine .e ?_;(refine .ret ⟨_,rfl,?_⟩;refine .base (.id' ?_ (.int _ _)));rfl
 have hb:(b1&&(b2&&b3))=true:=by simp_all
 rw[hb];clear hbf m1 m2 m3 fo hb h wd;refine .skip ?_;(repeat'(first|refine .seq ?_|refine .skip ?_|refine .block ?_|((refine .rg rfl λK hK=> ?_);simp(disch:=omega) only[go_sem,p6,ty,rl,w0,w1,w2])|((refine zg ?_ ?_)<;>intro h<;>(try simp only[nqb]at h)<;>simp(disch:=omega) only[go_sem,p6,ty,rl,w0,w1,w2,h])|(refine hK _ _ ?_;clear hK K)|(refine .cond (t:=_) rfl (λh=> ?_) (λh=> ?_)<;>(try(cases h;done))<;>(try simp only[nqb]at h))));all_goals((refine .ret ⟨_,rfl,?_⟩;refine .base (.id' ?_ (.int _ _)));clear h1 h2 h3 h4 h5 rl rc r0 r1 r2 w0 w1 w2 p6 p7 t6 ty;(simp_all[slot,qO]))
def zcw(s:Sq)(p:Pi)(pa:Fm):Fm:=if pa.w=0 then flt (s.w / 16).toNat (hgt s p / 16).toNat else if p.st=3 then pa else fieldOf pa (p.st - 1)
theorem zjV{s:Sq}{p:Pi}{f:Fm}(hv:zP s p=true)(hf:fmd f=true)(hw:f.w=s.w)(hh:f.h=s.h):fvd f=true/\(p.st≠3->f.h%32=0):=by obtain⟨A,B,a1,b1,ew,eh,er,e3,e4,st,_⟩:=zqw hv;simp_all[fvd,jB,qD];omega
theorem zr0(f:Fm)(s:Int)(hf:fvd f=true)(h32:f.h%32=0)(hs:s=0\/s=1)(L:za):CallOk qB 76 [.agg (fmc f),.int .i64 s] L (.tup [.agg (fmc (fieldOf f s)),.int .i64 0]) L:=by
 obtain⟨w,ht,y,u,v⟩:=f;obtain⟨V,K,rfl,rfl,hok⟩:=zcK hf h32;obtain⟨P,hP,rfl⟩:∃ P:Nat,P<=1/\s=(P:Int):=by
  rcases hs with e|e
  .exact⟨0,om,om⟩
  .exact⟨1,om,om⟩
 have e1:=zat V K P y u v;grind[zh4,fr4]
theorem zwx(s:Sq)(p:Pi)(pa:Fm)(hs:SqOk s)(hv:zP s p=true)(hm:mOr pa s.w s.h=true)(H:za):CallOk qB 33 [.agg (sqc s),.agg (pic p),.agg (fmc pa)] H (.tup [.agg (fmc (zcw s p pa)),.int .i64 0]) H:=by
 have h1:=zah s;have h2:=zax s hs;have h3:=zbD s hs;have h4:=zni s;have p6:(pic p).length=6:=rfl;have p7:(pic p).all PV.cell=true:=rfl;have t6:qE 6 (pic p)=pic p:=rfl;have st:(pic p)[1]? =some (.int .i64 p.st):=rfl;have F5:∀ g:Fm,(fmc g).all PV.cell=true:=λ_=>rfl;have F7:∀ g:Fm,(fmc g).length=5:=λ_=>rfl;have F8:∀ g:Fm,qE 5 (fmc g)=fmc g:=λ_=>rfl;have z9:qF 5 [PV.int .i64 0,PV.int .i64 0,PV.slice [] 0 true,PV.slice [] 0 true,PV.slice [] 0 true]=[]:=rfl;have w0:(fmc pa)[0]? =some (.int .i64 pa.w):=rfl;obtain⟨A,B,a1,b1,ew,eh,er,e3,e4,e5,_⟩:=zqw hv;have ho:=λK=>zrG s p K hs (by have:=zaC hv;omega);refine .go Tryz.func33 Tryz.ntmps33 Tryz.results33 ?_;refine .g (nq2 h1 (nq2 p7 F5)) ?_;refine .b ?_;refine .g (nq2 w0 F7) ?_;refine .c (λh=> ?_) (λh=> ?_)
 .have hz:pa.w=0:=by simpa using h
  have hc:zcw s p pa=flt A B:=by simp_all[zcw]
  rw[hc];rw[eh]at ho;rw[ew]at h4;have fl:=λK=>zrU A B a1 b1 K;generalize flt A B=g at fl |-;(repeat refine .seq ?_);refine .drawi [H.length+3] [(6,[0])] [] [16,17] mix kr (by simp<;>omega) λK hK=> ?_;simp(disch:=omega) only[go_sem,zD,h2,h3,h4,p6,t6];refine VCj.read (λ_ _=>ho _) rfl ?_;refine sqz ?_;refine VCj.read (λ_ _=>fl _) rfl ?_;refine sqx (nq2 F5 (nq2 F7 z9)) ?_;refine hK _ _ ?_;clear hK K;refine .w (.tup [.agg (fmc g),.int .i64 0]) (nq2 F7 F8) ?_;exact .base (.id (zC _ _ _ _ _ _ _ _ _ _))
 have hz:pa.w≠0:=by simpa using h
 have hm2:fmd pa=true/\pa.w=s.w/\pa.h=s.h:=by simp_all[mOr]
 obtain⟨hfv,h32⟩:=zjV hv hm2.1 hm2.2.1 hm2.2.2;have hc:zcw s p pa=if p.st=3 then pa else fieldOf pa (p.st - 1):=if_neg hz
 rw[hc];refine .g (nq2 st p6) ?_;refine .c (λh=> ?_) (λh=> ?_)
 .have h1':p.st=1:=by simpa using h
  rw[if_neg om,h1'];have fl:=λK=>zr0 pa 0 hfv (h32 om) (.inl rfl) K;change ∀ K,CallOk _ _ _ K (.tup [.agg (fmc (fieldOf pa (1 - 1))),_]) K at fl;generalize fieldOf pa (1 - 1)=g at fl |-;refine .m (nq2 F5 (nq2 F7 (nq2 F8 z9))) fl ?_;refine .w (.tup [.agg (fmc g),.int .i64 0]) (nq2 F7 F8) ?_;exact .base (.id (zC _ _ _ _ _ _ _ _ _ _))
 have h1':p.st≠1:=by simpa using h
 refine .g (nq2 st p6) ?_;refine .c (λh=> ?_) (λh=> ?_)
 .have h2':p.st=2:=by simpa using h
  rw[if_neg om,h2'];have fl:=λK=>zr0 pa 1 hfv (h32 om) (.inr rfl) K;change ∀ K,CallOk _ _ _ K (.tup [.agg (fmc (fieldOf pa (2 - 1))),_]) K at fl;generalize fieldOf pa (2 - 1)=g at fl |-;refine .m (nq2 F5 (nq2 F7 (nq2 F8 z9))) fl ?_;refine .w (.tup [.agg (fmc g),.int .i64 0]) (nq2 F7 F8) ?_;exact .base (.id (zC _ _ _ _ _ _ _ _ _ _))
 have h2':p.st≠2:=by simpa using h
 rw[if_pos om];refine .skip ?_;obtain⟨A',B',c1,c2,c3,c4,gw,gh,ly,lu,lv⟩:=zfo hfv;have nb:=nAB (A:=A') (B:=B') ⟨c1,c2⟩ ⟨c3,c4⟩;have q1:16 * A' * (16 * B')=256 * (A' * B'):=by grind
 have q2:8 * A' * (8 * B')=64 * (A' * B'):=by grind
 obtain⟨w,ht,y,u,v⟩:=pa;simp only at ly lu lv;have c1:=λK=>zib y false K om;have c2:=λK=>zib u false K om;have c3:=λK=>zib v false K om;clear hc hm hfv h32 q1 q2 ly lu lv;unfold fmc;(repeat refine .seq ?_);refine .draw mix kr λK hK=> ?_;simp(disch:=omega) only[go_sem];(repeat'(((first|refine VCy.call (c1 _) rfl ?_|refine VCy.call (c2 _) rfl ?_|refine VCy.call (c3 _) rfl ?_);simp(disch:=omega) only[go_sem])));refine hK _ _ ?_;clear hK K;refine .v (.tup [.agg [.int .i64 w,.int .i64 ht,.slice (bs y) y.length false,.slice (bs u) u.length false,.slice (bs v) v.length false],.int .i64 0]) ?_;exact .base (.id (zC _ _ _ _ _ _ _ _ _ _))
structure Cok(s:Sq)(m:Mb):Prop where
 a:s.ia.length=64
 b:s.ie.length=64
 l:m.lv.length=384
section
variable {c:Cx} {s:Sq} {al:Bool} {q:Int} {m:Mb} {pa fu fi:Fm} {X Y:Int}
end
end Go.Proofs.YtdajpjenhcobkaaGreatDoor.Sc
