/-
  Parts of the proof. No condition.
-/
import Derived.Test.YtdajpjenhcobkaaGreatDoorX19
open Bool renaming and_eq_true → qA, eq_iff_iff → qK, false_and → qL
open List renaming take → qD, take_of_length_le → qE, drop → qG, not_mem_nil → qI, mem_cons → qN, getElem?_eq_none → qO
open Nat renaming beq → qF, zero_mul → qH, le_refl → qJ, mul_le_mul → qM, one_mul → qP, mul_le_mul_right → qQ, add_mul → qR
open Go.Proofs.Tryz renaming prog → qB
set_option linter.all false
set_option maxRecDepth 100000
set_option maxHeartbeats 32000000
namespace Go.Proofs.YtdajpjenhcobkaaGreatDoor.Sc
open Pm Ty Go.RowKit
theorem zoB(p:List UInt8)(W R x y vx vy:Int):pxl p W R 0 0 (2 * x+vx) (2 * y+vy)=pxl p W R x y vx vy:=by have e1:(0:Int)+(2 * x+vx) / 2=x+vx / 2:=om;grind[pxl]
theorem zgJ(p:List UInt8)(W R:Nat)(x y:Int)(f:Bool)(H:za)(hp:p.length=W * R)(hW:1<=W/\W<=64)(hR:1<=R/\R<=64):
  CallOk qB 288 [.slice (bs p) p.length f,.int .i64 (W:Int),.int .i64 x,.int .i64 y] H (.int .i64 (smp p W R x y)) H:=by
 have s1:smp p W R x y=byt p (clm y R * W+clm x W).toNat:=rfl;obtain⟨a,ea,la⟩:=zet (i:=x) hW.1;obtain⟨u,eu,lu⟩:=zet (i:=y) hR.1;rw[ea,eu]at s1;have bg:W * R<=64 * 64:=qM om om;have k1:=zlH la lu;have e0:(u:Int) * (W:Int)=((u * W:Nat):Int):=by simp
 have e2:((u * W:Nat):Int)+(a:Int)=((u * W+a:Nat):Int):=om;rw[e0,e2,Int.toNat_natCast]at s1;rw[s1];have r1:=zK p (u * W+a);have hd:((p.length:Nat):Int).tdiv (W:Int)=(R:Int):=by grind[zE,Int.natCast_mul,Int.mul_ediv_cancel_left]
 have c1:(if(if(R:Int) - 1<y then(R:Int) - 1 else y)>0 then(if(R:Int) - 1<y then(R:Int) - 1 else y)else 0)=(u:Int):=by rw[<-eu];unfold clm;omega
 have c2:(if(if(W:Int) - 1<x then(W:Int) - 1 else x)>0 then(if(W:Int) - 1<x then(W:Int) - 1 else x)else 0)=(a:Int):=by rw[<-ea];unfold clm;omega
 refine .go Tryz.func288 Tryz.ntmps288 Tryz.results288 ?_;refine .e ?_;refine .g hd ?_;refine .f (λK k=>by simp(disch:=omega) only[go_sem,c1,c2,e0,e2,zaf,zd];exact k) ?_;(refine .ret ⟨_,rfl,?_⟩;refine .inl ⟨?_,rfl⟩);rfl
theorem zo1(p:List UInt8)(W R:Nat)(a b:Int)(f:Bool)(H:za)(hp:p.length=W * R)(hW:1<=W/\W<=64)(hR:1<=R/\R<=64)(ha: -200<=a/\a<=400/\-200<=b/\b<=400):
  CallOk qB 281 [.slice (bs p) p.length f,.int .i64 (W:Int),.int .i64 a,.int .i64 b] H (.int .u8 (pxl p W R 0 0 a b)) H:=by
 have a1:=zgR a om;have a2:=zgR b om;have s1:=λL=>zgJ p W R (a / 2) (b / 2) f L hp hW hR;have s2:=λL=>zgJ p W R (a / 2+a%2) (b / 2) f L hp hW hR;have s3:=λL=>zgJ p W R (a / 2) (b / 2+b%2) f L hp hW hR;have s4:=λL=>zgJ p W R (a / 2+a%2) (b / 2+b%2) f L hp hW hR;have r1:=zdQ p W R (a / 2) (b / 2);have r2:=zdQ p W R (a / 2+a%2) (b / 2);have r3:=zdQ p W R (a / 2) (b / 2+b%2);have r4:=zdQ p W R (a / 2+a%2) (b / 2+b%2);have hx:a%2=0->smp p W R (a / 2+a%2) (b / 2)=smp p W R (a / 2) (b / 2)/\smp p W R (a / 2+a%2) (b / 2+b%2)=smp p W R (a / 2) (b / 2+b%2):=λh=>by simp_all
 have hy:b%2=0->smp p W R (a / 2) (b / 2+b%2)=smp p W R (a / 2) (b / 2)/\smp p W R (a / 2+a%2) (b / 2+b%2)=smp p W R (a / 2+a%2) (b / 2):=λh=>by simp_all
 have hpx:pxl p W R 0 0 a b=(smp p W R (a / 2) (b / 2)+smp p W R (a / 2+a%2) (b / 2)+smp p W R (a / 2) (b / 2+b%2)+smp p W R (a / 2+a%2) (b / 2+b%2)+2) / 4:=by unfold pxl;simp only[Int.zero_add]
 rw[hpx];generalize smp p W R (a / 2) (b / 2)=S1 at *;generalize smp p W R (a / 2+a%2) (b / 2)=S2 at *;generalize smp p W R (a / 2) (b / 2+b%2)=S3 at *;generalize smp p W R (a / 2+a%2) (b / 2+b%2)=S4 at *;refine .go Tryz.func281 Tryz.ntmps281 Tryz.results281 ?_;refine .e ?_;refine .f (λK k=>by simp(disch:=omega) only[go_sem,zeh];exact k) ?_;refine .g (nq2 a1 a2) ?_;refine .f (λK k=>by simp(disch:=omega) only[go_sem];refine VCx.call (s1 _) rfl ?_;simp(disch:=omega) only[go_sem];refine VCx.call (s2 _) rfl ?_;simp(disch:=omega) only[go_sem];refine VCx.call (s3 _) rfl ?_;simp(disch:=omega) only[go_sem];refine VCx.call (s4 _) rfl ?_;simp(disch:=omega) only[go_sem];exact k) ?_;(repeat refine .seq ?_);refine .rgv (P:=qB) [13] 58 (.bool (decide (a%2=1)&&decide (b%2=1))) ?_ ?_ ?_
 .rfl
 .simp(disch:=omega) only[go_sem];(repeat'((refine zg ?_ ?_)<;>intro h<;>(try simp only[nqb]at h)<;>simp(disch:=omega) only[go_sem,h]));all_goals(clear s1 s2 s3 s4 hx hy hpx a1 a2;(simp_all[slot,qF]<;>rfl))
 refine .c (λh=> ?_) (λh=> ?_)
 .refine .f (λK k=>by simp(disch:=omega) only[go_sem,zns];exact k) ?_;(refine .ret ⟨_,rfl,?_⟩;refine .inl ⟨?_,rfl⟩);rfl
 .have hd:a%2=0\/b%2=0:=by grind
  have td:(S1+S2+S3+S4).tdiv 2=(S1+S2+S3+S4) / 2:=zE _ _ om;have ev:((S1+S2+S3+S4) / 2+1) / 2=(S1+S2+S3+S4+2) / 4:=by omega
  refine .skip ?_;refine .f (λK k=>by simp(disch:=omega) only[go_sem,td,zeh,ev];exact k) ?_;(refine .ret ⟨_,rfl,?_⟩;refine .inl ⟨?_,rfl⟩);rfl
theorem zia(p:List UInt8)(W R w hg:Nat)(x y vx vy:Int)(f:Bool)(H:za)(hp:p.length=W * R)(hW:1<=W/\W<=64)(hR:1<=R/\R<=64)(hw:1<=w/\w<=16)(hgb:hg<=16)(hx:0<=x/\x<=64/\0<=y/\y<=64)(hv: -63<=vx/\vx<=63/\-63<=vy/\vy<=63):
  CallOk qB 252 [.slice (bs p) p.length f,.int .i64 (W:Int),.int .i64 x,.int .i64 y,.int .i64 (w:Int),.int .i64 (hg:Int),.int .i64 vx,.int .i64 vy] H (.slice (bs (prd p W R x y w hg vx vy)) (w * hg) false) H:=by
 have hbig:hg * w<=16 * 16:=qM hgb hw.2;refine .go Tryz.func252 Tryz.ntmps252 Tryz.results252 ?_;refine .e ?_;refine .e ?_;refine .e ?_;(repeat refine .seq ?_);refine .view (Vs.ghost 17 5 1 rfl) ?_;refine .l ?_;suffices h1:∀ j:Nat,j<=hg->PL qB _ _ [(0,.slice (bs p) p.length f),(1,.int .i64 (W:Int)),(2,.int .i64 x),(3,.int .i64 y),(4,.int .i64 (w:Int)),(5,.int .i64 (hg:Int)),(6,.int .i64 vx),(7,.int .i64 vy),(17,.msl H.length (j * w) 0 (j * w) 1 true),(18,.int .i64 (j:Int))] (H++[⟨5,j * w,bs (prk p W R x y w vx vy (j * w))⟩]) _ by exact .at [0,1,2,3,4,5,6,7,17,18] (h1 0 om) (by rw[qH];rfl) (by rw[qH];rfl)
 refine cnt hg (λj hj ih=> ?_) ?_
 .have ct:=zc4 hj;refine .round ?_;refine .g ct ?_;refine .t ?_;refine .skip ?_;refine .b ?_;refine .e ?_;refine .l ?_;suffices h2:∀ i:Nat,i<=w->PL qB _ _ [(0,.slice (bs p) p.length f),(1,.int .i64 (W:Int)),(2,.int .i64 x),(3,.int .i64 y),(4,.int .i64 (w:Int)),(5,.int .i64 (hg:Int)),(6,.int .i64 vx),(7,.int .i64 vy),(17,.msl H.length (j * w+i) 0 (j * w+i) 1 true),(18,.int .i64 (j:Int)),(19,.int .i64 (i:Int))] (H++[⟨5,j * w+i,bs (prk p W R x y w vx vy (j * w+i))⟩]) _ by exact .at [0,1,2,3,4,5,6,7,17,18,19] (h2 0 om) rfl rfl
  refine cnt w (λi hi ih2=> ?_) ?_
  .have ct:=zc4 hi;refine .round ?_;refine .g ct ?_;refine .t ?_;have b2:(j+1) * w<=hg * w:=qQ _ om;rw[qR,qP]at b2;have pl:=zgQ p W R x y w vx vy (j * w+i);have hf:=λL=>zo1 p W R (2 * (x+(i:Int))+vx) (2 * (y+(j:Int))+vy) f L hp hW hR om;rw[zoB]at hf;rw[zkY _ _ _ _ _ _ _ _ _ _ hi]at ih2;have lp:(bs (prk p W R x y w vx vy (j * w+i))++[PV.int .u8 (pxl p W R (x+(i:Int)) (y+(j:Int)) vx vy)]).length=j * w+(i+1):=by simp[zd,pl];omega
   refine .skip ?_;refine .b ?_;refine .f (λK k=>by simp(disch:=omega) only[go_sem,zd,pl];refine VCx.call (hf _) rfl ?_;simp(disch:=omega) only[go_sem,zd,pl];exact k) ?_;refine .e ?_;exact .at [0,1,2,3,4,5,6,7,17,18,19] ih2 (by rw[lp];rfl) (by rw[lp])
  .refine .round ?_;refine .f (λK k=>by simp(disch:=omega) only[go_sem,zdK w];exact k) ?_;refine .u ?_;refine .exit ?_;refine .e ?_;exact .at [0,1,2,3,4,5,6,7,17,18] ih (by rw[qR,qP];rfl) (by rw[qR,qP])
 refine .round ?_;refine .f (λK k=>by simp(disch:=omega) only[go_sem,zdK hg];exact k) ?_;refine .u ?_;refine .exit ?_;have pl:=zgQ p W R x y w vx vy (hg * w);refine .e ?_;rw[<-znt,Nat.mul_comm w hg];refine .ret ⟨_,rfl,?_⟩;exact .base (Fz.mslC (e:=5) (xs:=bs (prk p W R x y w vx vy (hg * w))) om (hp0 _ _ _) (by rw[zd,pl];omega) (FzC.refl (zh _ _)))
theorem zhV(a b:List UInt8)(f g:Bool)(H:za)(hl:a.length=b.length)(ha:a.length<=8192):CallOk qB 178 [.slice (bs a) a.length f,.slice (bs b) b.length g] H (.slice (bs (mnb a b)) a.length false) H:=by
 have ee:mnb a b=rgB a.length (λi=>(byt a i+byt b i+1) / 2):=rfl;have sn:∀ k,bs (rgB (k+1) (λi=>(byt a i+byt b i+1) / 2))=bs (rgB k (λi=>(byt a i+byt b i+1) / 2))++[.int .u8 ((byt a k+byt b k+1) / 2)]:=λk=>by have r1:=zK a k;have r2:=zK b k;grind[zkT,zR,zsn,zcN]
 have ln:∀ k,(rgB k (λi=>(byt a i+byt b i+1) / 2)).length=k:=λk=>zcH _ _;rw[ee];refine .go Tryz.func178 Tryz.ntmps178 Tryz.results178 ?_;refine .e ?_;refine .e ?_;refine .e ?_;(repeat refine .seq ?_);refine .view (Vs.ghost 5 5 1 rfl) ?_;refine .l ?_;suffices h1:∀ k:Nat,k<=a.length->PL qB _ _ [(0,.slice (bs a) a.length f),(1,.slice (bs b) b.length g),(5,.msl H.length k 0 k 1 true),(6,.int .i64 (k:Int))] (H++[⟨5,k,bs (rgB k (λi=>(byt a i+byt b i+1) / 2))⟩]) _ by exact .at [0,1,5,6] (h1 0 om) rfl rfl
 refine cnt a.length (λk hk ih=> ?_) ?_
 .have ct:=zc4 hk;have r1:=zK a k;have r2:=zK b k;rw[sn]at ih;have lk:=ln k;have lp:(bs (rgB k (λi=>(byt a i+byt b i+1) / 2))++[PV.int .u8 ((byt a k+byt b k+1) / 2)]).length=k+1:=by simp[zd,lk]
  generalize bs (rgB k (λi=>(byt a i+byt b i+1) / 2))=Q at *;have lQ:Q.length=k:=by simp_all
  refine .round ?_;refine .g ct ?_;refine .t ?_;refine .skip ?_;refine .b ?_;(repeat refine .seq ?_);refine .drawi [H.length] [(5,[0]),(13,[0]),(29,[0])] [] [] mix kr (by simp<;>omega) λK hK=> ?_;simp(disch:=omega) only[go_sem,zD,zaf,zd,zeh,lQ];refine hK _ _ ?_;clear hK K;refine .e ?_;exact .at [0,1,5,6] ih (by rw[lp];rfl) (by rw[lp])
 refine .round ?_;refine .f (λK k=>by simp(disch:=omega) only[go_sem,zdK a.length];exact k) ?_;refine .u ?_;refine .exit ?_;refine .e ?_;refine .ret ⟨_,rfl,?_⟩;exact .base (Fz.mslC (e:=5) (xs:=bs (rgB a.length (λi=>(byt a i+byt b i+1) / 2))) om (hp0 _ _ _) (by rw[zd,ln];omega) (FzC.refl (zh _ _)))
theorem zlG(a b:Fm)(ha:F16 a)(hb:F16 b)(H:za):CallOk qB 104 [.agg (fmc a),.agg (fmc b)] H (.tup [.agg (fmc (mnF a b)),.int .i64 0]) H:=by
 have fa:=λK=>za1 a K;have fb:=λK=>za1 b K;have va:=ha.fvd;have vb:=hb.fvd;unfold fvd at va vb;rw[qA]at va vb;rw[va.1]at fa;rw[vb.1]at fb;rw[zuN ha];obtain⟨w,ht,y,u,v⟩:=a;obtain⟨w',ht',y',u',v'⟩:=b;obtain⟨hw,hh,l1,l2,l3⟩:=ha;obtain⟨hw',hh',l1',l2',l3'⟩:=hb;simp only at hw hh l1 l2 l3 hw' hh' l1' l2' l3';subst hw hh hw' hh';have m1:=λK=>zhV y y' false false K om om;have m2:=λK=>zhV u u' false false K om om;have m3:=λK=>zhV v v' false false K om om;simp only[fmc,l1,l2,l3,l1',l2',l3']at fa fb m1 m2 m3 |-;refine .body (F0:=[(0,.agg [.int .i64 16,.int .i64 16,.slice (bs y) 256 false,.slice (bs u) 64 false,.slice (bs v) 64 false]),(1,.agg [.int .i64 16,.int .i64 16,.slice (bs y') 256 false,.slice (bs u') 64 false,.slice (bs v') 64 false])]) Tryz.func104 rfl Tryz.ntmps104 Tryz.results104 rfl kr rfl ?_;refine .e ?_;(repeat refine .seq ?_);refine .rgv (P:=qB) [2,3,4] 27 (.bool false) ?_ ?_ ?_
 .rfl
 .simp(disch:=omega) only[go_sem];(repeat'(((first|refine VCx.call (fa _) rfl ?_|refine VCx.call (fb _) rfl ?_);simp(disch:=omega) only[go_sem])));all_goals(simp_all[slot,qF])
 refine .us ?_;(repeat refine .seq ?_);refine .draw mix kr λK hK=> ?_;simp(disch:=omega) only[go_sem];(repeat'(((first|refine VCy.call (m1 _) rfl ?_|refine VCy.call (m2 _) rfl ?_|refine VCy.call (m3 _) rfl ?_);simp(disch:=omega) only[go_sem])));refine hK _ _ ?_;clear hK K;refine .v (.tup [.agg [.int .i64 16,.int .i64 16,.slice (bs (mnb y y')) 256 false,.slice (bs (mnb u u')) 64 false,.slice (bs (mnb v v')) 64 false],.int .i64 0]) ?_;exact .base (.id (zC _ _ _ _ _ _ _ _ _ _))
theorem zfC(a b:List UInt8)(w m:Nat)(f g:Bool)(H:za)(ha:a.length=m * w)(hb:b.length=m * w)(hw:1<=w/\w<=64)(hm:m<=64):CallOk qB 57 [.slice (bs a) a.length f,.slice (bs b) b.length g,.int .i64 (w:Int)] H (.slice (bs (wov a b w m)) (m * (2 * w)) false) H:=by
 have hbig:m * w<=64 * 64:=qM hm hw.2;refine .go Tryz.func57 Tryz.ntmps57 Tryz.results57 ?_;refine .e ?_;refine .e ?_;refine .e ?_;(repeat refine .seq ?_);refine .view (Vs.ghost 7 5 1 rfl) ?_;refine .l ?_;suffices h1:∀ k:Nat,k<=m->PL qB _ _ [(0,.slice (bs a) a.length f),(1,.slice (bs b) b.length g),(2,.int .i64 (w:Int)),(7,.msl H.length (k * (2 * w)) 0 (k * (2 * w)) 1 true),(8,.int .i64 ((k * w:Nat):Int))] (H++[⟨5,k * (2 * w),bs (wov a b w k)⟩]) _ by exact .at [0,1,2,7,8] (h1 0 om) (by rw[qH,qH];rfl) (by rw[qH];rfl)
 refine cnt m (λk hk ih=> ?_) ?_
 .have b1:(k+1) * w<=m * w:=qQ _ om;have b2:(k+1) * w=k * w+w:=by grind
  have ct:decide (((k * w:Nat):Int)<((a.length:Nat):Int))=true:=decide_eq_true om;have e1:((k * w:Nat):Int)+(w:Int)=((k * w+w:Nat):Int):=om;have e3:k * w+w - k * w=w:=om;have ra:=za4 ha hk;have rb:=za4 hb hk;have wl:=zap ha hb k om;have wb:k * (2 * w)<=8192:=by grind
  rw[zhb,zR,zR]at ih;have l1:(bs (wov a b w k)).length=k * (2 * w):=by rw[zd,wl]
  have l2:(bs ((a.drop (k * w)).take w)).length=w:=by rw[zd,ra]
  have l3:(bs ((b.drop (k * w)).take w)).length=w:=by rw[zd,rb]
  have lp:(k+1) * (2 * w)=k * (2 * w)+w+w:=by grind
  have l4:(bs (wov a b w k)++bs ((a.drop (k * w)).take w)).length=k * (2 * w)+w:=by simp_all
  have l5:(bs (wov a b w k)++(bs ((a.drop (k * w)).take w)++bs ((b.drop (k * w)).take w))).length=k * (2 * w)+w+w:=by grind
  refine .round ?_;refine .g ct ?_;refine .t ?_;refine .skip ?_;refine .b ?_;rw[lp,b2]at ih;(repeat refine .seq ?_);refine .drawi [H.length] [(7,[0]),(16,[0]),(23,[0]),(30,[0])] [] [] mix kr (by simp<;>omega) λK hK=> ?_;simp(disch:=omega) only[go_sem,zD,e1,e3,zd,zbV,zbm,l1,l2,l3,ra,rb,wl,l4,l5,Option.toArray_some,Option.toArray_none];refine hK _ _ ?_;clear hK K;refine .g e1 ?_;exact .at [0,1,2,7,8] ih rfl rfl
 have cf:decide (((m * w:Nat):Int)<((a.length:Nat):Int))=false:=decide_eq_false om;refine .round ?_;refine .g cf ?_;refine .u ?_;refine .exit ?_;refine .e ?_;refine .ret ⟨_,rfl,?_⟩;exact .base (Fz.mslC (e:=5) (xs:=bs (wov a b w m)) om (hp0 _ _ _) (by rw[zd,zap ha hb m (qJ _)];omega) (FzC.refl (zh _ _)))
theorem zhX(x y:Int)(H:za):CallOk qB 251 [.agg [.int .i64 x,.int .i64 y]] H (.bool (vrg x y)) H:=by refine .go Tryz.func251 Tryz.ntmps251 Tryz.results251 ?_;(repeat'(first|refine .seq ?_|((refine .rg rfl λK hK=> ?_);simp(disch:=omega) only[go_sem])|((refine zg ?_ ?_)<;>intro h<;>(try simp only[nqb]at h)<;>simp(disch:=omega) only[go_sem,h])|(refine hK _ _ ?_;clear hK K)));all_goals((refine .ret ⟨_,rfl,?_⟩;refine .base (.id' ?_ (.bool _)));(simp_all[vrg,win,slot,qF]<;>omega))
theorem zm8(x:Int):(x.tmod 2 !=0)= !decide (x%2=0):=by grind
theorem zdm(f:Fm)(x y vx vy:Int)(hg:Nat)(hgb:hg=8\/hg=16)(hb: -100000<=x/\x<=100000/\-100000<=y/\y<=100000)(H:za):
  CallOk qB 176 [.agg (fmc f),.int .i64 x,.int .i64 y,.int .i64 16,.int .i64 (hg:Int),.agg [.int .i64 vx,.int .i64 vy]] H (.tup [.agg (fmc (zdW f x y hg vx vy).1),.int .i64 (zdW f x y hg vx vy).2]) H:=by
 have fo:=λK=>za1 f K;have vo:=λK=>zhX vx vy K;generalize hr:zdW f x y hg vx vy=r;obtain⟨w,ht,Y,U,V⟩:=f;by_cases hf:fmd ⟨w,ht,Y,U,V⟩=true;case neg=>
  have hf:fmd ⟨w,ht,Y,U,V⟩=false:=by simp_all
  rw[hf]at fo;rw[zdW,hf,qL,if_neg sp]at hr;simp only[fmc]at fo |-;refine .body (F0:=[(0,.agg [.int .i64 w,.int .i64 ht,.slice (bs Y) Y.length false,.slice (bs U) U.length false,.slice (bs V) V.length false]),(1,.int .i64 x),(2,.int .i64 y),(3,.int .i64 16),(4,.int .i64 (hg:Int)),(5,.agg [.int .i64 vx,.int .i64 vy])]) Tryz.func176 rfl Tryz.ntmps176 Tryz.results176 rfl kr rfl ?_;refine .e ?_;(repeat refine .seq ?_);refine .rgv (P:=qB) [12,13] 62 (.bool true) ?_ ?_ ?_
  .rfl
  .simp(disch:=omega) only[go_sem];(repeat'(((refine VCx.call (fo _) rfl ?_);simp(disch:=omega) only[go_sem])));all_goals(simp_all[slot,qF]<;>(rw[qK];simp;done))
  refine .t ?_;refine .e ?_;refine .v (.tup [.agg [.int .i64 0,.int .i64 0,.slice [] 0 true,.slice [] 0 true,.slice [] 0 true],.int .i64 1]) ?_;rw[<-hr];exact .base (fz0 _ _ _)
 rw[hf]at fo;rw[zdW,hf,Bool.true_and]at hr;obtain⟨A,B,a1,a2,b1,b2,ew,eh,ly,lu,lv⟩:=znR hf;simp only at ew eh ly lu lv;subst ew eh;simp only[fmc]at fo |-;refine .body (F0:=[(0,.agg [.int .i64 ((2 * A:Nat):Int),.int .i64 ((2 * B:Nat):Int),.slice (bs Y) Y.length false,.slice (bs U) U.length false,.slice (bs V) V.length false]),(1,.int .i64 x),(2,.int .i64 y),(3,.int .i64 16),(4,.int .i64 (hg:Int)),(5,.agg [.int .i64 vx,.int .i64 vy])]) Tryz.func176 rfl Tryz.ntmps176 Tryz.results176 rfl kr rfl ?_;refine .e ?_;(repeat refine .seq ?_);refine .rgv (P:=qB) [1,2,3,4,6,11,12,13] 62 (.bool (!(zcS ⟨((2 * A:Nat):Int),((2 * B:Nat):Int),Y,U,V⟩ x y hg))) ?_ ?_ ?_
 .rfl
 .clear hr vo;rcases hgb with rfl|rfl;all_goals(simp(disch:=omega) only[go_sem];(repeat'(first|((refine zg ?_ ?_)<;>intro h<;>(try simp only[nqb]at h)<;>simp(disch:=omega) only[go_sem,zm8,h])|((refine VCx.call (fo _) rfl ?_);simp(disch:=omega) only[go_sem,zm8]))))
  all_goals(clear fo;(simp_all[zcS,slot,qF]<;>(rw[qK];simp;done)))
 refine .c (λh=> ?_) (λh=> ?_)
 .have hp:zcS ⟨((2 * A:Nat):Int),((2 * B:Nat):Int),Y,U,V⟩ x y hg=false:=by simpa using h
  rw[hp,if_neg sp]at hr;refine .e ?_;refine .v (.tup [.agg [.int .i64 0,.int .i64 0,.slice [] 0 true,.slice [] 0 true,.slice [] 0 true],.int .i64 1]) ?_;rw[<-hr];exact .base (fz0 _ _ _)
 have hp:zcS ⟨((2 * A:Nat):Int),((2 * B:Nat):Int),Y,U,V⟩ x y hg=true:=by simpa using h
 rw[hp,if_pos rfl]at hr;refine .skip ?_;refine .k vo ?_;refine .c (λh=> ?_) (λh=> ?_)
 .have hv:vrg vx vy=false:=by simpa using h
  rw[hv,if_neg sp]at hr;refine .e ?_;refine .v (.tup [.agg [.int .i64 0,.int .i64 0,.slice [] 0 true,.slice [] 0 true,.slice [] 0 true],.int .i64 2]) ?_;rw[<-hr];exact .base (fz0 _ _ _)
 have hv:vrg vx vy=true:=by simpa using h
 rw[hv,if_pos rfl]at hr;refine .skip ?_;have hvb: -63<=vx/\vx<=63/\-63<=vy/\vy<=63:=by simp[vrg,win]at hv;omega
 simp only[zcS,qA,decide_eq_true_eq]at hp;obtain⟨p1,p2,p3,p4,p5,p6⟩:=hp;have d1:((2 * A:Nat):Int).tdiv 2=(A:Int):=by simp_all
 have d2:((2 * B:Nat):Int).tdiv 2=(B:Int):=by simp_all
 have d3:x.tdiv 2=x / 2:=zE _ _ om;have d4:y.tdiv 2=y / 2:=zE _ _ om;have d5:(hg:Int).tdiv 2=((hg / 2:Nat):Int):=by rfl
 have d6:(16:Int).tdiv 2=8:=rfl;have t1: -63<=vx.tdiv 2/\vx.tdiv 2<=63:=by grind
 have t2: -63<=vy.tdiv 2/\vy.tdiv 2<=63:=by grind
 have c1:=λK=>zia Y (2 * A) (2 * B) 16 hg x y vx vy false K ly om om om om om hvb;have c2:=λK=>zia U A B 8 (hg / 2) (x / 2) (y / 2) (vx.tdiv 2) (vy.tdiv 2) false K lu om om om om om om;have c3:=λK=>zia V A B 8 (hg / 2) (x / 2) (y / 2) (vx.tdiv 2) (vy.tdiv 2) false K lv om om om om om om;have q1:(prdF ⟨((2 * A:Nat):Int),((2 * B:Nat):Int),Y,U,V⟩ x y hg vx vy).y=prd Y ((2 * A:Nat):Int) ((2 * B:Nat):Int) x y 16 hg vx vy:=rfl;have dA:((2 * A:Nat):Int) / 2=(A:Int):=om;have dB:((2 * B:Nat):Int) / 2=(B:Int):=om;have q2:(prdF ⟨((2 * A:Nat):Int),((2 * B:Nat):Int),Y,U,V⟩ x y hg vx vy).u=prd U (A:Int) (B:Int) (x / 2) (y / 2) 8 (hg / 2) (vx.tdiv 2) (vy.tdiv 2):=by show prd U (((2 * A:Nat):Int) / 2) (((2 * B:Nat):Int) / 2) _ _ _ _ _ _=_;rw[dA,dB]
 have q3:(prdF ⟨((2 * A:Nat):Int),((2 * B:Nat):Int),Y,U,V⟩ x y hg vx vy).v=prd V (A:Int) (B:Int) (x / 2) (y / 2) 8 (hg / 2) (vx.tdiv 2) (vy.tdiv 2):=by show prd V (((2 * A:Nat):Int) / 2) (((2 * B:Nat):Int) / 2) _ _ _ _ _ _=_;rw[dA,dB]
 have hc:=zmf ⟨((2 * A:Nat):Int),((2 * B:Nat):Int),Y,U,V⟩ x y hg vx vy;rw[q1,q2,q3]at hc;generalize prd Y ((2 * A:Nat):Int) ((2 * B:Nat):Int) x y 16 hg vx vy=PY at c1 hc;generalize prd U (A:Int) (B:Int) (x / 2) (y / 2) 8 (hg / 2) (vx.tdiv 2) (vy.tdiv 2)=PU at c2 hc;generalize prd V (A:Int) (B:Int) (x / 2) (y / 2) 8 (hg / 2) (vx.tdiv 2) (vy.tdiv 2)=PV1 at c3 hc;have hcr:fmc r.1=[.int .i64 16,.int .i64 (hg:Int),.slice (bs PY) (16 * hg) false,.slice (bs PU) (8 * (hg / 2)) false,.slice (bs PV1) (8 * (hg / 2)) false]:=by grind
 have hcr2:r.2=0:=by rw[<-hr]
 simp only[fmc]at hcr;rw[hcr,hcr2];clear hr q1 q2 q3 hc hcr;(repeat refine .seq ?_);refine .draw mix kr λK hK=> ?_;simp(disch:=omega) only[go_sem,d1,d2,d3,d4,d5,d6];(repeat'(((first|refine VCy.call (c1 _) rfl ?_|refine VCy.call (c2 _) rfl ?_|refine VCy.call (c3 _) rfl ?_);simp(disch:=omega) only[go_sem,d1,d2,d3,d4,d5,d6])));refine hK _ _ ?_;clear hK K;refine .v (.tup [.agg [.int .i64 16,.int .i64 (hg:Int),.slice (bs PY) (16 * hg) false,.slice (bs PU) (8 * (hg / 2)) false,.slice (bs PV1) (8 * (hg / 2)) false],.int .i64 0]) ?_;exact .base (.id (zC _ _ _ _ _ _ _ _ _ _))
theorem zmO(f:Fm)(s:Int)(hf:fvd f=true)(h32:f.h%32=0)(hs:s=0\/s=1)(L:za):CallOk qB 47 [.agg (fmc f),.int .i64 s] L (.tup [.agg (fmc (fieldOf f s)),.int .i64 0]) L:=by
 obtain⟨w,ht,y,u,v⟩:=f;obtain⟨V,K,rfl,rfl,hok⟩:=zcK hf h32;obtain⟨P,hP,rfl⟩:∃ P:Nat,P<=1/\s=(P:Int):=by
  rcases hs with e|e
  .exact⟨0,om,om⟩
  .exact⟨1,om,om⟩
 have e1:=zat V K P y u v;grind[ziR,fr4]
theorem zfE(V K:Nat)(a b:Fm)(ha:Hok V K a)(hb:Hok V K b)(H:za):CallOk qB 21 [.agg (fmc a),.agg (fmc b)] H (.tup [.agg (fmc (zi6 V K a b)),.int .i64 0]) H:=by
 have fa:=λL=>za1 a L;have fb:=λL=>za1 b L;rw[ha.fmd]at fa;rw[hb.fmd]at fb;obtain⟨w,ht,y,u,v⟩:=a;obtain⟨w',ht',y',u',v'⟩:=b;obtain⟨hw,hh,⟨v1,v2⟩,⟨k1,k2⟩,ly,lu,lv⟩:=ha;obtain⟨hw',hh',_,_,ly',lu',lv'⟩:=hb;simp only at hw hh ly lu lv hw' hh' ly' lu' lv';subst hw hh hw' hh';have w1:=λL=>zfC y y' (2 * V) (2 * K) false false L ly ly' om om;have w2:=λL=>zfC u u' V K false false L lu lu' om om;have w3:=λL=>zfC v v' V K false false L lv lv' om om;have n1:=zap ly ly' (2 * K) (qJ _);have n2:=zap lu lu' K (qJ _);have n3:=zap lv lv' K (qJ _);have d1:((2 * V:Nat):Int).tdiv 2=(V:Int):=by simp_all
 have d2:(2:Int) * ((2 * K:Nat):Int)=((4 * K:Nat):Int):=om;have hr:fmc (zi6 V K ⟨((2 * V:Nat):Int),((2 * K:Nat):Int),y,u,v⟩ ⟨((2 * V:Nat):Int),((2 * K:Nat):Int),y',u',v'⟩)=[.int .i64 ((2 * V:Nat):Int),.int .i64 ((4 * K:Nat):Int),.slice (bs (wov y y' (2 * V) (2 * K))) (2 * K * (2 * (2 * V))) false,.slice (bs (wov u u' V K)) (K * (2 * V)) false,.slice (bs (wov v v' V K)) (K * (2 * V)) false]:=by simp_all[zi6,fmc]
 rw[hr];simp only[fmc]at fa fb |-;refine .body (F0:=[(0,.agg [.int .i64 ((2 * V:Nat):Int),.int .i64 ((2 * K:Nat):Int),.slice (bs y) y.length false,.slice (bs u) u.length false,.slice (bs v) v.length false]),(1,.agg [.int .i64 ((2 * V:Nat):Int),.int .i64 ((2 * K:Nat):Int),.slice (bs y') y'.length false,.slice (bs u') u'.length false,.slice (bs v') v'.length false])]) Tryz.func21 rfl Tryz.ntmps21 Tryz.results21 rfl kr rfl ?_;refine .e ?_;(repeat refine .seq ?_);refine .rgv (P:=qB) [2,3,4] 33 (.bool false) ?_ ?_ ?_
 .rfl
 .clear w1 w2 w3;simp(disch:=omega) only[go_sem];(repeat'(((first|refine VCx.call (fa _) rfl ?_|refine VCx.call (fb _) rfl ?_);simp(disch:=omega) only[go_sem,d2])));all_goals(clear fa fb;(simp_all[slot,qF]))
 refine .us ?_;(repeat refine .seq ?_);refine .draw mix kr λK hK=> ?_;simp(disch:=omega) only[go_sem,d1,d2];(repeat'(((first|refine VCy.call (w1 _) rfl ?_|refine VCy.call (w2 _) rfl ?_|refine VCy.call (w3 _) rfl ?_);simp(disch:=omega) only[go_sem,d1,d2])));refine hK _ _ ?_;clear hK K;refine .v (.tup [.agg [.int .i64 ((2 * V:Nat):Int),.int .i64 ((4 * K:Nat):Int),.slice (bs (wov y y' (2 * V) (2 * K))) (2 * K * (2 * (2 * V))) false,.slice (bs (wov u u' V K)) (K * (2 * V)) false,.slice (bs (wov v v' V K)) (K * (2 * V)) false],.int .i64 0]) ?_;exact .base (.id (zC _ _ _ _ _ _ _ _ _ _))
theorem zmN(f:Fm)(mx my va vb vc vd sa sb:Int)(hsa:sa=0\/sa=1)(hsb:sb=0\/sb=1)(hv1:vrg va vb=true)(hv2:vrg vc vd=true)(H:za):
  CallOk qB 175 [.agg (fmc f),.int .i64 mx,.int .i64 my,.agg [.int .i64 va,.int .i64 vb,.int .i64 vc,.int .i64 vd],.agg [.int .i64 sa,.int .i64 sb]] H (.tup [.agg (fmc (fldS f mx my va vb vc vd sa sb).1),.int .i64 (fldS f mx my va vb vc vd sa sb).2]) H:=by
 have ho:=λL=>zfm f mx my L;generalize hr:fldS f mx my va vb vc vd sa sb=r;by_cases hc:(zbL f mx my&&decide (f.h%32=0))=true;case neg=>
  have hc':(zbL f mx my&&decide (f.h%32=0))=false:=by simp_all
  rw[fldS,if_neg hc]at hr;have hp:zbL f mx my=true->0<=f.h:=λhm=>by simp_all[zbL,qA,zfo];omega
  generalize zbL f mx my=bh at ho hc' hp;clear hc;obtain⟨w,ht,y,u,v⟩:=f;simp only[fmc]at ho hc' hp |-;refine .body (F0:=[(0,.agg [.int .i64 w,.int .i64 ht,.slice (bs y) y.length false,.slice (bs u) u.length false,.slice (bs v) v.length false]),(1,.int .i64 mx),(2,.int .i64 my),(3,.agg [.int .i64 va,.int .i64 vb,.int .i64 vc,.int .i64 vd]),(4,.agg [.int .i64 sa,.int .i64 sb])]) Tryz.func175 rfl Tryz.ntmps175 Tryz.results175 rfl kr rfl ?_;refine .e ?_;(repeat refine .seq ?_);refine .rgv (P:=qB) [10,11] 46 (.bool true) ?_ ?_ ?_
  .rfl
  .clear hr hv1 hv2;cases bh
   .simp(disch:=omega) only[go_sem];(repeat'(((refine VCx.call (ho _) rfl ?_);simp(disch:=omega) only[go_sem])));all_goals(simp_all[slot,qF])
   .have h0:=hp rfl;have hm:(ht.tmod 32 !=0)=true:=by grind
    simp(disch:=omega) only[go_sem];(repeat'(((refine VCx.call (ho _) rfl ?_);simp(disch:=omega) only[go_sem,hm])));all_goals(simp_all[slot,qF])
  refine .t ?_;refine .e ?_;refine .v (.tup [.agg [.int .i64 0,.int .i64 0,.slice [] 0 true,.slice [] 0 true,.slice [] 0 true],.int .i64 1]) ?_;rw[<-hr];exact .base (fz0 _ _ _)
 rw[fldS,if_pos hc]at hr;have hc2:=hc;rw[qA,decide_eq_true_eq]at hc2;obtain⟨hm,h32⟩:=hc2;have ga:=ze3 hm h32 hsa hv1;have gb:=ze3 hm h32 hsb hv2;rw[hm]at ho;simp only[zbL,qA,decide_eq_true_eq]at hm;obtain⟨hf,m1,m2,m3,m4⟩:=hm;have hb:=zfo hf;obtain⟨A0,B0,a1,a2,b1,b2,ew,eh,_⟩:=hb;have hmb:mx<=3/\my<=3:=om;have hm0:(f.h.tmod 32 !=0)=false:=by grind
 have pa:=λL=>zdm (fieldOf f sa) (16 * mx) (8 * my) va vb 8 (.inl rfl) om L;have pb:=λL=>zdm (fieldOf f sb) (16 * mx) (8 * my) vc vd 8 (.inl rfl) om L;rw[ga]at pa;rw[gb]at pb;have w1:=λL=>zfE 8 4 _ _ (ze4 (fieldOf f sa) (16 * mx) (8 * my) va vb) (ze4 (fieldOf f sb) (16 * mx) (8 * my) vc vd) L;have wc:=(zi7 (fieldOf f sa) (fieldOf f sb) (16 * mx) (8 * my) (16 * mx) (8 * my) va vb vc vd).c;simp only[zpt]at w1;have fa:=λL=>zmO f sa hf h32 hsa L;have fb:=λL=>zmO f sb hf h32 hsb L;have ma:=λL=>zhX va vb L;have mb:=λL=>zhX vc vd L;rw[hv1]at ma;rw[hv2]at mb;have hr1:fmc r.1=fmc (wovF (prdF (fieldOf f sa) (16 * mx) (8 * my) 8 va vb) (prdF (fieldOf f sb) (16 * mx) (8 * my) 8 vc vd)):=by rw[<-hr]
 have hr2:r.2=0:=by rw[<-hr]
 rw[hr1,hr2,wc];rw[wc]at w1;simp only[zqC]at pa pb w1;generalize wovF (prdF (fieldOf f sa) (16 * mx) (8 * my) 8 va vb) (prdF (fieldOf f sb) (16 * mx) (8 * my) 8 vc vd)=W at w1 |-;generalize prdF (fieldOf f sa) (16 * mx) (8 * my) 8 va vb=PA at pa w1;generalize prdF (fieldOf f sb) (16 * mx) (8 * my) 8 vc vd=PB at pb w1;generalize fieldOf f sa=FA at fa pa;generalize fieldOf f sb=FB at fb pb;clear hr hr1 hr2 wc ga gb hc hf ew eh;obtain⟨w,ht,y,u,v⟩:=f;obtain⟨aw,ah,ay,au,av⟩:=FA;obtain⟨bw,bh,by',bu,bv⟩:=FB;simp only[fmc]at ho fa fb pa pb h32 m2 m4 hm0 |-;have n1:decide (sa=0)=false->sa=1:=λh=>by simp_all
 have n2:decide (sb=0)=false->sb=1:=λh=>by simp_all
 refine .body (F0:=[(0,.agg [.int .i64 w,.int .i64 ht,.slice (bs y) y.length false,.slice (bs u) u.length false,.slice (bs v) v.length false]),(1,.int .i64 mx),(2,.int .i64 my),(3,.agg [.int .i64 va,.int .i64 vb,.int .i64 vc,.int .i64 vd]),(4,.agg [.int .i64 sa,.int .i64 sb])]) Tryz.func175 rfl Tryz.ntmps175 Tryz.results175 rfl kr rfl ?_;refine .e ?_;(repeat refine .seq ?_);refine .rgv (P:=qB) [1,2,5,8,9,10,11] 46 (.bool false) ?_ ?_ ?_
 .rfl
 .clear fa fb pa pb w1 ma mb;simp(disch:=omega) only[go_sem];(repeat'(first|((refine zg ?_ ?_)<;>intro h<;>(try simp only[nqb]at h)<;>simp(disch:=omega) only[go_sem,hm0,h])|((refine VCx.call (ho _) rfl ?_);simp(disch:=omega) only[go_sem,hm0])));all_goals(clear ho;rcases hsa with rfl|rfl<;>rcases hsb with rfl|rfl<;>simp_all[slot,qF])
 refine .us ?_;(repeat refine .seq ?_);refine .rgv (P:=qB) [1,2,5,8,9,10,11] 57 (.bool false) ?_ ?_ ?_
 .rfl
 .clear fa fb pa pb w1 ho;simp(disch:=omega) only[go_sem];(repeat'(((first|refine VCx.call (ma _) rfl ?_|refine VCx.call (mb _) rfl ?_);simp(disch:=omega) only[go_sem])));all_goals(simp_all[slot,qF])
 refine .us ?_;refine .k fa ?_;refine .k fb ?_;refine .k pa ?_;refine .k pb ?_;refine .k w1 ?_;refine .v (.tup [.agg [.int .i64 16,.int .i64 16,.slice (bs W.y) 256 false,.slice (bs W.u) 64 false,.slice (bs W.v) 64 false],.int .i64 0]) ?_;exact .base (.id (zC _ _ _ _ _ _ _ _ _ _))
def t16(n:Int):Int:=if n<0\/n>1000 then -1 else 16 * n
theorem znf(n:Int)(H:za):CallOk qB 177 [.int .i64 n] H (.int .i64 (t16 n)) H:=by unfold t16;refine .go Tryz.func177 Tryz.ntmps177 Tryz.results177 ?_;(repeat'(first|refine .seq ?_|refine .skip ?_|((refine .rg rfl λK hK=> ?_);simp(disch:=omega) only[go_sem])|((refine zg ?_ ?_)<;>intro h<;>(try simp only[nqb]at h)<;>simp(disch:=omega) only[go_sem,h])|(refine hK _ _ ?_;clear hK K)|(refine .cond (t:=_) rfl (λh=> ?_) (λh=> ?_)<;>(try(cases h;done))<;>(try simp only[nqb]at h))));all_goals((refine .ret ⟨_,rfl,?_⟩;refine .inl ⟨?_,rfl⟩);(simp_all[slot,qF]<;>omega))
theorem zvO(f:Fm)(mx my vx vy:Int):zdW f (t16 mx) (t16 my) 16 vx vy=prdS f mx my vx vy:=by
 unfold zdW prdS;by_cases hf:fmd f=true
 .have hb:f.w<=64/\f.h<=64:=by unfold fmd at hf;rw[qA]at hf;have:=zbc hf.1;omega
  by_cases hc:0<=mx/\16 * mx+16<=f.w/\0<=my/\16 * my+16<=f.h
  .have e1:t16 mx=16 * mx:=if_neg om;have e2:t16 my=16 * my:=if_neg om;have h1:zcS f (16 * mx) (16 * my) ((16:Nat):Int)=true:=by simp only[zcS,qA,decide_eq_true_eq];omega
   have h2:(fmd f&&(decide (0<=mx)&&(decide (16 * mx+16<=f.w)&&(decide (0<=my)&&decide (16 * my+16<=f.h)))))=true:=by simp only[hf,Bool.true_and,qA,decide_eq_true_eq];exact hc
   rw[e1,e2,if_pos h2,hf,h1,if_pos (by rfl)]
  .have h1:zcS f (t16 mx) (t16 my) ((16:Nat):Int)=false:=by
    rw[Bool.eq_false_iff];intro h;simp only[zcS,qA,decide_eq_true_eq]at h;obtain⟨q1,q2,q3,q4,q5,q6⟩:=h;have hx:t16 mx=16 * mx\/t16 mx= -1:=by unfold t16;split<;>simp
    have hy:t16 my=16 * my\/t16 my= -1:=by unfold t16;split<;>simp
    apply hc;rcases hx with e|e<;>rcases hy with e'|e'<;>omega
   have h2:¬(fmd f&&(decide (0<=mx)&&(decide (16 * mx+16<=f.w)&&(decide (0<=my)&&decide (16 * my+16<=f.h)))))=true:=by simp only[qA,decide_eq_true_eq];omega
   rw[h1,Bool.and_false,if_neg sp,if_neg h2]
 .have hf':fmd f=false:=by simpa using hf
  rw[hf',qL,qL];rfl
theorem zpU(n:Int): -1<=t16 n/\t16 n<=16000:=by unfold t16;split<;>omega
def mbP(c:Cx)(m:Mb):Mb:=if m.k=0 then stl c else m
theorem zuo{m:Mb}(h:zmb m=true)(c:Cx)(d:Nat):m.fp=(stl c).fp/\v1 m d=v1 (stl c) d/\v2 m d=v2 (stl c) d/\m.fp=false:=by unfold zmb zA at h;obtain⟨k,ua,ub,fp,fd,va,vb,vc,vd,ve,vf,vg,vh,sa,sb,sc,sd,dl,ca,cb,cc,cd,ce,cf,lv⟩:=m;simp only[qA,beq_iff_eq]at h;unfold v1 v2 stl;dsimp only;simp_all
theorem zio(c:Cx)(m:Mb)(pa fu fi:Fm)(d:Nat)(hd:d<2)(mx my:Int)(hml:m.lv.length=384)(hf:fmS c m=true)(hu:us (mbP c m) d=true)(hk1:m.k≠1)(H:za):
  CallOk qB 103 [.agg (cxc c),.agg (fmc pa++(fmc fu++fmc fi)),.agg (mbc m),.int .i64 (d:Int),.int .i64 mx,.int .i64 my] H (.tup [.agg (fmc (zcE c (mbP c m) pa fu fi d mx my).1),.int .i64 (zcE c (mbP c m) pa fu fi d mx my).2]) H:=by
 have e4:=zbs m hml;have m2:=zbJ m;have m3:(mbc m)[0]? =some (.int .i64 m.k):=rfl;have efp:(mbc m)[3]? =some (.bool m.fp):=rfl;have es:(mbc m)[13+d * 2]? =some (.int .i64 (s1 m d)):=by have:d=0\/d=1:=om;rcases this with rfl|rfl<;>rfl
 have ess:qD 2 (qG (13+d * 2) (mbc m))=[.int .i64 (s1 m d),.int .i64 (s2 m d)]:=by have:d=0\/d=1:=om;rcases this with rfl|rfl<;>rfl
 have ev4:qD 4 (qG (5+d * 4) (mbc m))=[.int .i64 (v1 m d),.int .i64 (v2 m d),.int .i64 (v3 m d),.int .i64 (v4 m d)]:=by have:d=0\/d=1:=om;rcases this with rfl|rfl<;>rfl
 have ev2:qD 2 (qG (5+d * 4) (mbc m))=[.int .i64 (v1 m d),.int .i64 (v2 m d)]:=by have:d=0\/d=1:=om;rcases this with rfl|rfl<;>rfl
 have cl:(cxc c).length=4:=rfl;have cc:(cxc c).all PV.cell=true:=rfl;have ct4:qD 4 (cxc c)=cxc c:=rfl;have rl:(fmc pa++(fmc fu++fmc fi)).length=15:=rfl;have rc:(fmc pa++(fmc fu++fmc fi)).all PV.cell=true:=rfl;have rt:qD 15 (fmc pa++(fmc fu++fmc fi))=fmc pa++(fmc fu++fmc fi):=rfl;have hkk:m.k=0\/m.k=2:=by rcases zo5 hf with h|h|h<;>omega
 have hD:zcE c (mbP c m) pa fu fi d mx my=dirP c (mbP c m).fp (v1 (mbP c m) d) (v2 (mbP c m) d) (v3 (mbP c m) d) (v4 (mbP c m) d) (s1 (mbP c m) d) (s2 (mbP c m) d) pa fu fi (d:Int) mx my:=rfl;obtain⟨S,hS,hS2⟩:∃ S:Int,s1 (mbP c m) d=S/\(if m.k=0 then pcx c else s1 m d)=S:=by
  refine⟨_,rfl,?_⟩;unfold mbP at hu |-;rcases hkk with h|h
  .rw[if_pos h]at hu |-;rw[if_pos h];unfold us stl at hu;unfold s1 stl;dsimp only at hu |-;by_cases h0:d=0
   .rw[if_pos h0]
   .rw[if_neg h0]at hu;rw[if_neg h0,if_pos (by simpa using hu)]
  .rw[if_neg om,if_neg om]
 obtain⟨hfp,hv1,hv2⟩:(mbP c m).fp=m.fp/\v1 (mbP c m) d=v1 m d/\v2 (mbP c m) d=v2 m d:=by
  unfold mbP;rcases hkk with h|h
  .rw[if_pos h];have hz:zmb m=true:=by unfold fmS at hf;rw[qA,if_pos h,qA]at hf;exact hf.2.2
   obtain⟨q1,q2,q3,_⟩:=zuo hz c d;exact⟨q1.symm,q2.symm,q3.symm⟩
  .rw[if_neg om];exact⟨rfl,rfl,rfl⟩
 have hrest:m.fp=true->mbP c m=m/\s1 m d=S/\(s1 m d=0\/s1 m d=1)/\(s2 m d=0\/s2 m d=1)/\vrg (v1 m d) (v2 m d)=true/\vrg (v3 m d) (v4 m d)=true:=λhp=>by
  have h2:m.k=2:=by
   rcases hkk with h|h
   .have hz:zmb m=true:=by unfold fmS at hf;rw[qA,if_pos h,qA]at hf;exact hf.2.2
    obtain⟨_,_,_,q4⟩:=zuo hz c d;rw[hp]at q4;cases q4
   .exact h
  have hm:mbP c m=m:=if_neg om;rw[hm]at hu hS;exact⟨hm,hS,(zh3 hf h2).1.f d hu hp⟩
 rw[hfp,hv1,hv2,hS]at hD;have rf:=λL=>ziu c pa fu fi (d:Int) S L;have pc:=λL=>zfa c L;unfold dirP at hD;generalize zcE c (mbP c m) pa fu fi d mx my=R at hD |-;generalize refS c pa fu fi (d:Int) S=T at rf hD;obtain⟨g,e⟩:=T;simp only at rf hD;have g5:(fmc g).all PV.cell=true:=rfl;have g7:(fmc g).length=5:=rfl;have g8:qD 5 (fmc g)=fmc g:=rfl;have z9:qG 5 [PV.int .i64 0,PV.int .i64 0,PV.slice [] 0 true,PV.slice [] 0 true,PV.slice [] 0 true]=[]:=rfl;have r5:(fmc R.1).all PV.cell=true:=rfl;have r7:(fmc R.1).length=5:=rfl;have r8:qD 5 (fmc R.1)=fmc R.1:=rfl;refine .go Tryz.func103 Tryz.ntmps103 Tryz.results103 ?_;refine .g (nq2 cc (nq2 rc m2)) ?_;refine .g (nq2 e4 es) ?_;refine .g (nq2 e4 m3) ?_;suffices hrst:PW qB _ _ [(3,.int .i64 (d:Int)),(4,.int .i64 mx),(5,.int .i64 my),(6,.ptr H.length 0 0),(7,.ptr (H.length+1) 0 0),(8,.ptr (H.length+2) 0 0),(12,.ptr (H.length+3) 0 0),(14,.int .i64 S)] (H++[⟨125,0,cxc c⟩,⟨58,0,fmc pa++(fmc fu++fmc fi)⟩,⟨109,0,mbc m⟩,⟨30,0,[.int .i64 0,.int .i64 0,.slice [] 0 true,.slice [] 0 true,.slice [] 0 true]⟩]) _ by
  refine .c (λh=> ?_) (λh=> ?_)
  .have hz:m.k=0:=by simpa using h
   rw[if_pos hz]at hS2;refine .m (nq2 cl ct4) pc ?_;exact .at [3,4,5,6,7,8,12,14] hrst (by rw[<-hS2];rfl) rfl
  .have hz:m.k≠0:=by simpa using h
   rw[if_neg hz]at hS2;refine .skip ?_;exact .at [3,4,5,6,7,8,12,14] hrst (by rw[<-hS2];rfl) rfl
 refine .m (nq2 cl (nq2 ct4 (nq2 rl (nq2 rt (nq2 g5 g7))))) rf ?_;refine .e ?_;refine .c (λh=> ?_) (λh=> ?_)
 .have he:e≠0:=by simpa using h
  rw[if_pos he]at hD;refine .e ?_;refine .v (.tup [.agg [.int .i64 0,.int .i64 0,.slice [] 0 true,.slice [] 0 true,.slice [] 0 true],.int .i64 e]) ?_;rw[hD];exact .base (fz0 _ _ _)
 have he:e=0:=by simpa using h
 rw[if_neg (by simp[he])]at hD;refine .skip ?_;refine .g (nq2 e4 efp) ?_;refine .c (λh=> ?_) (λh=> ?_)
 .have hp:m.fp=true:=h;obtain⟨hm,q1,q2,q3,q4,q5⟩:=hrest hp;rw[hp,if_pos rfl,hm,<-q1]at hD;have fl:=λL=>zmN g mx my (v1 m d) (v2 m d) (v3 m d) (v4 m d) (s1 m d) (s2 m d) q2 q3 q4 q5 L;rw[<-hD]at fl;(repeat refine .seq ?_);refine .drawi [H.length+3] [(12,[0])] [] [52] mix kr (by simp<;>omega) λK hK=> ?_;simp(disch:=omega) only[go_sem,zD,e4,ev4,ess,g7,g8];refine VCj.read (λ_ _=>fl _) rfl ?_;refine sqx (nq2 r5 (nq2 r7 z9)) ?_;refine hK _ _ ?_;clear hK K;refine .w (.tup [.agg (fmc R.1),.int .i64 R.2]) (nq2 r7 r8) ?_;exact .base (.id (zC _ _ _ _ _ _ _ _ _ _))
 have hp:m.fp=false:=h;rw[hp,if_neg sp,<-zvO]at hD;have sx:=λL=>znf mx L;have sy:=λL=>znf my L;have tx:=zpU mx;have ty:=zpU my;have pr:=λL=>zdm g (t16 mx) (t16 my) (v1 m d) (v2 m d) 16 (.inr rfl) om L;rw[<-hD]at pr;refine .skip ?_;(repeat refine .seq ?_);refine .drawi [H.length+3] [(12,[0])] [] [57,59,65] mix kr (by simp<;>omega) λK hK=> ?_;simp(disch:=omega) only[go_sem,zD,e4,ev2,g7,g8];refine VCj.read (λ_ _=>sx _) rfl ?_;refine sqz ?_;refine VCj.read (λ_ _=>sy _) rfl ?_;simp(disch:=omega) only[go_sem,zD,e4,ev2,g7,g8];refine VCj.read (λ_ _=>pr _) rfl ?_;refine sqx (nq2 r5 (nq2 r7 z9)) ?_;refine hK _ _ ?_;clear hK K;refine .w (.tup [.agg (fmc R.1),.int .i64 R.2]) (nq2 r7 r8) ?_;exact .base (.id (zC _ _ _ _ _ _ _ _ _ _))
def goR(c:Cx)(M:Mb)(pa fu fi:Fm)(mx my:Int):Nat->Fm->Fm×Int
 | 0,out=>(out,0)
 | n+1,out=>if us M (1 - n)=true then(if(zcE c M pa fu fi (1 - n) mx my).2≠0 then(f0,(zcE c M pa fu fi (1 - n) mx my).2)else goR c M pa fu fi mx my n (if 1 - n=1/\us M 0=true then mnF out (zcE c M pa fu fi (1 - n) mx my).1 else(zcE c M pa fu fi (1 - n) mx my).1))else goR c M pa fu fi mx my n out
theorem zrJ(c:Cx)(M:Mb)(pa fu fi:Fm)(mx my:Int)(h0:M.ua=false)(h1:M.ub=false)(out:Fm):goR c M pa fu fi mx my 2 out=(out,0):=by simp_all[us,goR]
theorem ztO(c:Cx)(m:Mb)(pa fu fi:Fm)(mx my:Int)(h:m.ua=true\/m.ub=true)(out:Fm):goR c m pa fu fi mx my 2 out=prS c m pa fu fi mx my:=by
 have d0:zcE c m pa fu fi 0 mx my=zgy c m pa fu fi mx my:=rfl;have d1:zcE c m pa fu fi 1 mx my=zeS c m pa fu fi mx my:=rfl;have u0:us m 0=m.ua:=rfl;have u1:us m 1=m.ub:=rfl;have e0:1 - 1=0:=rfl;have e1:1 - 0=1:=rfl;unfold prS;rw[goR,e0,u0,d0,if_neg (show ¬(0=1/\m.ua=true) by simp)];generalize zgy c m pa fu fi mx my=r0;cases ha:m.ua
 .rw[if_neg sp,if_neg sp,goR,e1,u1,u0,d1];grind[zeS,f0,zly,goR,Prod.ext]
 .rw[if_pos rfl,if_pos rfl];by_cases he:r0.2=0
  .rw[if_neg (by simp[he]),if_neg (by simp[he]),goR,e1,u1,u0,d1];grind[zeS,goR]
  simp_all
theorem zlw{c:Cx}{m:Mb}(h:fmS c m=true)(hk:m.k=1):m.ua=false/\m.ub=false:=by simp_all[fmS,qA,zI]
theorem zoj{m:Mb}(h:zmb m=true):∀ n,zN (cdl m) n=false:=λn=>by unfold zmb zA at h;obtain⟨k,ua,ub,fp,fd,va,vb,vc,vd,ve,vf,vg,vh,sa,sb,sc,sd,dl,ca,cb,cc,cd,ce,cf,lv⟩:=m;simp only[qA,beq_iff_eq]at h;grind[zN,cdl,qO]
def zoA(m:Mb)(al:Bool)(mat:List UInt8)(q:Int)(x:Fm×Int):Fm×Int:=if x.2≠0 then(f0,x.2)else(addN m al mat q x.1 6,0)
theorem ztd(m:Mb)(al:Bool)(mat:List UInt8)(q:Int)(f:Fm):zoA m al mat q (f,0)=(addN m al mat q f 6,0):=if_neg sp
theorem zte(m:Mb)(al:Bool)(mat:List UInt8)(q:Int)(f:Fm){e:Int}(h:e≠0):zoA m al mat q (f,e)=(f0,e):=if_pos h
theorem ztc(c:Cx)(si sq:List UInt8)(al:Bool)(q:Int)(m:Mb)(pa fu fi:Fm)(mx my:Int)(h:(fmS c m&&(zaU si&&(zaU sq&&qnB q)))=true):
  zdk c si sq al q m pa fu fi mx my=zoA m al (if m.k=1 then si else sq) q (goR c (mbP c m) pa fu fi mx my 2 gry):=by
 unfold zdk zoA;rw[if_pos h];have hf:fmS c m=true:=by simp_all
 by_cases hk:m.k=1
 .have hm:mbP c m=m:=if_neg om;obtain⟨a1,a2⟩:=zlw hf hk;rw[if_pos hk,if_pos hk,hm,zrJ _ _ _ _ _ _ _ a1 a2,if_neg sp]
 .rw[if_neg hk,if_neg hk];have hu:(mbP c m).ua=true\/(mbP c m).ub=true:=by
   unfold mbP;split
   .exact .inl rfl
   .exact(zh3 hf (by rcases zo5 hf with h|h|h<;>omega)).1.u
  rw[ztO _ _ _ _ _ _ _ hu];change (if(prS c (mbP c m) pa fu fi mx my).2≠0 then(f0,(prS c (mbP c m) pa fu fi mx my).2)else(addN (mbP c m) al sq q (prS c (mbP c m) pa fu fi mx my).1 6,0))=_;by_cases h0:m.k=0
  .have hz:zmb m=true:=by simp_all[fmS,qA]
   rw[zgf (zoj hz)];have hm:mbP c m=stl c:=if_pos h0;rw[hm,zgf (zop c)]
  .have hm:mbP c m=m:=if_neg h0;rw[hm]
theorem zu4{lv:List Int}(hl:lv.length=384)(h:zlv lv=true):lrm lv:=λi=>by
 unfold zlv at h;simp only[qA,Bool.and_true]at h;obtain⟨h0,h1,h2,h3,h4,h5⟩:=h;have key:∀ n j:Nat,j<64->zbk lv n=true->ze lv (n * 64+j)=0:=λn j hj hz=>by unfold zbk at hz;have e:=beq_iff_eq.1 hz;have:=congrArg (λl=>l[j]?) e;grind[ze]
 by_cases hi:i<384
 .have e:i=i / 64 * 64+i%64:=om;have z:ze lv i=0:=by rw[e];have:i / 64=0\/i / 64=1\/i / 64=2\/i / 64=3\/i / 64=4\/i / 64=5:=om;grind
  omega
 simp_all[ze,List.getD_eq_getElem?_getD,qO]
theorem zwb{c:Cx}{m:Mb}(hml:m.lv.length=384)(h:fmS c m=true):lrm m.lv:=by
 rcases zo5 h with h0|h1|h2
 .simp_all[zmb,fmS,qA,zu4]
 .exact zjR hml (zrR h h1)
 .exact zjR hml (zh3 h h2).2.2
def rxH(H:za)(c:Cx)(s:Sq)(m:Mb)(pa fu fi:Fm)(a b:Bool)(mat:List UInt8)(out:Fm):za:=H++[⟨125,0,cxc c⟩,⟨26,0,sqc s⟩,⟨109,0,mbc m⟩,⟨58,0,fmc pa++(fmc fu++fmc fi)⟩,⟨30,0,[.int .i64 0,.int .i64 0,.slice [] 0 true,.slice [] 0 true,.slice [] 0 true]⟩,⟨98,1,[.bool a,.bool b]⟩,⟨24,1,bs mat⟩,⟨30,0,fmc out⟩]
theorem zjZ(f:Fm)(n:Nat):∀ x∈fmc f,Scoped n x:=zas _ _ _ _ _ _ _ _ _ _ _ _
theorem znL(H:za)(c:Cx)(s:Sq)(m:Mb)(pa fu fi:Fm)(a b:Bool)(mat:List UInt8)(out:Fm)(h:HSc H):HSc (rxH H c s m pa fu fi a b mat out):=zh0 (λk hb x hx=>by
 simp only[qN,qI,or_false]at hb;rcases hb with rfl|rfl|rfl|rfl|rfl|rfl|rfl|rfl
 .unfold cxc at hx;simp only[qN,qI,or_false]at hx;rcases hx with rfl|rfl|rfl|rfl<;>first|exact .int _ _|exact .bool _
 .exact zbE _ _ x hx
 .exact zgS _ _ x hx
 .rcases List.mem_append.1 hx with hx|hx
  .exact zjZ _ _ x hx
  .rcases List.mem_append.1 hx with hx|hx
   .exact zjZ _ _ x hx
   .exact zjZ _ _ x hx
 .exact zas _ 0 0 [] [] [] _ _ _ _ _ _ x hx
 .simp only[qN,qI,or_false]at hx;rcases hx with rfl|rfl<;>exact .bool _
 .exact zh _ _ x hx
 .exact zjZ _ _ x hx) h
theorem zoz(c:Cx)(s:Sq)(al:Bool)(q:Int)(m:Mb)(pa fu fi:Fm)(mx my:Int)(H:za)(hml:m.lv.length=384)(hia:s.ia.length=64)(hie:s.ie.length=64):
  CallOk qB 54 [.agg (cxc c),.agg (sqc s),.bool al,.int .i64 q,.agg (mbc m),.agg (fmc pa++(fmc fu++fmc fi)),.int .i64 mx,.int .i64 my] H (.tup [.agg (fmc (zdk c s.ia s.ie al q m pa fu fi mx my).1),.int .i64 (zdk c s.ia s.ie al q m pa fu fi mx my).2]) H:=by
 have fo:=λL=>zwq c m L hml;have q1:=λL=>zhT s.ia L hia;have q2:=λL=>zhT s.ie L hie;have c1:=zp0 s hia;have c2:=zpZ s hia hie;have c3:=znh s hia hie;have c4:=zkK s;have m1:=zbs m hml;have m2:=zbJ m;have m3:(mbc m)[0]? =some (.int .i64 m.k):=rfl;have m4:qD 408 (mbc m)=mbc m:=qE om;have m6:qD 2 (qG 1 (mbc m))=[.bool m.ua,.bool m.ub]:=rfl;have m7:=znG m;have m8:=λn=>znF m n;have m9:∀ n,n<6->(mbc m)[18+n]? =some (.bool (zN (cdl m) n)):=λn hn=>by have:n=0\/n=1\/n=2\/n=3\/n=4\/n=5:=om;rcases this with rfl|rfl|rfl|rfl|rfl|rfl<;>rfl
 have cl:(cxc c).length=4:=rfl;have cc:(cxc c).all PV.cell=true:=rfl;have ct4:qD 4 (cxc c)=cxc c:=rfl;have cx0:(cxc c)[0]? =some (.int .i64 c.t):=rfl;have rl:(fmc pa++(fmc fu++fmc fi)).length=15:=rfl;have rc:(fmc pa++(fmc fu++fmc fi)).all PV.cell=true:=rfl;have rt:qD 15 (fmc pa++(fmc fu++fmc fi))=fmc pa++(fmc fu++fmc fi):=rfl;have z9:qG 5 [PV.int .i64 0,PV.int .i64 0,PV.slice [] 0 true,PV.slice [] 0 true,PV.slice [] 0 true]=[]:=rfl;have F5:∀ g:Fm,(fmc g).all PV.cell=true:=λ_=>rfl;have F7:∀ g:Fm,(fmc g).length=5:=λ_=>rfl;have F8:∀ g:Fm,qD 5 (fmc g)=fmc g:=λ_=>rfl;have F9:∀ g:Fm,qG 5 (fmc g)=[]:=λ_=>rfl;have la:(bs s.ia).length=64:=by grind
 have le:(bs s.ie).length=64:=by grind
 have lca:(bs s.ia).all PV.cell=true:=by grind
 have lce:(bs s.ie).all PV.cell=true:=by grind
 have dle:qG 64 (bs s.ie)=[]:=List.drop_of_length_le om;generalize hr:zdk c s.ia s.ie al q m pa fu fi mx my=r;refine .go Tryz.func54 Tryz.ntmps54 Tryz.results54 ?_;refine .g (nq2 cc (nq2 rc (nq2 c4 m2))) ?_;(repeat refine .seq ?_);refine .rgv (P:=qB) [2,3,6,7,8,9,12,13,16,17] 54 (.bool (!(fmS c m&&(zaU s.ia&&(zaU s.ie&&qnB q))))) ?_ ?_ ?_
 .rfl
 .clear hr;generalize fmS c m=b1 at fo |-;generalize zaU s.ia=b2 at q1 |-;generalize zaU s.ie=b3 at q2 |-;unfold qnB;simp(disch:=omega) only[go_sem,cl,ct4,m1,m4,c1,c2,c3];(repeat'(first|((refine zg ?_ ?_)<;>intro h<;>(try simp only[nqb]at h)<;>simp(disch:=omega) only[go_sem,cl,ct4,m1,m4,c1,c2,c3,h])|((first|refine VCx.call (fo _) rfl ?_|refine VCx.call (q1 _) rfl ?_|refine VCx.call (q2 _) rfl ?_);simp(disch:=omega) only[go_sem,cl,ct4,m1,m4,c1,c2,c3])));all_goals(clear fo q1 q2;(simp_all[slot,qF]<;>(rw[qK];simp;done)))
 refine .c (λh=> ?_) (λh=> ?_)
 .have hb:(fmS c m&&(zaU s.ia&&(zaU s.ie&&qnB q)))=false:=by grind
  unfold zdk at hr;rw[hb,if_neg sp]at hr;refine .e ?_;refine .v (.tup [.agg [.int .i64 0,.int .i64 0,.slice [] 0 true,.slice [] 0 true,.slice [] 0 true],.int .i64 1]) ?_;rw[<-hr];exact .base (fz0 _ _ _)
 have hb:(fmS c m&&(zaU s.ia&&(zaU s.ie&&qnB q)))=true:=by simpa using h
 rw[ztc _ _ _ _ _ _ _ _ _ _ _ hb]at hr;simp only[qA]at hb;obtain⟨hf,hb1,hb2,hb3⟩:=hb;have hlr:=zwb hml hf;have hub:us (mbP c m) 0=(if m.k=0 then true else m.ua)/\us (mbP c m) 1=(if m.k=0 then decide (c.t=3)else m.ub):=by unfold mbP;split<;>exact⟨rfl,rfl⟩
 have hpd:=fun(d:Nat) (hd:d<2) (hu:us (mbP c m) d=true) (hk1:m.k≠1) L=>zio c m pa fu fi d hd mx my hml hf hu hk1 L;have hk1:m.k=1->us (mbP c m) 0=false/\us (mbP c m) 1=false:=λhk=>by obtain⟨a1,a2⟩:=zlw hf hk;simp_all
 have h16:∀ d,(zcE c (mbP c m) pa fu fi d mx my).2=0->F16 (zcE c (mbP c m) pa fu fi d mx my).1:=λd h=>zg0 h;obtain⟨M,hM⟩:∃ M,mbP c m=M:=⟨_,rfl⟩;rw[hM]at hr hub hpd hk1 h16;obtain⟨mat,hmat⟩:∃ mat,(if m.k=1 then s.ia else s.ie)=mat:=⟨_,rfl⟩;have hml2:mat.length=64:=by rw[<-hmat];split<;>assumption
 have hmx:zaU mat=true:=by rw[<-hmat];split<;>assumption
 rw[hmat]at hr;have lm:(bs mat).length=64:=by rw[zd,hml2]
 have tkm:qD 64 (bs mat)=bs mat:=qE om;refine .skip ?_;refine .view (Vs.place 98) ?_;refine .view (Vs.place 24) ?_;(repeat refine .seq ?_);refine .drawi [H.length+5,H.length+6] [(18,[0]),(19,[1])] [(18,0),(19,1)] [] mix kr (by simp<;>omega) λK hK=> ?_;simp(disch:=omega) only[go_sem,zD,m1,m6,c2,c3,le,lce];refine hK _ _ ?_;clear hK K;suffices hA:PW qB _ _ [(2,.bool al),(3,.int .i64 q),(6,.int .i64 mx),(7,.int .i64 my),(8,.ptr H.length 0 0),(9,.ptr (H.length+1) 0 0),(12,.ptr (H.length+2) 0 0),(13,.ptr (H.length+3) 0 0),(16,.ptr (H.length+4) 0 0),(18,.ptr (H.length+5) 1 0),(19,.ptr (H.length+6) 1 0)] (H++[⟨125,0,cxc c⟩,⟨26,0,sqc s⟩,⟨109,0,mbc m⟩,⟨58,0,fmc pa++(fmc fu++fmc fi)⟩,⟨30,0,[.int .i64 0,.int .i64 0,.slice [] 0 true,.slice [] 0 true,.slice [] 0 true]⟩,⟨98,1,[.bool (us M 0),.bool (us M 1)]⟩,⟨24,1,bs s.ie⟩]) _ by
  refine .g (nq2 m1 m3) ?_;refine .c (λh=> ?_) (λh=> ?_)
  .have hz:m.k=0:=by simpa using h
   rw[if_pos hz,if_pos hz]at hub;rw[hub.1,hub.2]at hA;refine .g (nq2 cl cx0) ?_;exact .at [2,3,6,7,8,9,12,13,16,18,19] hA rfl rfl
  .have hz:m.k≠0:=by simpa using h
   rw[if_neg hz,if_neg hz]at hub;rw[hub.1,hub.2]at hA;refine .skip ?_;exact .at [2,3,6,7,8,9,12,13,16,18,19] hA rfl rfl
 have fl:=λL=>zrS L;have g16:F16 gry:=F16.gry;generalize gry=g0 at fl hr g16;refine .m (nq2 F5 F7) fl ?_;suffices hB:PW qB _ _ [(2,.bool al),(3,.int .i64 q),(6,.int .i64 mx),(7,.int .i64 my),(8,.ptr H.length 0 0),(12,.ptr (H.length+2) 0 0),(13,.ptr (H.length+3) 0 0),(16,.ptr (H.length+4) 0 0),(18,.ptr (H.length+5) 1 0),(19,.ptr (H.length+6) 1 0),(20,.ptr (H.length+7) 0 0)] (rxH H c s m pa fu fi (us M 0) (us M 1) mat g0) _ by
  refine .g (nq2 m1 m3) ?_;refine .c (λh=> ?_) (λh=> ?_)
  .have hz:m.k=1:=by simpa using h
   rw[if_pos hz]at hmat;subst hmat;refine .g (nq2 c1 (nq2 c3 (nq2 lca (nq2 la (nq2 le dle))))) ?_;exact .at [2,3,6,7,8,12,13,16,18,19,20] hB rfl (by unfold rxH;simp)
  .have hz:m.k≠1:=by simpa using h
   rw[if_neg hz]at hmat;subst hmat;refine .skip ?_;exact .at [2,3,6,7,8,12,13,16,18,19,20] hB rfl rfl
 clear fo q1 q2;refine .e ?_;refine .l ?_;suffices hloop:∀(n d:Nat) (out:Fm),d+n=2->F16 out->(d=1->us M 0=false\/F16 out)->zoA m al mat q (goR c M pa fu fi mx my n out)=r->PL qB _ _ [(2,.bool al),(3,.int .i64 q),(6,.int .i64 mx),(7,.int .i64 my),(8,.ptr H.length 0 0),(12,.ptr (H.length+2) 0 0),(13,.ptr (H.length+3) 0 0),(16,.ptr (H.length+4) 0 0),(18,.ptr (H.length+5) 1 0),(19,.ptr (H.length+6) 1 0),(20,.ptr (H.length+7) 0 0),(21,.int .i64 (d:Int))] (rxH H c s m pa fu fi (us M 0) (us M 1) mat out) _ by exact .at [2,3,6,7,8,12,13,16,18,19,20,21] (hloop 2 0 g0 rfl g16 (λh=>by cases h) hr) rfl rfl
 clear hr;intro n;induction n with
 | zero=>
  intro d out hd ho _ hr;have hd2:d=2:=om;subst hd2;rw[goR,ztd]at hr;refine .round ?_;refine .e ?_;refine .u ?_;refine .exit ?_;refine .e ?_;refine .l ?_;suffices h1:∀ n:Nat,n<=6->PL qB _ _ [(2,.bool al),(3,.int .i64 q),(12,.ptr (H.length+2) 0 0),(16,.ptr (H.length+4) 0 0),(19,.ptr (H.length+6) 1 0),(20,.ptr (H.length+7) 0 0),(24,.int .i64 (n:Int))] (rxH H c s m pa fu fi (us M 0) (us M 1) mat (addN m al mat q out n)) _ by exact .at [2,3,12,16,19,20,24] (h1 0 om) rfl rfl
  refine cnt 6 (λn hn ih=> ?_) ?_
  .have ct:=zc4 hn;have m9n:=m9 n hn;refine .round ?_;refine .e ?_;refine .t ?_;refine .skip ?_;refine .b ?_;refine .f (λK k=>by simp(disch:=omega) only[go_sem,rxH,m1,m9n];exact k) ?_;refine .c (λh=> ?_) (λh=> ?_)
   .have hc:zN (cdl m) n=false:=by simpa using h
    rw[addN,hc,if_neg sp]at ih;refine .exit ?_;refine .e ?_;exact .at [2,3,12,16,19,20,24] ih rfl rfl
   have hc:zN (cdl m) n=true:=by simpa using h
   rw[addN,hc,if_pos rfl]at ih;have g16:=ho.addN m al mat q n om;obtain⟨g,hgg⟩:∃ g,addN m al mat q out n=g:=⟨_,rfl⟩;rw[hgg]at g16 ih |-;have ll:=znI m.lv n hml hn;have lr:=zru hlr n;have c1:=λK=>zjY (lvl m.lv n) al ll K;have c2:=λK=>zlz (frs (lvl m.lv n) al) mat q (znO _ _) (zrO lr al) hml2 hmx hb3 K;have hrs:rsd m.lv al mat q n=inv (dqz (frs (lvl m.lv n) al) mat q):=rfl;have c3:=λK=>zln (dqz (frs (lvl m.lv n) al) mat q) (zgZ _ _ _) K;rw[<-hrs]at c3;have il:(rsd m.lv al mat q n).length=64:=znK _;have ib:=λk=>zrE (dqz (frs (lvl m.lv n) al) mat q) k;rw[<-hrs]at ib;have dl:=zgZ (frs (lvl m.lv n) al) mat q;have dcel:=zt (dqz (frs (lvl m.lv n) al) mat q);generalize dqz (frs (lvl m.lv n) al) mat q=D at c2 c3 dl dcel;have tkD:qD 64 (is D)=is D:=qE (by rw[zj];omega);generalize frs (lvl m.lv n) al=S at c1 c2;generalize rsd m.lv al mat q n=I at c3 il ib ih;clear hrs;have icel:=zt I;have c4:=λK=>zpe g g16 n hn m.fd K;have bb:=λk=>zsr (cmp g n) n m.fd k;have bl:(blk (cmp g n) n m.fd).length=64:=zaW _ _;have bcel:=zt (blk (cmp g n) n m.fd);refine .skip ?_;refine .view (Vs.place 106) ?_;(repeat refine .seq ?_);refine .drawi [H.length+8] [(25,[0])] [(25,0)] [123,126] mix kr (by simp<;>omega) λK hK=> ?_;simp(disch:=omega) only[go_sem,zD,m8,m1];refine VCj.read (λ_ _=>c1 _) rfl ?_;simp(disch:=omega) only[go_sem,zD,m8,m1,lm,tkm];refine VCj.read (λ_ _=>c2 _) rfl ?_;simp(disch:=omega) only[go_sem,zj,dl,dcel];refine hK _ _ ?_;clear hK K;refine .f (λK k=>by simp(disch:=omega) only[go_sem,zj,dl,tkD,il,icel];refine VCx.call (c3 _) rfl ?_;simp(disch:=omega) only[go_sem,zj,dl,tkD,il,icel];exact k) ?_;refine .f (λK k=>by simp(disch:=omega) only[go_sem,m7,m1,F7,F8,zj,bl,bcel];refine VCx.call (c4 _) rfl ?_;simp(disch:=omega) only[go_sem,m7,m1,F7,F8,zj,bl,bcel];exact k) ?_;refine .e ?_;refine .l ?_;suffices h2:∀ k:Nat,k<=64->PL qB _ _ [(2,.bool al),(3,.int .i64 q),(12,.ptr (H.length+2) 0 0),(16,.ptr (H.length+4) 0 0),(19,.ptr (H.length+6) 1 0),(20,.ptr (H.length+7) 0 0),(24,.int .i64 (n:Int)),(27,.ptr (H.length+9) 0 0),(28,.ptr (H.length+10) 0 0),(30,.int .i64 (k:Int))] (rxH H c s m pa fu fi (us M 0) (us M 1) mat g++[⟨106,1,is D⟩,⟨106,0,is (adk (blk (cmp g n) n m.fd) I k)⟩,⟨106,0,is (blk (cmp g n) n m.fd)⟩]) _ by exact .at [2,3,12,16,19,20,24,27,28,30] (h2 0 om) rfl (by rw[zu2 il];unfold rxH;simp)
   refine cnt 64 (λk hk ih2=> ?_) ?_
   .refine .round ?_;refine .e ?_;refine .t ?_;have b1:=bb k;have b2:=ib k;have a1:=zsD (blk (cmp g n) n m.fd) I hk;have a2:=zoa (blk (cmp g n) n m.fd) I k;have a3:=zob (blk (cmp g n) n m.fd) I k;have a4:∀ v,((is (adk (blk (cmp g n) n m.fd) I k)).set k v).length=64:=λv=>by simp[zj,a3]
    refine .skip ?_;refine .b ?_;(repeat refine .seq ?_);refine .drawi [H.length+9] [(27,[0]),(145,[0]),(151,[0])] [] [] mix kr (by simp<;>omega) λK hK=> ?_;simp(disch:=omega) only[go_sem,zD,rxH,zQ,zj,bl,a3,a1,zaG,a2,a4];refine hK _ _ ?_;clear hK K;refine .e ?_;exact .at [2,3,12,16,19,20,24,27,28,30] ih2 rfl (by unfold rxH;simp)
   refine .round ?_;refine .e ?_;refine .u ?_;refine .exit ?_;rw[zoc];have xe:(rgI 64 λk=>ze (blk (cmp g n) n m.fd) k+ze I k)=rgI 64 λk=>ze I k+ze (blk (cmp g n) n m.fd) k:=zbN λk _=>Int.add_comm _ _;rw[xe];have xl:(rgI 64 λk=>ze I k+ze (blk (cmp g n) n m.fd) k).length=64:=zaW _ _;have c5:=λK=>zjo g g16 n hn m.fd (rgI 64 λk=>ze I k+ze (blk (cmp g n) n m.fd) k) xl K;have e5:zgu g n (zdh (cmp g n) n m.fd (rgI 64 λk=>ze I k+ze (blk (cmp g n) n m.fd) k))=addB g n m.fd I:=rfl;rw[e5]at c5;generalize (rgI 64 λk=>ze I k+ze (blk (cmp g n) n m.fd) k)=X at xl c5;have xt:qD 64 (is X)=is X:=qE (by rw[zj];omega);generalize addB g n m.fd I=g' at c5 ih;refine .f (λK k=>by simp(disch:=omega) only[go_sem,rxH,m7,m1,F5,F7,F8,F9,zj,xl,xt];refine VCx.call (c5 _) rfl ?_;simp(disch:=omega) only[go_sem,rxH,m7,m1,F5,F7,F8,F9,zj,xl,xt];exact k) ?_;refine .e ?_;refine .view (Vs.trim (F1:=[(2,.bool al),(3,.int .i64 q),(12,.ptr (H.length+2) 0 0),(16,.ptr (H.length+4) 0 0),(19,.ptr (H.length+6) 1 0),(20,.ptr (H.length+7) 0 0),(24,.int .i64 ((n+1:Nat):Int))]) (H1:=rxH H c s m pa fu fi (us M 0) (us M 1) mat g') (znL H c s m pa fu fi _ _ mat g') (by simp[rxH]) (List.append_assoc _ [_,_,_,_,_,_,_,_] [_,_,_]).symm ?_) ih;have hl:(rxH H c s m pa fu fi (us M 0) (us M 1) mat g').length=H.length+8:=by simp[rxH]
   rw[hl];exact⟨.id (.bool _),.id (.int _ _),.id (.ptr om),.id (.ptr om),.id (.ptr om),.id (.ptr om),.id (.int _ _),trivial⟩
  refine .round ?_;refine .e ?_;refine .u ?_;refine .exit ?_;obtain⟨g,hgg⟩:∃ g,addN m al mat q out 6=g:=⟨_,rfl⟩;rw[hgg]at hr |-;refine .f (λK k=>by simp(disch:=omega) only[go_sem,rxH,F5,F7,F8,z9];exact k) ?_;refine .w (.tup [.agg (fmc g),.int .i64 0]) (nq2 F7 F8) ?_;rw[<-hr];exact .base (.id (zC _ _ _ _ _ _ _ _ _ _))
 | succ n ih=>
  intro d out hd ho hu0 hr;have hd2:d<2:=om;have hdn:1 - n=d:=om;rw[goR,hdn]at hr;have ct:decide ((d:Int)<2)=true:=decide_eq_true om;have eus:[PV.bool (us M 0),PV.bool (us M 1)][d]? =some (.bool (us M d)):=by have:d=0\/d=1:=om;rcases this with rfl|rfl<;>rfl
  refine .round ?_;refine .g ct ?_;refine .t ?_;refine .skip ?_;refine .b ?_;refine .f (λK k=>by simp(disch:=omega) only[go_sem,rxH,eus];exact k) ?_;refine .c (λh=> ?_) (λh=> ?_)
  .have hu:us M d=false:=by simpa using h
   rw[hu,if_neg sp]at hr;refine .exit ?_;refine .e ?_;exact .at [2,3,6,7,8,12,13,16,18,19,20,21] (ih (d+1) out om ho (λ_=>.inr ho) hr) rfl rfl
  have hu:us M d=true:=by simpa using h
  rw[hu,if_pos rfl]at hr;have hk:m.k≠1:=λhk=>by
   obtain⟨a,b⟩:=hk1 hk;have:d=0\/d=1:=om;rcases this with rfl|rfl
   .simp_all
   simp_all
  have pr:=λL=>hpd d hd2 hu hk L;have h16d:=h16 d;generalize zcE c M pa fu fi d mx my=T at pr hr h16d;obtain⟨g,e⟩:=T;simp only at pr hr h16d;refine .skip ?_;refine .m (nq2 cl (nq2 ct4 (nq2 rl (nq2 rt (nq2 m1 (nq2 m4 (nq2 F5 F7))))))) pr ?_;refine .e ?_;refine .c (λh=> ?_) (λh=> ?_)
  .have he:e≠0:=by simpa using h
   rw[if_pos (by exact he),zte _ _ _ _ _ he]at hr;refine .e ?_;refine .v (.tup [.agg [.int .i64 0,.int .i64 0,.slice [] 0 true,.slice [] 0 true,.slice [] 0 true],.int .i64 e]) ?_;rw[<-hr];exact .base (fz0 _ _ _)
  have he:e=0:=by simpa using h
  rw[if_neg (by simp[he])]at hr;have hg:=h16d he;refine .skip ?_;have fin:∀(g':Fm) (K:za),F16 g'->zoA m al mat q (goR c M pa fu fi mx my n g')=r->PL qB _ _ [(2,.bool al),(3,.int .i64 q),(6,.int .i64 mx),(7,.int .i64 my),(8,.ptr H.length 0 0),(12,.ptr (H.length+2) 0 0),(13,.ptr (H.length+3) 0 0),(16,.ptr (H.length+4) 0 0),(18,.ptr (H.length+5) 1 0),(19,.ptr (H.length+6) 1 0),(20,.ptr (H.length+7) 0 0),(21,.int .i64 ((d+1:Nat):Int))] (rxH H c s m pa fu fi (us M 0) (us M 1) mat g'++K) _:=λg' K hg' hr'=>by
   refine .view (Vs.trim (F1:=[(2,.bool al),(3,.int .i64 q),(6,.int .i64 mx),(7,.int .i64 my),(8,.ptr H.length 0 0),(12,.ptr (H.length+2) 0 0),(13,.ptr (H.length+3) 0 0),(16,.ptr (H.length+4) 0 0),(18,.ptr (H.length+5) 1 0),(19,.ptr (H.length+6) 1 0),(20,.ptr (H.length+7) 0 0),(21,.int .i64 ((d+1:Nat):Int))]) (H1:=rxH H c s m pa fu fi (us M 0) (us M 1) mat g') (znL H c s m pa fu fi _ _ mat g') (by simp[rxH]) rfl ?_) (ih (d+1) g' om hg' (λ_=>.inr hg') hr');have hl:(rxH H c s m pa fu fi (us M 0) (us M 1) mat g').length=H.length+8:=by simp[rxH]
   rw[hl];exact⟨.id (.bool _),.id (.int _ _),.id (.int _ _),.id (.int _ _),.id (.ptr om),.id (.ptr om),.id (.ptr om),.id (.ptr om),.id (.ptr om),.id (.ptr om),.id (.ptr om),.id (.int _ _),trivial⟩
  have dd:d=0\/d=1:=om;rcases dd with rfl|rfl
  .rw[if_neg sp]at hr;refine .e ?_;refine .us ?_;refine .g (nq2 F5 (nq2 F7 (nq2 F8 F9))) ?_;refine .e ?_;exact .at [2,3,6,7,8,12,13,16,18,19,20,21] (fin g [⟨30,0,fmc g⟩] hg hr) rfl (by unfold rxH;simp)
  .cases hu1:us M 0 with
   | false=>
    rw[hu1,if_neg sp]at hr;rw[hu1]at fin;refine .g hu1 ?_;refine .us ?_;refine .g (nq2 F5 (nq2 F7 (nq2 F8 F9))) ?_;refine .e ?_;exact .at [2,3,6,7,8,12,13,16,18,19,20,21] (fin g [⟨30,0,fmc g⟩] hg hr) rfl (by unfold rxH;simp)
   | true=>rw[hu1,if_pos ⟨rfl,rfl⟩]at hr;rw[hu1]at fin;have av:=λL=>zlG out g ho hg L;have hmn:F16 (mnF out g):=zmB ho g;generalize mnF out g=g' at av hr hmn;refine .g hu1 ?_;refine .t ?_;refine .m (nq2 F5 (nq2 F7 (nq2 F8 F9))) av ?_;refine .g (nq2 F5 (nq2 F7 (nq2 F8 F9))) ?_;refine .e ?_;exact .at [2,3,6,7,8,12,13,16,18,19,20,21] (fin g' [⟨30,0,fmc g'⟩] hmn hr) rfl (by unfold rxH;simp)
end Go.Proofs.YtdajpjenhcobkaaGreatDoor.Sc
