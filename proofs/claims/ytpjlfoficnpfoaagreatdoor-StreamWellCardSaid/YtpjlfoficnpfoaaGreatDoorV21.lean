/-
  Parts of the proof, put together in one text. No condition.
-/
import Derived.Test.YtpjlfoficnpfoaaGreatDoorV20
open List renaming getElem?_eq_some_iff → qA, take → qC
open Nat renaming strongRecOn → qB, reduceAdd → qD, sub_self → qE
namespace Go.Proofs.YtpjlfoficnpfoaaGreatDoor.Sc
set_option linter.all false
open Pm Ty Go.RowKit
def zwP(H:za)(i j v n:Nat)(X:za)(x:Rr (Mb×St)):PV→za→Prop:=fun w H'=>
 match x with
 | .ok y a=>w= .int .i64 0∧H'=uG H i j v n a X (mW y.1) (sB y.2) []
 | .er e _=>w=ecd e∧∃ a m s,a≤n∧m.lv.length=384∧H'=uG H i j v n a X (mW m) (sB s) []
theorem za5{H:za}{i j v n a a':Nat}{X:za}{m m':Mb}{s s':St}{R:PV→za→Prop}{e:Int}{K:za}(hi:i<H.length)(hj:j<H.length)(hX:X.length=4)(hR:R (.int .i64 e) (uG H i j v n a' X (mW m') (sB s') [])):zmo (uG H i j v n a X (mW m) (sB s) []) R (.int .i64 e) (uG H i j v n a' X (mW m') (sB s') K):=
 .inr (.inr fun hs=>⟨.int .i64 e,uG H i j v n a' X (mW m') (sB s') [],hR,by rw[zcS _ _ _ _ _ _ _ _ _ _ hX,zcS _ _ _ _ _ _ _ _ _ _ hX];exact Nat.le_refl _,by
  have h:=zqV H i j v n a a' X m m' s s' hi hj hX hs;have:=CutH.base (K:=K) h;rwa[zgM]at this,.id (.int _ _)⟩)
theorem zvk(m:Mb)(d k:Nat)(hd:d<2)(hk:k<2)(x:Int):(mbc m).set (5+d * 4+k * 2) (.int .i64 x)=mbc (zaJ m d k x (vYm m d k)):=by have h1:d=0∨d=1:=om;have h2:k=0∨k=1:=om;rcases h1 with rfl|rfl<;>rcases h2 with rfl|rfl<;>rfl
theorem zvj(m:Mb)(d k:Nat)(hd:d<2)(hk:k<2)(x y:Int):(mbc (zaJ m d k x (vYm m d k))).set (5+d * 4+k * 2+1) (.int .i64 y)=mbc (zaJ m d k x y):=by have h1:d=0∨d=1:=om;have h2:k=0∨k=1:=om;rcases h1 with rfl|rfl<;>rcases h2 with rfl|rfl<;>rfl
theorem zvm(m:Mb)(d k:Nat)(hd:d<2)(hk:k<2)(x y:Int):(mbc (zaJ m d k x y))[5+d * 4+k * 2]? =some (.int .i64 x):=by have h1:d=0∨d=1:=om;have h2:k=0∨k=1:=om;rcases h1 with rfl|rfl<;>rcases h2 with rfl|rfl<;>rfl
theorem zvn(m:Mb)(d k:Nat)(hd:d<2)(hk:k<2)(x y:Int):qC 2 (List.drop (5+d * 4+k * 2) (mbc (zaJ m d k x y)))=[.int .i64 x,.int .i64 y]:=by have h1:d=0∨d=1:=om;have h2:k=0∨k=1:=om;rcases h1 with rfl|rfl<;>rcases h2 with rfl|rfl<;>rfl
theorem zvh(m:Mb)(d:Nat)(hd:d<2):(mbc m)[1+d]? =some (.bool (usd m d)):=by have h1:d=0∨d=1:=om;rcases h1 with rfl|rfl<;>rfl
theorem zjv(m:Mb):(mbc m)[3]? =some (.bool m.fp):=rfl
theorem zwE(s:St)(d:Nat)(hd:d<2):(stc s)[4+d * 2]? =some (.int .i64 (sXs s d)):=by have h1:d=0∨d=1:=om;rcases h1 with rfl|rfl<;>rfl
theorem zuN(s:St)(d:Nat)(hd:d<2):(stc s)[4+d * 2+1]? =some (.int .i64 (sYs s d)):=by have h1:d=0∨d=1:=om;rcases h1 with rfl|rfl<;>rfl
theorem zuK(s:St)(d:Nat)(hd:d<2)(x y:Int):qC (4+d * 2) (stc s)++ .int .i64 x:: .int .i64 y::List.drop (4+d * 2+(1+1)) (stc s)=stc (zbg s d x y):=by have h1:d=0∨d=1:=om;rcases h1 with rfl|rfl<;>rfl
section
variable (H:za) (i j v:Nat) (q:List UInt8) (n:Nat) (X:za) (c:Cx) (hi:i<H.length) (hB:H[j]? =some (rB q v)) (hne:i≠j) (hX:X.length=4) (hn:n≤8 * q.length) (hq:q.length≤100000000)
include hi hB hne hX hn hq
set_option maxHeartbeats 8000000 in
theorem zoM(m:Mb)(s:St)(a:Nat)(hml:m.lv.length=384)(hs:vrS s)(ha:a≤n)(hk:m.k=2):CallEx Tryz.prog 195 [.ptr i 0 0,.agg (cxc c),.ptr (H.length+4) 1 0,.ptr (H.length+5) 1 0] (uG H i j v n a X (mW m) (sB s) []) (zwP H i j v n X (zbD c q n m s a)):=by
 have hj:=(qA.1 hB).1;have g6:=fun a B4 B5 K B=>zuu H i j v n a X B4 B5 K hX B;have g5:=fun a B4 B5 K=>zoS H i j v n a X B4 B5 K hX;have g4:=fun a B4 B5 K=>zoT H i j v n a X B4 B5 K hX;have s5:=fun a B4 B5 K B=>zic H i j v n a X B4 B5 K hX B;have s4:=fun a B4 B5 K B=>zj8 H i j v n a X B4 B5 K hX B;have gi:=fun a B4 B5 K=>zr2 H i j v n a X B4 B5 K hi;have gj:=fun a B4 B5 K=>zr1 H i j v n a X B4 B5 K hB hne;have si:=fun a B4 B5 K a'=>zj7 H i j v n a X B4 B5 K hi a';have c1:=zdT c;have l1:(cxc c).length=4:=rfl;have tk1:qC 4 (cxc c)=cxc c:=rfl;have hlen:=zcS H i j v n a X (mW m) (sB s) [] hX;have bo:=fun K=>znq c K;have fo:=fun K=>zs9 c K;generalize hres:zbD c q n m s a=res;unfold zbD at hres;rw[if_pos hk]at hres;refine CallEx.body (F0:=[(0,.ptr i 0 0),(1,.agg (cxc c)),(2,.ptr (H.length+4) 1 0),(3,.ptr (H.length+5) 1 0)]) Tryz.func195 rfl Tryz.ntmps195 Tryz.results195 rfl kr rfl ?_;refine PW.g c1 ?_;refine PW.at [0,2,3,5] (F1:=[(0,.ptr i 0 0),(2,.ptr (H.length+4) 1 0),(3,.ptr (H.length+5) 1 0),(5,.ptr (H.length+6) 0 0)]) (H1:=uG H i j v n a X (mW m) (sB s) [⟨165,0,cxc c⟩]) ?_ (by simp[kp,slot,Nat.beq,hlen]) (zgM _ _ _ _ _ _ _ _ _ _ _);refine PW.e ?_;clear hlen;suffices hrest:∀(m:Mb) (a:Nat),m.lv.length=384→a≤n→zbu c q n 2 0 m s a=res→PW Tryz.prog _ _ [(0,.ptr i 0 0),(2,.ptr (H.length+4) 1 0),(3,.ptr (H.length+5) 1 0),(5,.ptr (H.length+6) 0 0)] (uG H i j v n a X (mW m) (sB s) [⟨165,0,cxc c⟩]) _ by
  have hlm:=zw m hml;refine PW.m (nq2 g6 (nq2 tk1 l1)) bo ?_;cases hbv:bcx c with
  | false=>
   rw[hbv,if_neg (by decide),Rr.bind_ok]at hres;refine PW.us ?_;exact PW.at [0,2,3,5] (hrest m a hml ha hres) rfl rfl
  | true=>
   rw[hbv,if_pos rfl]at hres;have bt:=zjO i j v q n a _ (gi a (mW m) (sB s) [⟨165,0,cxc c⟩]) (gj _ _ _ _) hne ha hn hq;rw[si]at bt;refine PW.t ?_;cases hf:tkF q n a with
   | ok b a1=>
    obtain⟨rfl,h2,_⟩:=zdi hf;rw[hf,Rr.bind_ok,Rr.bind_ok]at hres;rw[hf]at bt;simp only[rvF,Rr.at]at bt;(repeat refine PW.seq ?_);refine PW.rg rfl fun K hK=> ?_;simp(maxSteps:=3000000) (disch:=omega) only[go_sem,↓reduceIte,reduceCtorEq];refine VCx.call (bt) rfl ?_;simp(maxSteps:=3000000) (disch:=omega) only[go_sem,↓reduceIte,reduceCtorEq,g4,s4,zW,zX,zcl,hlm,zjs,za4];refine hK _ _ ?_;clear hK K;refine PW.e ?_;refine PW.us ?_;exact PW.at [0,2,3,5] (hrest { m with fp:=b } (a+1) hml om hres) rfl rfl
   | er e a1=>obtain⟨rfl,rfl,h2⟩:=zf8 hf;rw[hf,Rr.bind_er,Rr.bind_er]at hres;rw[hf]at bt;simp only[rvF,Rr.at]at bt;(repeat refine PW.seq ?_);refine PW.rg rfl fun K hK=> ?_;simp(maxSteps:=3000000) (disch:=omega) only[go_sem,↓reduceIte,reduceCtorEq];refine VCx.call (bt) rfl ?_;simp(maxSteps:=3000000) (disch:=omega) only[go_sem,↓reduceIte,reduceCtorEq,g4,s4,zW,zX,zcl,hlm,zjs,za4];refine hK _ _ ?_;clear hK K;refine PW.e ?_;refine PW.t ?_;refine PW.e ?_;refine PW.ret ⟨_,rfl,za5 hi hj hX ?_⟩;rw[←hres];exact⟨rfl,a1,{ m with fp:=false },s,ha,hml,rfl⟩
 clear hres ha hml;intro m a hml ha hres;refine PW.e ?_;refine PW.l ?_;suffices hl1:∀(d:Nat) (m1:Mb) (s1:St) (a1:Nat),d≤2→SameU m m1→vrS s1→a1≤n→zbu c q n (2 - d) d m1 s1 a1=res→PL Tryz.prog _ _ [(0,.ptr i 0 0),(2,.ptr (H.length+4) 1 0),(3,.ptr (H.length+5) 1 0),(5,.ptr (H.length+6) 0 0),(10,.int .i64 (d:Int))] (uG H i j v n a1 X (mW m1) (sB s1) [⟨165,0,cxc c⟩]) _ by exact PL.at [0,2,3,5,10] (hl1 0 m s a om (.refl m) hs ha hres) rfl rfl
 clear hres ha hs;intro d m1 s1 a1 hd hm1 hs1 ha1 hres;induction hdd:2 - d using qB generalizing d m1 s1 a1 with
 | _ dd ih=>
  refine PL.round ?_;refine PW.e ?_;refine PW.c (fun h=> ?_) (fun h=> ?_);rotate_left
  ·have h6:d=2:=ofF h;subst h6;refine PW.exit ?_;simp only[qE,zbu]at hres;refine PW.e ?_;refine PW.ret ⟨_,rfl,za5 hi hj hX ?_⟩;rw[←hres];exact⟨rfl,rfl⟩
  have h6:d<2:=ot h;obtain⟨n',hn'⟩:∃ n',2 - d=n'+1:=⟨1 - d,om⟩;rw[hn',zbu]at hres;have hnx:=fun m1 s1 a1=>ih (2 - (d+1)) om (d+1) m1 s1 a1 om;rw[show 2 - (d+1)=n' from om]at hnx;have hdr:zeN c q n m1 s1 d a1=if usd m1 d then zbO c q n d (nvM m1) 0 m1 s1 a1 else .ok (m1,s1) a1:=rfl
  have env2:nvM m1=nvM m:=by unfold nvM;rw[hm1.2.2.2.1]
  have hum:∀ m2,SameU m m2→usd m2 d=usd m d:=fun m2 h=>by unfold usd;rw[h.2.1,h.2.2.1]
  rw[hdr,hum m1 hm1,env2]at hres;have hnv:=ztV m;refine PW.skip ?_;refine PW.b ?_;refine PW.e ?_;refine PW.l ?_;have hud:=fun m2=>zvh m2 d h6;cases hu:usd m d with
  | false=>
   rw[hu,if_neg (by decide),Rr.bind_ok]at hres;refine PL.round ?_;have hu1:usd m1 d=false:=by rw[hum m1 hm1,hu]
   refine PW.f (fun K k=>by simp(maxSteps:=3000000) (disch:=omega) only[go_sem,↓reduceIte,reduceCtorEq,g4,zW,zX,hud,hu1];exact k) ?_;refine PW.u ?_;refine PW.exit ?_;refine PW.e ?_;exact PL.at [0,2,3,5,10] (hnx m1 s1 a1 hm1 hs1 ha1 hres rfl) rfl rfl
  | true=>
   rw[hu,if_pos rfl]at hres;suffices hl2:∀(k:Nat) (m2:Mb) (s2:St) (a2:Nat),k≤nvM m→SameU m m2→vrS s2→a2≤n→((zbO c q n d (nvM m - k) k m2 s2 a2).bind fun x a1=>zbu c q n n' (d+1) x.1 x.2 a1)=res→
     PL Tryz.prog _ _ [(0,.ptr i 0 0),(2,.ptr (H.length+4) 1 0),(3,.ptr (H.length+5) 1 0),(5,.ptr (H.length+6) 0 0),(10,.int .i64 (d:Int)),(11,.int .i64 (k:Int))] (uG H i j v n a2 X (mW m2) (sB s2) [⟨165,0,cxc c⟩]) _ by
    exact PL.at [0,2,3,5,10,11] (hl2 0 m1 s1 a1 om hm1 hs1 ha1 hres) rfl rfl
   clear ih hres hs1 ha1 hdr env2 hm1;intro k m2 s2 a2 hk2 hm2 hs2 ha2 hres;induction hkk:nvM m - k using qB generalizing k m2 s2 a2 with
   | _ kk ih2=>
    have hu2:usd m2 d=true:=by rw[hum m2 hm2,hu]
    have hfp:m2.fp=m.fp:=hm2.2.2.2.1;have hml2:m2.lv.length=384:=by rw[hm2.1];exact hml
    by_cases h7:k=nvM m
    ·subst h7;simp only[qE,zbO,Rr.bind_ok]at hres;refine PL.round ?_;cases hmf:m.fp with
     | true=>
      have h8:nvM m=2:=by unfold nvM;rw[hmf];rfl
      rw[h8];refine PW.f (fun K k=>by simp(maxSteps:=3000000) (disch:=omega) only[go_sem,↓reduceIte,reduceCtorEq,g4,zW,zX,hud,hu2];exact k) ?_;refine PW.u ?_;refine PW.exit ?_;refine PW.e ?_;exact PL.at [0,2,3,5,10] (hnx m2 s2 a2 hm2 hs2 ha2 hres rfl) rfl rfl
     | false=>
      have h8:nvM m=1:=by unfold nvM;rw[hmf];rfl
      have h9:m2.fp=false:=by rw[hfp,hmf]
      rw[h8];refine PW.f (fun K k=>by simp(maxSteps:=3000000) (disch:=omega) only[go_sem,↓reduceIte,reduceCtorEq,g4,zW,zX,hud,hu2];exact k) ?_;refine PW.t ?_;refine PW.skip ?_;refine PW.b ?_;refine PW.f (fun K k=>by simp(maxSteps:=3000000) (disch:=omega) only[go_sem,↓reduceIte,reduceCtorEq,g4,zW,zX,zjv,h9];exact k) ?_;refine PW.t ?_;refine PW.exit ?_;refine PW.e ?_;exact PL.at [0,2,3,5,10] (hnx m2 s2 a2 hm2 hs2 ha2 hres rfl) rfl rfl
    have h8:k<nvM m:=om;have hk22:k<2:=om;obtain⟨n2,hn2⟩:∃ n2,nvM m - k=n2+1:=⟨nvM m - k - 1,om⟩;rw[hn2,zbO,Rr.bind_bind]at hres;have hnx2:=fun m1 s1 a1=>ih2 (nvM m - (k+1)) om (k+1) m1 s1 a1 om;rw[show nvM m - (k+1)=n2 from om]at hnx2;clear ih2;have dk:decide ((k:Int)<2)=true:=decide_eq_true om;have hfk:k=1→m2.fp=true:=fun e=>by
     rw[hfp];cases hmf:m.fp with
     | true=>rfl
     | false=>
      exfalso;have:nvM m=1:=by unfold nvM;rw[hmf];rfl
      omega
    refine PL.round ?_;refine PW.f (fun K k=>by simp(maxSteps:=3000000) (disch:=omega) only[go_sem,↓reduceIte,reduceCtorEq,g4,zW,zX,hud,hu2,dk];exact k) ?_;refine PW.t ?_;refine PW.skip ?_;refine PW.b ?_;suffices h13:PW Tryz.prog _ _ [(0,.ptr i 0 0),(2,.ptr (H.length+4) 1 0),(3,.ptr (H.length+5) 1 0),(5,.ptr (H.length+6) 0 0),(10,.int .i64 (d:Int)),(11,.int .i64 (k:Int)),(54,.bool false)] (uG H i j v n a2 X (mW m2) (sB s2) [⟨165,0,cxc c⟩]) _ by
     have k01:k=0∨k=1:=om;rcases k01 with rfl|rfl
     ·refine PW.e ?_;exact PW.at [0,2,3,5,10,11,54] h13 rfl rfl
     ·have hf2:=hfk rfl;refine PW.f (fun K k=>by simp(maxSteps:=3000000) (disch:=omega) only[go_sem,↓reduceIte,reduceCtorEq,g4,zW,zX,zjv,hf2];exact k) ?_;exact PW.at [0,2,3,5,10,11,54] h13 rfl rfl
    refine PW.us ?_;suffices h14:PW Tryz.prog _ _ [(0,.ptr i 0 0),(2,.ptr (H.length+4) 1 0),(3,.ptr (H.length+5) 1 0),(5,.ptr (H.length+6) 0 0),(10,.int .i64 (d:Int)),(11,.int .i64 (k:Int)),(62,.bool (m2.fp||fcx c))] (uG H i j v n a2 X (mW m2) (sB s2) [⟨165,0,cxc c⟩]) _ by
     cases hf2:m2.fp with
     | true=>
      rw[hf2]at h14;refine PW.f (fun K k=>by simp(maxSteps:=3000000) (disch:=omega) only[go_sem,↓reduceIte,reduceCtorEq,g4,zW,zX,zjv,hf2];exact k) ?_;exact PW.at [0,2,3,5,10,11,62] h14 rfl rfl
     | false=>rw[hf2]at h14;(repeat refine PW.seq ?_);refine PW.rg rfl fun K hK=> ?_;simp(maxSteps:=3000000) (disch:=omega) only[go_sem,↓reduceIte,reduceCtorEq,g4,zW,zX,zjv,hf2,g6,tk1,l1];refine VCx.call (fo _) rfl ?_;simp(maxSteps:=3000000) (disch:=omega) only[go_sem,↓reduceIte,reduceCtorEq];refine hK _ _ ?_;clear hK K;exact PW.at [0,2,3,5,10,11,62] h14 rfl rfl
    unfold zcT at hres;have hsv:=hs2 d;clear hfp hfk hu2;suffices hrest:∀(m3:Mb) (a3:Nat),SameU m m3→a3≤n→((((tkD q n (sXs s2 d) 63 a3).bind fun x a2=>(tkD q n (sYs s2 d) 63 a2).bind fun y a3=>.ok (zaJ m3 d k x y,zbg s2 d x y) a3).bind fun v a=>(zbO c q n d n2 (k+1) v.1 v.2 a).bind fun x a1=>zbu c q n n' (d+1) x.1 x.2 a1)=res)→
      PW Tryz.prog _ _ [(0,.ptr i 0 0),(2,.ptr (H.length+4) 1 0),(3,.ptr (H.length+5) 1 0),(5,.ptr (H.length+6) 0 0),(10,.int .i64 (d:Int)),(11,.int .i64 (k:Int))] (uG H i j v n a3 X (mW m3) (sB s2) [⟨165,0,cxc c⟩]) _ by
     have hlm:=zw m2 hml2;cases hsel:(m2.fp||fcx c)with
     | false=>
      rw[hsel,if_neg (by decide),Rr.bind_ok]at hres;refine PW.us ?_;exact PW.at [0,2,3,5,10,11] (hrest m2 a2 hm2 ha2 hres) rfl rfl
     | true=>
      rw[hsel,if_pos rfl]at hres;refine PW.t ?_;by_cases han:a2<n
      ·have hf:tkF q n a2= .ok (decide (zN q a2=1)) (a2+1):=by unfold tkF;rw[if_pos han]
       rw[hf,Rr.bind_ok,Rr.bind_ok]at hres;have hub:=zbV q a2;have t:=zd0 i j v q n a2 1 _ (gi a2 (mW m2) (sB s2) [⟨165,0,cxc c⟩]) (gj _ _ _ _) hne om hn hq om;rw[si,show vl q a2 1=zN q a2 by simp[vl]]at t;have hbn:((decide (zN q a2=1)).toNat:Int)=(zN q a2:Int):=by have:zN q a2=0∨zN q a2=1:=om;rcases this with e|e<;>rw[e]<;>rfl
       rw[hbn]at hres;have hst:=zqA m2 d k h6 hk22 (zN q a2:Int);refine PW.f (fun K k=>by simp(maxSteps:=3000000) (disch:=omega) only[go_sem,↓reduceIte,reduceCtorEq];refine VCx.call (t) rfl ?_;simp(maxSteps:=3000000) (disch:=omega) only[go_sem,↓reduceIte,reduceCtorEq];exact k) ?_;refine PW.e ?_;refine PW.us ?_;refine PW.f (fun K k=>by simp(maxSteps:=3000000) (disch:=omega) only[go_sem,↓reduceIte,reduceCtorEq,g4,s4,zW,zX,zcl,hlm,hst,za4];exact k) ?_;exact PW.at [0,2,3,5,10,11] (hrest _ (a2+1) (hm2.trans (zg2 m2 d k _)) om hres) rfl rfl
      ·have hf:tkF q n a2= .er 3 a2:=by unfold tkF;rw[if_neg han]
       rw[hf,Rr.bind_er,Rr.bind_er,Rr.bind_er]at hres;have t:=zfA i j v q n a2 1 _ (gi a2 (mW m2) (sB s2) [⟨165,0,cxc c⟩]) (gj _ _ _ _) om om om om;refine PW.f (fun K k=>by simp(maxSteps:=3000000) (disch:=omega) only[go_sem,↓reduceIte,reduceCtorEq];refine VCx.call (t) rfl ?_;simp(maxSteps:=3000000) (disch:=omega) only[go_sem,↓reduceIte,reduceCtorEq];exact k) ?_;refine PW.e ?_;refine PW.t ?_;refine PW.e ?_;refine PW.ret ⟨_,rfl,za5 hi hj hX ?_⟩;rw[←hres];exact⟨rfl,a2,m2,s2,ha2,hml2,rfl⟩
    clear hres ha2 hml2 hm2;intro m3 a3 hm3 ha3 hres;have hml3:m3.lv.length=384:=by rw[hm3.1];exact hml
    have hlm:=zw m3 hml3;have t1:=zdu i j v q n a3 _ (gi a3 (mW m3) (sB s2) [⟨165,0,cxc c⟩]) (gj _ _ _ _) hne ha3 hn hq;rw[si]at t1;unfold tkD at hres;simp only[show((63:Nat):Int)=63 from rfl]at hres;cases h1:tkS q n a3 with
    | er e a4=>
     have he:=zeL h1;rw[h1]at t1 hres;simp only[rvS,Rr.at,Rr.bind_er]at t1 hres;have d0:((e:Int)+1 !=0)=true:=by simp;omega
     refine PW.f (fun K k=>by simp(maxSteps:=3000000) (disch:=omega) only[go_sem,↓reduceIte,reduceCtorEq];refine VCx.call (t1) rfl ?_;simp(maxSteps:=3000000) (disch:=omega) only[go_sem,↓reduceIte,reduceCtorEq];exact k) ?_;refine PW.g d0 ?_;refine PW.t ?_;refine PW.e ?_;refine PW.ret ⟨_,rfl,za5 hi hj hX ?_⟩;rw[←hres];exact⟨rfl,a4,m3,s2,om,hml3,rfl⟩
    | ok dx a4=>
     have hb:=zcn h1 ha3;rw[h1]at t1 hres;simp only[rvS,Rr.at]at t1;rw[Rr.bind_ok]at hres;refine PW.f (fun K k=>by simp(maxSteps:=3000000) (disch:=omega) only[go_sem,↓reduceIte,reduceCtorEq];refine VCx.call (t1) rfl ?_;simp(maxSteps:=3000000) (disch:=omega) only[go_sem,↓reduceIte,reduceCtorEq];exact k) ?_;refine PW.e ?_;refine PW.us ?_;have gx:=zwE s2 d h6;have sx:=zvk m3 d k h6 hk22;have hmx:∀ x,(mbc (zaJ m3 d k x (vYm m3 d k))).length=408:=fun x=>zw _ (by rw[zdz];exact hml3);have gxx:=zvm m3 d k h6 hk22;(repeat refine PW.seq ?_);refine PW.drawt [] [] mix kr fun K hK=> ?_;simp(maxSteps:=3000000) (disch:=omega) only[go_sem,↓reduceIte,reduceCtorEq,g4,g5,s4,zgl,zgm,zW,zX,zcl,gx,sx,hlm,za4];refine hK _ _ ?_;clear hK K;have vr0:=fun K=>ziO (sXs s2 d+dx) 0 K;have evr:vrg (sXs s2 d+dx) 0=win (sXs s2 d+dx) 63:=by unfold vrg;simp[win]
     rw[evr]at vr0;generalize hxx:sXs s2 d+dx=x at *;refine PW.at [0,2,3,5,10,11] (F1:=[(0,.ptr i 0 0),(2,.ptr (H.length+4) 1 0),(3,.ptr (H.length+5) 1 0),(5,.ptr (H.length+6) 0 0),(10,.int .i64 (d:Int)),(11,.int .i64 (k:Int))]) (H1:=uG H i j v n a4 X (mW (zaJ m3 d k x (vYm m3 d k))) (sB s2) [⟨165,0,cxc c⟩]) ?_ rfl rfl;cases hwx:win x 63 with
     | false=>
      rw[hwx]at vr0 hres;rw[if_neg (by decide)]at hres;simp only[Rr.bind_er]at hres;(repeat refine PW.seq ?_);refine PW.rg rfl fun K hK=> ?_;simp(maxSteps:=3000000) (disch:=omega) only[go_sem,↓reduceIte,reduceCtorEq,g4,zW,zX,gxx];refine VCx.call (vr0 _) rfl ?_;simp(maxSteps:=3000000) (disch:=omega) only[go_sem,↓reduceIte,reduceCtorEq];refine hK _ _ ?_;clear hK K;refine PW.t ?_;refine PW.e ?_;refine PW.ret ⟨_,rfl,za5 hi hj hX ?_⟩;rw[←hres];exact⟨rfl,a4,_,s2,hb.2.2,by rw[zdz];exact hml3,rfl⟩
     | true=>
      have hxb:=zeG hwx;rw[hwx]at vr0 hres;rw[if_pos rfl,Rr.bind_ok]at hres;(repeat refine PW.seq ?_);refine PW.rg rfl fun K hK=> ?_;simp(maxSteps:=3000000) (disch:=omega) only[go_sem,↓reduceIte,reduceCtorEq,g4,zW,zX,gxx];refine VCx.call (vr0 _) rfl ?_;simp(maxSteps:=3000000) (disch:=omega) only[go_sem,↓reduceIte,reduceCtorEq];refine hK _ _ ?_;clear hK K;refine PW.us ?_;have t2:=zdu i j v q n a4 _ (gi a4 (mW (zaJ m3 d k x (vYm m3 d k))) (sB s2) [⟨165,0,cxc c⟩]) (gj _ _ _ _) hne hb.2.2 hn hq;rw[si]at t2;cases h2:tkS q n a4 with
      | er e a5=>
       have he:=zeL h2;rw[h2]at t2 hres;simp only[rvS,Rr.at,Rr.bind_er]at t2 hres;have d0:((e:Int)+1 !=0)=true:=by simp;omega
       refine PW.f (fun K k=>by simp(maxSteps:=3000000) (disch:=omega) only[go_sem,↓reduceIte,reduceCtorEq];refine VCx.call (t2) rfl ?_;simp(maxSteps:=3000000) (disch:=omega) only[go_sem,↓reduceIte,reduceCtorEq];exact k) ?_;refine PW.g d0 ?_;refine PW.t ?_;refine PW.e ?_;refine PW.ret ⟨_,rfl,za5 hi hj hX ?_⟩;rw[←hres];exact⟨rfl,a5,_,s2,om,by rw[zdz];exact hml3,rfl⟩
      | ok dy a5=>
       have hb2:=zcn h2 hb.2.2;rw[h2]at t2 hres;simp only[rvS,Rr.at]at t2;rw[Rr.bind_ok]at hres;refine PW.f (fun K k=>by simp(maxSteps:=3000000) (disch:=omega) only[go_sem,↓reduceIte,reduceCtorEq];refine VCx.call (t2) rfl ?_;simp(maxSteps:=3000000) (disch:=omega) only[go_sem,↓reduceIte,reduceCtorEq];exact k) ?_;refine PW.e ?_;refine PW.us ?_;have gy:=zuN s2 d h6;have sy:=zvj m3 d k h6 hk22 x;have hmx1:=hmx x;have gvv:=zvn m3 d k h6 hk22;have hmxy:∀ y,(mbc (zaJ m3 d k x y)).length=408:=fun y=>zw _ (by rw[zdz];exact hml3);(repeat refine PW.seq ?_);refine PW.drawt [] [] mix kr fun K hK=> ?_;simp(maxSteps:=3000000) (disch:=omega) only[go_sem,↓reduceIte,reduceCtorEq,g4,g5,s4,zgl,zgm,zW,zX,zcl,gy,sy,hmx1,za4];refine hK _ _ ?_;clear hK K;have vr1:=fun K=>ziO x (sYs s2 d+dy) K;have evr1:vrg x (sYs s2 d+dy)=win (sYs s2 d+dy) 63:=by unfold vrg;rw[hwx,Bool.true_and]
       rw[evr1]at vr1;generalize hyy:sYs s2 d+dy=y at *;refine PW.at [0,2,3,5,10,11] (F1:=[(0,.ptr i 0 0),(2,.ptr (H.length+4) 1 0),(3,.ptr (H.length+5) 1 0),(5,.ptr (H.length+6) 0 0),(10,.int .i64 (d:Int)),(11,.int .i64 (k:Int))]) (H1:=uG H i j v n a5 X (mW (zaJ m3 d k x y)) (sB s2) [⟨165,0,cxc c⟩]) ?_ rfl rfl;cases hwy:win y 63 with
       | false=>
        rw[hwy]at vr1 hres;rw[if_neg (by decide)]at hres;simp only[Rr.bind_er]at hres;(repeat refine PW.seq ?_);refine PW.rg rfl fun K hK=> ?_;simp(maxSteps:=3000000) (disch:=omega) only[go_sem,↓reduceIte,reduceCtorEq,g4,zW,zX,gvv,hmxy,qD];refine VCx.call (vr1 _) rfl ?_;simp(maxSteps:=3000000) (disch:=omega) only[go_sem,↓reduceIte,reduceCtorEq];refine hK _ _ ?_;clear hK K;refine PW.t ?_;refine PW.e ?_;refine PW.ret ⟨_,rfl,za5 hi hj hX ?_⟩;rw[←hres];exact⟨rfl,a5,_,s2,hb2.2.2,by rw[zdz];exact hml3,rfl⟩
       | true=>have hyb:=zeG hwy;rw[hwy]at vr1 hres;rw[if_pos rfl,Rr.bind_ok,Rr.bind_ok]at hres;(repeat refine PW.seq ?_);refine PW.rg rfl fun K hK=> ?_;simp(maxSteps:=3000000) (disch:=omega) only[go_sem,↓reduceIte,reduceCtorEq,g4,zW,zX,gvv,hmxy,qD];refine VCx.call (vr1 _) rfl ?_;simp(maxSteps:=3000000) (disch:=omega) only[go_sem,↓reduceIte,reduceCtorEq];refine hK _ _ ?_;clear hK K;refine PW.us ?_;have svv:=zuK s2 d h6;have l8:(stc s2).length=8:=rfl;(repeat refine PW.seq ?_);refine PW.drawt [] [] mix kr fun K hK=> ?_;simp(maxSteps:=3000000) (disch:=omega) only[go_sem,↓reduceIte,reduceCtorEq,g4,g5,s5,zgl,zgm,zpH,zW,zX,gvv,hmxy,svv,l8,zks,qD];refine hK _ _ ?_;clear hK K;refine PW.e ?_;exact PL.at [0,2,3,5,10,11] (hnx2 (zaJ m3 d k x y) (zbg s2 d x y) a5 (hm3.trans (zg1 m3 d k x y)) (zj2 hs2 d om om) hb2.2.2 hres rfl) rfl rfl
end
end Go.Proofs.YtpjlfoficnpfoaaGreatDoor.Sc
namespace Go.Proofs.YtpjlfoficnpfoaaGreatDoor.Sc
set_option linter.all false
open Pm Ty Go.RowKit
def zkh(q:List UInt8)(n:Nat)(m:Mb)(s:St)(k a:Nat):Rr (Mb×St):=(tkD q n (dcS s (k - 3)) 4095 a).bind fun d a1=>(zdo q n 1 a1).bind fun l a2=>.ok (za3 m k (l.set 0 d),zcW s (k - 3) d) a2
theorem zwF(s:St)(p:Nat)(h:p<3):(stc s)[1+p]? =some (.int .i64 (dcS s p)):=by have:p=0∨p=1∨p=2:=om;rcases this with rfl|rfl|rfl<;>rfl
theorem zuM(s:St)(p:Nat)(h:p<3)(x:Int):(stc s).set (1+p) (.int .i64 x)=stc (zcW s p x):=by have:p=0∨p=1∨p=2:=om;rcases this with rfl|rfl|rfl<;>rfl
section
variable (H:za) (i j v:Nat) (q:List UInt8) (n:Nat) (X:za) (K:za) (hi:i<H.length) (hB:H[j]? =some (rB q v)) (hne:i≠j) (hX:X.length=4) (hn:n≤8 * q.length) (hq:q.length≤100000000)
include hi hB hne hX hn hq
set_option maxHeartbeats 8000000 in
theorem zoj(m:Mb)(s:St)(k a:Nat)(hml:m.lv.length=384)(hs:dcR s)(ha:a≤n)(hk:k<6):CallEx Tryz.prog 279 [.ptr i 0 0,.ptr (H.length+4) 1 0,.ptr (H.length+5) 1 0,.int .i64 (k:Int)] (uG H i j v n a X (mW m) (sB s) K)
  (fun w H'=>match zkh q n m s k a with
   | .ok y a'=>w= .int .i64 0∧H'=uG H i j v n a' X (mW y.1) (sB y.2) K
   | .er e _=>w=ecd e∧∃ a m s,a≤n∧m.lv.length=384∧H'=uG H i j v n a X (mW m) (sB s) K):=by
 have hj:=(qA.1 hB).1;have g5:=fun a B4 B5=>zoS H i j v n a X B4 B5 K hX;have g4:=fun a B4 B5=>zoT H i j v n a X B4 B5 K hX;have s5:=fun a B4 B5 B=>zic H i j v n a X B4 B5 K hX B;have s4:=fun a B4 B5 B=>zj8 H i j v n a X B4 B5 K hX B;have gi:=fun a B4 B5=>zr2 H i j v n a X B4 B5 K hi;have gj:=fun a B4 B5=>zr1 H i j v n a X B4 B5 K hB hne;have si:=fun a B4 B5 a'=>zj7 H i j v n a X B4 B5 K hi a';have hlm:=zw m hml;have hzl:z64.length=64:=by simp[z64]
 have po:=fun K=>zqm k K hk;have lo:=fun x K=>ziM x K;have hq3:k - 3<3:=om;have hsk:=hs (k - 3);have gd:=zwF s (k - 3) hq3;have sd:=zuM s (k - 3) hq3;have l8:(stc s).length=8:=rfl;have hsL:=fun m l=>zl7 m k l;have t1:=zdu i j v q n a _ (gi a (mW m) (sB s)) (gj _ _ _) hne ha hn hq;rw[si]at t1;generalize hres:zkh q n m s k a=res;unfold zkh tkD at hres;simp only[show((4095:Nat):Int)=4095 from rfl]at hres;refine CallEx.body (F0:=[(0,.ptr i 0 0),(1,.ptr (H.length+4) 1 0),(2,.ptr (H.length+5) 1 0),(3,.int .i64 (k:Int))]) Tryz.func279 rfl Tryz.ntmps279 Tryz.results279 rfl kr rfl ?_;refine PW.e ?_;cases h1:tkS q n a with
 | er e a1=>
  have he:=zeL h1;rw[h1]at t1 hres;simp only[rvS,Rr.at,Rr.bind_er]at t1 hres;have d0:((e:Int)+1 !=0)=true:=by simp;omega
  refine PW.f (fun K k=>by simp(disch:=omega) only[go_sem,↓reduceIte,reduceCtorEq];refine VCx.call (t1) rfl ?_;simp(disch:=omega) only[go_sem,↓reduceIte,reduceCtorEq];exact k) ?_;refine PW.g d0 ?_;refine PW.t ?_;refine PW.e ?_;refine PW.ret ⟨_,rfl,.inl ?_⟩;rw[←hres];exact⟨rfl,a1,m,s,om,hml,rfl⟩
 | ok dx a1=>
  have hb:=zcn h1 ha;rw[h1]at t1 hres;simp only[rvS,Rr.at]at t1;rw[Rr.bind_ok]at hres;refine PW.f (fun K k=>by simp(disch:=omega) only[go_sem,↓reduceIte,reduceCtorEq];refine VCx.call (t1) rfl ?_;simp(disch:=omega) only[go_sem,↓reduceIte,reduceCtorEq];exact k) ?_;refine PW.e ?_;refine PW.us ?_;have po1:=fun K=>po K;(repeat refine PW.seq ?_);refine PW.draw mix kr fun K hK=> ?_;simp(disch:=omega) only[go_sem,↓reduceIte,reduceCtorEq];refine VCy.call (po1 _) rfl ?_;simp(disch:=omega) only[go_sem,↓reduceIte,reduceCtorEq,g5,zgl,zgm,gd];refine hK _ _ ?_;clear hK K;have lo1:=fun K=>lo (dcS s (k - 3)+dx) K;generalize hxx:dcS s (k - 3)+dx=x at *;cases hwx:win x 4095 with
  | false=>
   rw[hwx]at lo1 hres;rw[if_neg (by decide)]at hres;simp only[Rr.bind_er]at hres;(repeat refine PW.seq ?_);refine PW.rg rfl fun K hK=> ?_;simp(disch:=omega) only[go_sem,↓reduceIte,reduceCtorEq];refine VCx.call (lo1 _) rfl ?_;simp(disch:=omega) only[go_sem,↓reduceIte,reduceCtorEq];refine hK _ _ ?_;clear hK K;refine PW.t ?_;refine PW.e ?_;refine PW.ret ⟨_,rfl,.inl ?_⟩;rw[←hres];exact⟨rfl,a1,m,s,hb.2.2,hml,rfl⟩
  | true=>
   have hxb:=zeG hwx;rw[hwx]at lo1 hres;rw[if_pos rfl,Rr.bind_ok]at hres;(repeat refine PW.seq ?_);refine PW.rg rfl fun K hK=> ?_;simp(disch:=omega) only[go_sem,↓reduceIte,reduceCtorEq];refine VCx.call (lo1 _) rfl ?_;simp(disch:=omega) only[go_sem,↓reduceIte,reduceCtorEq];refine hK _ _ ?_;clear hK K;refine PW.us ?_;(repeat refine PW.seq ?_);refine PW.drawi [H.length+5] [(2,[0]),(32,[0]),(36,[0]),(37,[0]),(38,[0])] [] [34] mix kr (by simp<;>omega) fun K hK=> ?_;refine sqz ?_;refine VCj.read (fun _ _=>po1 _) rfl ?_;simp(disch:=omega) only[go_sem,↓reduceIte,reduceCtorEq,g5,s5,zgl,zgm,zpH,sd,l8,zks];refine hK _ _ ?_;clear hK K;cases hbk:zdo q n 1 a1 with
   | er e a2=>
    have hbe:=zkk _ _ _ _ hbk hb.2.2;rw[hbk,Rr.bind_er]at hres;have hil:(is z64).length=64:=by rw[zar,hzl]
    have hic:=zaR z64;have d9:=zad m k z64 hk hzl hml;have hlm9:=zw _ d9;have hs0:=zl8 m k z64 x hk hzl hml;have d8:=zad m k (z64.set 0 x) hk (by rw[List.length_set];exact hzl) hml;(repeat refine PW.seq ?_);refine PW.drawi [i,H.length+4] [(0,[0]),(1,[1]),(40,[1]),(42,[0]),(46,[1]),(47,[1]),(48,[1])] [] [] mix kr (by simp<;>omega) fun K hK=> ?_;refine sqz ?_;refine VCj.wr1 (gi a1 (mW m) (sB (zcW s (k - 3) x))) (fun L hL hG=>zf5 i j v q n a1 1 L hL ((hG.out _ (by simp;omega)).trans (gj _ _ _)) hne hb.2.2 hn hq om) (by simp(disch:=omega) only[go_sem,↓reduceIte,reduceCtorEq]) (.inl rfl) rfl ?_;rw[si,hbk];simp only[rvB,Rr.at];generalize hZ:is z64=Z at *;simp(disch:=omega) only[go_sem,↓reduceIte,reduceCtorEq,g4,s4,zW,zX,zcl,hlm,hil,hic];refine hK _ _ ?_;clear hK K;rw[←hZ];simp only[hsL,za4];refine PW.f (fun K k=>by simp(disch:=omega) only[go_sem,↓reduceIte,reduceCtorEq,g4,s4,zW,zX,zcl,hlm9,hs0,za4];exact k) ?_;refine PW.e ?_;refine PW.ret ⟨_,rfl,.inl ?_⟩;rw[←hres];exact⟨rfl,a2,_,_,om,d8,rfl⟩
   | ok l a2=>
    have hbo:=zeO _ _ _ _ hbk hb.2.2;have hll:l.length=64:=by rw[hbo.2.2,hzl]
    rw[hbk,Rr.bind_ok]at hres;have hil:(is l).length=64:=by rw[zar,hll]
    have hic:=zaR l;have d9:=zad m k l hk hll hml;have hlm9:=zw _ d9;have hs0:=zl8 m k l x hk hll hml;(repeat refine PW.seq ?_);refine PW.drawi [i,H.length+4] [(0,[0]),(1,[1]),(40,[1]),(42,[0]),(46,[1]),(47,[1]),(48,[1])] [] [] mix kr (by simp<;>omega) fun K hK=> ?_;refine sqz ?_;refine VCj.wr1 (gi a1 (mW m) (sB (zcW s (k - 3) x))) (fun L hL hG=>zf5 i j v q n a1 1 L hL ((hG.out _ (by simp;omega)).trans (gj _ _ _)) hne hb.2.2 hn hq om) (by simp(disch:=omega) only[go_sem,↓reduceIte,reduceCtorEq]) (.inl rfl) rfl ?_;rw[si,hbk];simp only[rvB,Rr.at];simp(disch:=omega) only[go_sem,↓reduceIte,reduceCtorEq,g4,s4,zW,zX,zcl,hlm,hil,hic];refine hK _ _ ?_;clear hK K;simp only[hsL,za4];refine PW.f (fun K k=>by simp(disch:=omega) only[go_sem,↓reduceIte,reduceCtorEq,g4,s4,zW,zX,zcl,hlm9,hs0,za4];exact k) ?_;refine PW.e ?_;refine PW.ret ⟨_,rfl,.inl ?_⟩;rw[←hres];exact⟨rfl,rfl⟩
end
end Go.Proofs.YtpjlfoficnpfoaaGreatDoor.Sc
namespace Go.Proofs.YtpjlfoficnpfoaaGreatDoor.Sc
set_option linter.all false
open Pm Ty Go.RowKit
def alc(m:Mb):Mb:={ m with ca:=true,cb:=true,cc:=true,cd:=true,ce:=true,cf:=true }
def zgS(c:Cx)(q:List UInt8)(n:Nat)(m:Mb)(s:St)(a:Nat):Rr (Mb×St):=(zbP c q n true m s a).bind fun z a3=>(zbE q n true z.1 a3).bind fun m a4=>zaS q n 6 m z.2 a4
theorem zpA(m:Mb)(n:Nat)(b:Bool):(zbR m n b).k=m.k:=by
 unfold zbR;repeat' split
 all_goals rfl
theorem zvp(m:Mb):qC 18 (mbc m)++ .bool true:: .bool true:: .bool true:: .bool true:: .bool true:: .bool true::List.drop 24 (mbc m)=mbc (alc m):=rfl
theorem zvo(m:Mb)(k:Nat)(hk:k<6):(mbc m)[18+k]? =some (.bool (zdR (cdl m) k)):=by have:k=0∨k=1∨k=2∨k=3∨k=4∨k=5:=om;rcases this with rfl|rfl|rfl|rfl|rfl|rfl<;>rfl
theorem zmH(s:St):(stc s)[0]? =some (.int .i64 s.q):=rfl
theorem zuL(s:St)(x:Int):(stc s).set 0 (.int .i64 x)=stc { s with q:=x }:=rfl
theorem zuE{q:List UInt8}{n:Nat}{m:Mb}{s:St}{k a:Nat}{y:Mb×St}{a1:Nat}(h:zkh q n m s k a= .ok y a1)(ha:a≤n)(hml:m.lv.length=384)(hk:k<6)(hs:dcR s):a1≤n∧y.1.lv.length=384∧y.1.k=m.k∧dcR y.2:=by
 unfold zkh at h;cases h1:tkD q n (dcS s (k - 3)) 4095 a with
 | er e a2=>rw[h1]at h;cases h
 | ok d a2=>
  have b1:=zgQ h1 ha;rw[h1,Rr.bind_ok]at h;cases h2:zdo q n 1 a2 with
  | er e a3=>rw[h2]at h;cases h
  | ok l a3=>have b2:=zeO _ _ _ _ h2 b1.2.2;rw[h2,Rr.bind_ok]at h;injection h with e1 e2;subst e1 e2;exact⟨b2.2.1,zad m k _ hk (by rw[List.length_set,b2.2.2];simp[z64]) hml,rfl,znk hs (k - 3) om⟩
section
variable (H:za) (i j v:Nat) (q:List UInt8) (n:Nat) (X:za) (c:Cx) (hi:i<H.length) (hB:H[j]? =some (rB q v)) (hne:i≠j) (hX:X.length=4) (hn:n≤8 * q.length) (hq:q.length≤100000000)
include hi hB hne hX hn hq
set_option maxHeartbeats 8000000 in
theorem zrr(m:Mb)(s:St)(a:Nat)(hml:m.lv.length=384)(hs:dcR s)(hsq:1≤s.q∧s.q≤31)(ha:a≤n)(hk:m.k=1∨m.k=2):CallEx Tryz.prog 196 [.ptr i 0 0,.agg (cxc c),.ptr (H.length+4) 1 0,.ptr (H.length+5) 1 0] (uG H i j v n a X (mW m) (sB s) []) (zwP H i j v n X (zgS c q n (alc m) s a)):=by
 have hj:=(qA.1 hB).1;have g6:=fun a B4 B5 K B=>zuu H i j v n a X B4 B5 K hX B;have g5:=fun a B4 B5 K=>zoS H i j v n a X B4 B5 K hX;have g4:=fun a B4 B5 K=>zoT H i j v n a X B4 B5 K hX;have s5:=fun a B4 B5 K B=>zic H i j v n a X B4 B5 K hX B;have s4:=fun a B4 B5 K B=>zj8 H i j v n a X B4 B5 K hX B;have gi:=fun a B4 B5 K=>zr2 H i j v n a X B4 B5 K hi;have gj:=fun a B4 B5 K=>zr1 H i j v n a X B4 B5 K hB hne;have si:=fun a B4 B5 K a'=>zj7 H i j v n a X B4 B5 K hi a';have c1:=zdT c;have l1:(cxc c).length=4:=rfl;have tk1:qC 4 (cxc c)=cxc c:=rfl;have hlen:=zcS H i j v n a X (mW m) (sB s) [] hX;have bo:=fun K=>znq c K;have hzl:z64.length=64:=by simp[z64]
 generalize hres:zgS c q n (alc m) s a=res;unfold zgS zbP at hres;rw[if_pos rfl]at hres;refine CallEx.body (F0:=[(0,.ptr i 0 0),(1,.agg (cxc c)),(2,.ptr (H.length+4) 1 0),(3,.ptr (H.length+5) 1 0)]) Tryz.func196 rfl Tryz.ntmps196 Tryz.results196 rfl kr rfl ?_;refine PW.g c1 ?_;refine PW.at [0,2,3,5] (F1:=[(0,.ptr i 0 0),(2,.ptr (H.length+4) 1 0),(3,.ptr (H.length+5) 1 0),(5,.ptr (H.length+6) 0 0)]) (H1:=uG H i j v n a X (mW m) (sB s) [⟨165,0,cxc c⟩]) ?_ (by simp[kp,slot,Nat.beq,hlen]) (zgM _ _ _ _ _ _ _ _ _ _ _);refine PW.e ?_;clear hlen;suffices hrest:∀(m:Mb) (a:Nat),m.lv.length=384→(m.k=1∨m.k=2)→a≤n→(((tkS q n a).bind fun d a2=>if vqB (s.q+d)then Rr.ok ({ alc m with dl:=d },{ s with q:=s.q+d }) a2 else .er 2 a2).bind fun z a3=>(zbE q n true z.1 a3).bind fun m a4=>zaS q n 6 m z.2 a4)=res→PW Tryz.prog _ _ [(0,.ptr i 0 0),(2,.ptr (H.length+4) 1 0),(3,.ptr (H.length+5) 1 0),(5,.ptr (H.length+6) 0 0)] (uG H i j v n a X (mW m) (sB s) [⟨165,0,cxc c⟩]) _ by
  have hlm:=zw m hml;refine PW.m (nq2 g6 (nq2 tk1 l1)) bo ?_;cases hbv:bcx c with
  | false=>
   rw[hbv,if_neg (by decide),Rr.bind_ok]at hres;refine PW.us ?_;exact PW.at [0,2,3,5] (hrest m a hml hk ha hres) rfl rfl
  | true=>
   rw[hbv,if_pos rfl]at hres;have bt:=zjO i j v q n a _ (gi a (mW m) (sB s) [⟨165,0,cxc c⟩]) (gj _ _ _ _) hne ha hn hq;rw[si]at bt;refine PW.t ?_;cases hf:tkF q n a with
   | ok b a1=>
    obtain⟨rfl,h2,_⟩:=zdi hf;rw[hf,Rr.bind_ok,Rr.bind_ok]at hres;rw[hf]at bt;simp only[rvF,Rr.at]at bt;(repeat refine PW.seq ?_);refine PW.rg rfl fun K hK=> ?_;simp(disch:=omega) only[go_sem,↓reduceIte,reduceCtorEq];refine VCx.call (bt) rfl ?_;simp(disch:=omega) only[go_sem,↓reduceIte,reduceCtorEq,g4,s4,zW,zX,zcl,hlm,zju,za4];refine hK _ _ ?_;clear hK K;refine PW.e ?_;refine PW.us ?_;exact PW.at [0,2,3,5] (hrest { m with fd:=b } (a+1) hml hk om hres) rfl rfl
   | er e a1=>obtain⟨rfl,rfl,h2⟩:=zf8 hf;rw[hf]at bt hres;simp only[Rr.bind_er]at hres;simp only[rvF,Rr.at]at bt;(repeat refine PW.seq ?_);refine PW.rg rfl fun K hK=> ?_;simp(disch:=omega) only[go_sem,↓reduceIte,reduceCtorEq];refine VCx.call (bt) rfl ?_;simp(disch:=omega) only[go_sem,↓reduceIte,reduceCtorEq,g4,s4,zW,zX,zcl,hlm,zju,za4];refine hK _ _ ?_;clear hK K;refine PW.e ?_;refine PW.t ?_;refine PW.e ?_;refine PW.ret ⟨_,rfl,za5 hi hj hX ?_⟩;rw[←hres];exact⟨rfl,a1,{ m with fd:=false },s,ha,hml,rfl⟩
 clear hres ha hml hk;intro m a hml hk ha hres;have hlm:=zw m hml;have t1:=zdu i j v q n a _ (gi a (mW m) (sB s) [⟨165,0,cxc c⟩]) (gj _ _ _ _) hne ha hn hq;rw[si]at t1;cases h1:tkS q n a with
 | er e a1=>
  have he:=zeL h1;rw[h1]at t1 hres;simp only[rvS,Rr.at,Rr.bind_er]at t1 hres;have d0:((e:Int)+1 !=0)=true:=by simp;omega
  (repeat refine PW.seq ?_);refine PW.rg rfl fun K hK=> ?_;simp(disch:=omega) only[go_sem,↓reduceIte,reduceCtorEq];refine VCx.call (t1) rfl ?_;simp(disch:=omega) only[go_sem,↓reduceIte,reduceCtorEq,g4,s4,zW,zX,zcl,hlm,zjt,za4];refine hK _ _ ?_;clear hK K;refine PW.g d0 ?_;refine PW.t ?_;refine PW.e ?_;refine PW.ret ⟨_,rfl,za5 hi hj hX ?_⟩;rw[←hres];exact⟨rfl,a1,{ m with dl:=0 },s,om,hml,rfl⟩
 | ok d a1=>
  have hb:=zcn h1 ha;rw[h1]at t1 hres;simp only[rvS,Rr.at]at t1;rw[Rr.bind_ok]at hres;(repeat refine PW.seq ?_);refine PW.rg rfl fun K hK=> ?_;simp(disch:=omega) only[go_sem,↓reduceIte,reduceCtorEq];refine VCx.call (t1) rfl ?_;simp(disch:=omega) only[go_sem,↓reduceIte,reduceCtorEq,g4,s4,zW,zX,zcl,hlm,zjt,za4];refine hK _ _ ?_;clear hK K;refine PW.e ?_;refine PW.us ?_;have l8:(stc s).length=8:=rfl;(repeat refine PW.seq ?_);refine PW.drawt [] [] mix kr fun K hK=> ?_;simp(disch:=omega) only[go_sem,↓reduceIte,reduceCtorEq,g4,g5,s5,zgl,zgm,zpH,zW,zX,zt0,zmH,zuL,l8,zks];refine hK _ _ ?_;clear hK K;refine PW.at [0,2,3,5] (F1:=[(0,.ptr i 0 0),(2,.ptr (H.length+4) 1 0),(3,.ptr (H.length+5) 1 0),(5,.ptr (H.length+6) 0 0)]) (H1:=uG H i j v n a1 X (mW { m with dl:=d }) (sB { s with q:=s.q+d }) [⟨165,0,cxc c⟩]) ?_ rfl rfl;cases hv:vqB (s.q+d)with
  | false=>
   rw[hv,if_neg (by decide),Rr.bind_er]at hres;suffices h59:PW Tryz.prog _ _ [(0,.ptr i 0 0),(2,.ptr (H.length+4) 1 0),(3,.ptr (H.length+5) 1 0),(5,.ptr (H.length+6) 0 0),(59,.bool true)] (uG H i j v n a1 X (mW { m with dl:=d }) (sB { s with q:=s.q+d }) [⟨165,0,cxc c⟩]) _ by
    by_cases g1:s.q+d<1
    ·have d1:decide (s.q+d<1)=true:=decide_eq_true g1;refine PW.f (fun K k=>by simp(disch:=omega) only[go_sem,↓reduceIte,reduceCtorEq,g5,zgl,zgm,zmH,d1];exact k) ?_;exact PW.at [0,2,3,5,59] h59 rfl rfl
    ·have d1:decide (s.q+d<1)=false:=decide_eq_false g1;have d2:decide (31<s.q+d)=true:=decide_eq_true (by
      unfold vqB at hv;simp at hv;omega)
     refine PW.f (fun K k=>by simp(disch:=omega) only[go_sem,↓reduceIte,reduceCtorEq,g5,zgl,zgm,zmH,d1,d2];exact k) ?_;exact PW.at [0,2,3,5,59] h59 rfl rfl
   refine PW.t ?_;refine PW.e ?_;refine PW.ret ⟨_,rfl,za5 hi hj hX ?_⟩;rw[←hres];exact⟨rfl,a1,{ m with dl:=d },_,hb.2.2,hml,rfl⟩
  | true=>
   rw[hv,if_pos rfl,Rr.bind_ok]at hres;have hqb:1≤s.q+d∧s.q+d≤31:=by unfold vqB at hv;simp at hv;omega
   have d1:decide (s.q+d<1)=false:=decide_eq_false om;have d2:decide (31<s.q+d)=false:=decide_eq_false om;refine PW.f (fun K k=>by simp(disch:=omega) only[go_sem,↓reduceIte,reduceCtorEq,g5,zgl,zgm,zmH,d1,d2];exact k) ?_;refine PW.us ?_;have hlm1:=zw { m with dl:=d } hml;refine PW.f (fun K k=>by simp(disch:=omega) only[go_sem,↓reduceIte,reduceCtorEq,g4,s4,zW,zX,zcl,hlm1,zvp,za4,qD];exact k) ?_;have hdc:dcR { s with q:=s.q+d }:=fun k=>hs k;generalize hs2e:({ s with q:=s.q+d }:St)=s2 at *;have hM:({ alc m with dl:=d }:Mb)=alc { m with dl:=d }:=rfl;rw[hM]at hres;have hMl:(alc { m with dl:=d }).lv.length=384:=hml;have hMk:(alc { m with dl:=d }).k=1∨(alc { m with dl:=d }).k=2:=hk;generalize alc { m with dl:=d }=m9 at *;refine PW.at [0,2,3] (F1:=[(0,.ptr i 0 0),(2,.ptr (H.length+4) 1 0),(3,.ptr (H.length+5) 1 0)]) (H1:=uG H i j v n a1 X (mW m9) (sB s2) [⟨165,0,cxc c⟩]) ?_ rfl rfl;suffices hlv:∀(m:Mb) (a:Nat),m.lv.length=384→(m.k=1∨m.k=2)→a≤n→zaS q n 6 m s2 a=res→PW Tryz.prog _ _ [(0,.ptr i 0 0),(2,.ptr (H.length+4) 1 0),(3,.ptr (H.length+5) 1 0)] (uG H i j v n a X (mW m) (sB s2) [⟨165,0,cxc c⟩]) _ by
    rcases hMk with e1|e2
    ·have dk:(m9.k==2)=false:=by rw[e1];rfl
     unfold zbE at hres;rw[decide_eq_false (show ¬ m9.k=2 from om),Bool.false_and,if_neg (by decide),Rr.bind_ok]at hres;refine PW.f (fun K k=>by simp(disch:=omega) only[go_sem,↓reduceIte,reduceCtorEq,g4,zW,zX,zdn,dk];exact k) ?_;refine PW.us ?_;exact PW.at [0,2,3] (hlv m9 a1 hMl (.inl e1) hb.2.2 hres) rfl rfl
    ·have dk:(m9.k==2)=true:=by rw[e2];rfl
     unfold zbE at hres;rw[decide_eq_true e2,Bool.true_and,if_pos rfl]at hres;refine PW.f (fun K k=>by simp(disch:=omega) only[go_sem,↓reduceIte,reduceCtorEq,g4,zW,zX,zdn,dk];exact k) ?_;refine PW.t ?_;refine PW.e ?_;refine PW.l ?_;suffices hl1:∀(k:Nat) (m1:Mb) (a1:Nat),k≤6→m1.lv.length=384→m1.k=2→a1≤n→((zdv q n (6 - k) m1 a1).bind fun m a4=>zaS q n 6 m s2 a4)=res→PL Tryz.prog _ _ [(0,.ptr i 0 0),(2,.ptr (H.length+4) 1 0),(3,.ptr (H.length+5) 1 0),(10,.int .i64 (k:Int))] (uG H i j v n a1 X (mW m1) (sB s2) [⟨165,0,cxc c⟩]) _ by exact PL.at [0,2,3,10] (hl1 0 m9 a1 om hMl e2 hb.2.2 hres) rfl rfl
     clear hres hMl e2 dk t1 h1 hb;intro k m1 a1 hk6 hml1 hk1 ha1 hres;induction hdd:6 - k using qB generalizing k m1 a1 with
     | _ dd ih=>
      refine PL.round ?_;refine PW.e ?_;have hlm1:=zw m1 hml1;refine PW.c (fun h=> ?_) (fun h=> ?_);rotate_left
      ·have h6:k=6:=ofF h;subst h6;refine PW.exit ?_;have co:=fun K=>ztj m1 K hml1;have ehl:hlM m1=zlm m1:=by unfold hlM;rw[decide_eq_false om,Bool.false_or]
       have tkm:qC 408 (mbc m1)=mbc m1:=List.take_of_length_le om;rw[ehl]at co;simp only[qE,zdv]at hres;cases hac:zlm m1 with
       | true=>
        rw[hac]at co hres;rw[if_pos rfl,Rr.bind_ok]at hres;(repeat refine PW.seq ?_);refine PW.rg rfl fun K hK=> ?_;simp(disch:=omega) only[go_sem,↓reduceIte,reduceCtorEq,g4,zW,zX,hlm1,tkm];refine VCx.call (co _) rfl ?_;simp(disch:=omega) only[go_sem,↓reduceIte,reduceCtorEq];refine hK _ _ ?_;clear hK K;refine PW.us ?_;exact PW.at [0,2,3] (hlv m1 a1 hml1 (.inr hk1) ha1 hres) rfl rfl
       | false=>rw[hac]at co hres;rw[if_neg (by decide),Rr.bind_er]at hres;(repeat refine PW.seq ?_);refine PW.rg rfl fun K hK=> ?_;simp(disch:=omega) only[go_sem,↓reduceIte,reduceCtorEq,g4,zW,zX,hlm1,tkm];refine VCx.call (co _) rfl ?_;simp(disch:=omega) only[go_sem,↓reduceIte,reduceCtorEq];refine hK _ _ ?_;clear hK K;refine PW.t ?_;refine PW.e ?_;refine PW.ret ⟨_,rfl,za5 hi hj hX ?_⟩;rw[←hres];exact⟨rfl,a1,m1,s2,ha1,hml1,rfl⟩
      have h6:k<6:=ot h;obtain⟨n',hn'⟩:∃ n',6 - k=n'+1:=⟨5 - k,om⟩;have hkn:5 - n'=k:=om;rw[hn',zdv,hkn,Rr.bind_bind]at hres;have hnx:=fun m1 a1=>ih (6 - (k+1)) om (k+1) m1 a1 om;rw[show 6 - (k+1)=n' from om]at hnx;have hst:=fun b=>zqB m1 k b h6;refine PW.skip ?_;refine PW.b ?_;(repeat refine PW.seq ?_);refine PW.drawi [i,H.length+4] [(0,[0]),(2,[1]),(74,[1]),(76,[0]),(80,[1]),(81,[1]),(82,[1])] [] [] mix kr (by simp<;>omega) fun K hK=> ?_;refine sqz ?_;refine VCj.wr1 (gi a1 (mW m1) (sB s2) [⟨165,0,cxc c⟩]) (fun L hL hG=>zjO i j v q n a1 L hL ((hG.out _ (by simp;omega)).trans (gj _ _ _ _)) hne ha1 hn hq) (by simp(disch:=omega) only[go_sem,↓reduceIte,reduceCtorEq]) (.inl rfl) rfl ?_;rw[si];cases hf:tkF q n a1 with
      | ok b a2=>
       obtain⟨rfl,h2,_⟩:=zdi hf;rw[hf,Rr.bind_ok]at hres;simp only[rvF,Rr.at];simp(disch:=omega) only[go_sem,↓reduceIte,reduceCtorEq,g4,s4,zW,zX,zcl,hlm1,hst,za4];refine hK _ _ ?_;clear hK K;refine PW.e ?_;refine PW.us ?_;refine PW.e ?_;exact PL.at [0,2,3,10] (hnx (zbR m1 k b) (a1+1) (by rw[zdA];exact hml1) (by rw[zpA];exact hk1) om hres rfl) rfl rfl
      | er e a2=>obtain⟨rfl,rfl,h2⟩:=zf8 hf;rw[hf,Rr.bind_er]at hres;simp only[rvF,Rr.at];simp(disch:=omega) only[go_sem,↓reduceIte,reduceCtorEq,g4,s4,zW,zX,zcl,hlm1,hst,za4];refine hK _ _ ?_;clear hK K;refine PW.e ?_;refine PW.t ?_;refine PW.e ?_;refine PW.ret ⟨_,rfl,za5 hi hj hX ?_⟩;rw[←hres];exact⟨rfl,a2,zbR m1 k false,s2,ha1,by rw[zdA];exact hml1,rfl⟩
   clear hres hMl hMk t1 h1 hlm1;intro m a hml hk ha hres;refine PW.e ?_;refine PW.l ?_;suffices hl1:∀(k:Nat) (m1:Mb) (s1:St) (a1:Nat),k≤6→m1.lv.length=384→dcR s1→(m1.k=1∨m1.k=2)→a1≤n→zaS q n (6 - k) m1 s1 a1=res→PL Tryz.prog _ _ [(0,.ptr i 0 0),(2,.ptr (H.length+4) 1 0),(3,.ptr (H.length+5) 1 0),(11,.int .i64 (k:Int))] (uG H i j v n a1 X (mW m1) (sB s1) [⟨165,0,cxc c⟩]) _ by exact PL.at [0,2,3,11] (hl1 0 m s2 a om hml hdc hk ha hres) rfl rfl
   clear hres ha hml hk hdc;intro k m1 s1 a1 hk6 hml hs1 hk ha hres;induction hdd:6 - k using qB generalizing k m1 s1 a1 with
   | _ dd ih=>
    refine PL.round ?_;refine PW.e ?_;have hlm1:=zw m1 hml;refine PW.c (fun h=> ?_) (fun h=> ?_);rotate_left
    ·have h6:k=6:=ofF h;subst h6;refine PW.exit ?_;simp only[qE,zaS]at hres;refine PW.e ?_;refine PW.ret ⟨_,rfl,za5 hi hj hX ?_⟩;rw[←hres];exact⟨rfl,rfl⟩
    have h6:k<6:=ot h;obtain⟨n',hn'⟩:∃ n',6 - k=n'+1:=⟨5 - k,om⟩;have hkn:5 - n'=k:=om;rw[hn',zaS,hkn]at hres;have hnx:=fun m1 s1 a1=>ih (6 - (k+1)) om (k+1) m1 s1 a1 om;rw[show 6 - (k+1)=n' from om]at hnx;clear ih;have hgx:=zvo m1 k h6;refine PW.skip ?_;refine PW.b ?_;refine PW.f (fun K k=>by simp(disch:=omega) only[go_sem,↓reduceIte,reduceCtorEq,g4,zW,zX,hgx];exact k) ?_;generalize zdR (cdl m1) k=fg at *;cases fg with
    | false=>
     rw[if_neg (by decide)]at hres;refine PW.t ?_;refine PW.exit ?_;refine PW.e ?_;exact PL.at [0,2,3,11] (hnx m1 s1 a1 hml hs1 hk ha hres rfl) rfl rfl
    | true=>
     rw[if_pos rfl]at hres;refine PW.us ?_;have hsL:=fun m l=>zl7 m k l;by_cases hk2:m1.k=2
     ·rw[if_pos hk2]at hres;have d1:(m1.k==2)=true:=by simp[hk2]
      refine PW.f (fun K k=>by simp(disch:=omega) only[go_sem,↓reduceIte,reduceCtorEq,g4,zW,zX,zdn,d1];exact k) ?_;refine PW.t ?_;(repeat refine PW.seq ?_);refine PW.drawi [i,H.length+4] [(0,[0]),(2,[1]),(108,[1]),(110,[0]),(114,[1]),(115,[1]),(116,[1])] [] [] mix kr (by simp<;>omega) fun K hK=> ?_;refine sqz ?_;refine VCj.wr1 (gi a1 (mW m1) (sB s1) [⟨165,0,cxc c⟩]) (fun L hL hG=>zf5 i j v q n a1 0 L hL ((hG.out _ (by simp;omega)).trans (gj _ _ _ _)) hne ha hn hq om) (by simp(disch:=omega) only[go_sem,↓reduceIte,reduceCtorEq]) (.inl rfl) rfl ?_;rw[si];cases hbk:zdo q n 0 a1 with
      | er e a2=>
       have hbe:=zkk _ _ _ _ hbk ha;rw[hbk,Rr.bind_er]at hres;simp only[rvB,Rr.at];have hil:(is z64).length=64:=by rw[zar,hzl]
       have hic:=zaR z64;have d9:=zad m1 k z64 h6 hzl hml;have d0:((e:Int)+1==0)=false:=by simp;omega
       have d7:((e:Int)+1 !=0)=true:=by simp;omega
       generalize hZ:is z64=Z at *;simp(disch:=omega) only[go_sem,↓reduceIte,reduceCtorEq,g4,s4,zW,zX,zcl,hlm1,hil,hic];refine hK _ _ ?_;clear hK K;rw[←hZ];simp only[hsL,za4];refine PW.g d0 ?_;refine PW.us ?_;refine PW.g d7 ?_;refine PW.t ?_;refine PW.e ?_;refine PW.ret ⟨_,rfl,za5 hi hj hX ?_⟩;rw[←hres];exact⟨rfl,a2,za3 m1 k z64,s1,om,d9,rfl⟩
      | ok l a2=>
       have hbo:=zeO _ _ _ _ hbk ha;have hll:l.length=64:=by rw[hbo.2.2,hzl]
       rw[hbk,Rr.bind_ok]at hres;simp only[rvB,Rr.at];have hil:(is l).length=64:=by rw[zar,hll]
       have hic:=zaR l;have d9:=zad m1 k l h6 hll hml;have hlm9:=zw _ d9;have hgl:=zqC m1 k l h6 hll hml;have ez:=ztT l hll;simp(disch:=omega) only[go_sem,↓reduceIte,reduceCtorEq,g4,s4,zW,zX,zcl,hlm1,hil,hic];refine hK _ _ ?_;clear hK K;simp only[hsL,za4];by_cases hz:l=z64
       ·rw[if_pos hz]at hres;rw[decide_eq_true hz]at ez;refine PW.f (fun K k=>by simp(disch:=omega) only[go_sem,↓reduceIte,reduceCtorEq,g4,zW,zX,hlm9,hgl,hil,ez];exact k) ?_;refine PW.t ?_;refine PW.e ?_;refine PW.e ?_;refine PW.t ?_;refine PW.e ?_;refine PW.ret ⟨_,rfl,za5 hi hj hX ?_⟩;rw[←hres];exact⟨rfl,a2,za3 m1 k l,s1,hbo.2.1,d9,rfl⟩
       ·rw[if_neg hz]at hres;rw[decide_eq_false hz]at ez;refine PW.f (fun K k=>by simp(disch:=omega) only[go_sem,↓reduceIte,reduceCtorEq,g4,zW,zX,hlm9,hgl,hil,ez];exact k) ?_;refine PW.us ?_;refine PW.e ?_;refine PW.us ?_;refine PW.e ?_;exact PL.at [0,2,3,11] (hnx (za3 m1 k l) s1 a2 d9 hs1 hk hbo.2.1 hres rfl) rfl rfl
     ·rw[if_neg hk2]at hres;have d1:(m1.k==2)=false:=by simp[hk2]
      have hin:((zkh q n m1 s1 k a1).bind fun y a=>zaS q n n' y.1 y.2 a)=res:=by rw[←hres];unfold zkh;rw[Rr.bind_bind];congr 1;funext d a;rw[Rr.bind_bind];rfl
      have ir:=zoj H i j v q n X [⟨165,0,cxc c⟩] hi hB hne hX hn hq m1 s1 k a1 hml hs1 ha h6;refine PW.f (fun K k=>by simp(disch:=omega) only[go_sem,↓reduceIte,reduceCtorEq,g4,zW,zX,zdn,d1];exact k) ?_;refine PW.u ?_;(repeat refine PW.seq ?_);refine PW.rg rfl fun K hK=> ?_;simp(disch:=omega) only[go_sem,↓reduceIte,reduceCtorEq];refine VCx.callR ir rfl fun w H' hR=> ?_;cases hti:zkh q n m1 s1 k a1 with
      | er e a2=>
       rw[hti]at hR hin;obtain⟨rfl,a4,m4,s4',h1,h2,rfl⟩:=hR;rw[Rr.bind_er]at hin;have d7:((e:Int)+1 !=0)=true:=by simp;omega
       simp(disch:=omega) only[go_sem,↓reduceIte,reduceCtorEq,ecd];refine hK _ _ ?_;clear hK K;refine PW.g d7 ?_;refine PW.t ?_;refine PW.e ?_;refine PW.ret ⟨_,rfl,za5 hi hj hX ?_⟩;rw[←hin];exact⟨rfl,a4,m4,s4',h1,h2,rfl⟩
      | ok y a2=>obtain⟨b1,b2,b3,b4⟩:=zuE hti ha hml h6 hs1;rw[hti]at hR hin;obtain⟨rfl,rfl⟩:=hR;rw[Rr.bind_ok]at hin;simp(disch:=omega) only[go_sem,↓reduceIte,reduceCtorEq];refine hK _ _ ?_;clear hK K;refine PW.e ?_;refine PW.us ?_;refine PW.e ?_;exact PL.at [0,2,3,11] (hnx y.1 y.2 a2 b2 b4 (by rw[b3];exact hk) b1 hin rfl) rfl rfl
end
end Go.Proofs.YtpjlfoficnpfoaaGreatDoor.Sc
namespace Go.Proofs.YtpjlfoficnpfoaaGreatDoor.Sc
set_option linter.all false
open Pm Ty Go.RowKit
def zdr(k:Int)(x:Rr (Mb×St)):Rr (Mb×St):=x.bind fun y a=>.ok (y.1,aft y.2 k) a
theorem zrL(s:St)(d:Nat):sXs (aft s 2) d=sXs s d:=by unfold sXs aft;simp
theorem zrK(s:St)(d:Nat):sYs (aft s 2) d=sYs s d:=by unfold sYs aft;simp
theorem zrJ(s:St)(d:Nat)(x y:Int):zbg (aft s 2) d x y=aft (zbg s d x y) 2:=by unfold zbg;split<;>rfl
theorem zo7(c:Cx)(q:List UInt8)(n:Nat)(m:Mb)(s:St)(d k a:Nat):zcT c q n m (aft s 2) d k a=zdr 2 (zcT c q n m s d k a):=by unfold zcT zdr;rw[zrL,zrK];simp only[Rr.bind_bind,Rr.bind_ok,zrJ]
theorem zkf(c:Cx)(q:List UInt8)(n d:Nat):∀(r k:Nat) (m:Mb) (s:St) (a:Nat),zbO c q n d r k m (aft s 2) a=zdr 2 (zbO c q n d r k m s a)
 | 0,k,m,s,a=>rfl
 | r+1,k,m,s,a=>by simp only[zbO,zo7,zdr,Rr.bind_bind,Rr.bind_ok];congr 1;funext x a1;exact zkf c q n d r (k+1) x.1 x.2 a1
theorem zki(c:Cx)(q:List UInt8)(n:Nat):∀(r d:Nat) (m:Mb) (s:St) (a:Nat),zbu c q n r d m (aft s 2) a=zdr 2 (zbu c q n r d m s a)
 | 0,d,m,s,a=>rfl
 | r+1,d,m,s,a=>by
  have h1:zeN c q n m (aft s 2) d a=zdr 2 (zeN c q n m s d a):=by
   unfold zeN;split
   ·exact zkf c q n d _ 0 m s a
   ·rfl
  simp only[zbu,h1,zdr,Rr.bind_bind,Rr.bind_ok];congr 1;funext x a1;exact zki c q n r (d+1) x.1 x.2 a1
theorem zo8(c:Cx)(q:List UInt8)(n:Nat)(m:Mb)(s:St)(a:Nat):zbD c q n m (aft s m.k) a=zdr m.k (zbD c q n m s a):=by
 unfold zbD;split
 ·rename_i h;rw[h];simp only[zdr,Rr.bind_bind];congr 1;funext x a1;exact zki c q n 2 0 x s a1
 ·rfl
theorem zkj(c:Cx)(q:List UInt8)(n:Nat)(hl:Bool)(m:Mb)(s:St)(k:Int)(a:Nat):zbP c q n hl m (aft s k) a=zdr k (zbP c q n hl m s a):=by
 unfold zbP;split
 ·simp only[zdr,Rr.bind_bind];congr 1;funext x a1;congr 1;funext d a2;show(if vqB (s.q+d)=true then _ else _)=_;split<;>rfl
 ·rfl
theorem zv2(s:St)(p:Nat):dcS (aft s 1) p=dcS s p:=by unfold dcS aft;simp
theorem zrM(s:St)(p:Nat)(x:Int):zcW (aft s 1) p x=aft (zcW s p x) 1:=by unfold zcW;split<;>(try split)<;>rfl
theorem zeM(q:List UInt8)(n:Nat):∀(r:Nat) (m:Mb) (s:St) (k:Int) (a:Nat),(m.k=2∨k=1)→zaS q n r m (aft s k) a=zdr k (zaS q n r m s a)
 | 0,m,s,k,a,_=>rfl
 | r+1,m,s,k,a,h=>by
  simp only[zaS];split
  ·split
   ·simp only[zdr,Rr.bind_bind];congr 1;funext l a1;split
    ·rfl
    ·exact zeM q n r _ s k a1 (by rename_i h2 _;exact .inl h2)
   ·rename_i h2;rcases h with h|rfl
    ·exact absurd h h2
    rw[zv2];simp only[zdr,Rr.bind_bind];congr 1;funext d a1;congr 1;funext l a2;rw[zrM];exact zeM q n r _ _ 1 a2 (.inr rfl)
  ·exact zeM q n r m s k a h
theorem znU(m:Mb)(d k:Nat)(x:Int):cdl (zej m d k x)=cdl m:=by unfold zej;split<;>split<;>rfl
theorem znT(m:Mb)(d k:Nat)(x y:Int):cdl (zaJ m d k x y)=cdl m:=by unfold zaJ;split<;>split<;>rfl
theorem Rr.bind_eq{α β:Type}{x:Rr α}{f:α→Nat→Rr β}{y:β}{a:Nat}(h:x.bind f= .ok y a):∃ v a1,x= .ok v a1∧f v a1= .ok y a:=by
 cases x with
 | ok v a1=>exact⟨v,a1,rfl,h⟩
 | er e a1=>cases h
theorem zuB{c:Cx}{q:List UInt8}{n:Nat}{m:Mb}{s:St}{d k a:Nat}{y:Mb×St}{a1:Nat}(h:zcT c q n m s d k a= .ok y a1):cdl y.1=cdl m:=by
 unfold zcT at h;obtain⟨m',a2,h1,h⟩:=Rr.bind_eq h;obtain⟨x,a3,_,h⟩:=Rr.bind_eq h;obtain⟨z,a4,_,h⟩:=Rr.bind_eq h;injection h with e1 _;subst e1;rw[znT];split at h1
 ·obtain⟨b,a5,_,h1⟩:=Rr.bind_eq h1;injection h1 with e1 _;subst e1;rw[znU]
 ·injection h1 with e1 _;rw[e1]
theorem zo4{c:Cx}{q:List UInt8}{n d:Nat}:∀(r k:Nat) (m:Mb) (s:St) (a:Nat) {y:Mb×St} {a1:Nat},zbO c q n d r k m s a= .ok y a1→cdl y.1=cdl m
 | 0,k,m,s,a,y,a1,h=>by
  simp only[zbO]at h;injection h with e1 _;rw[←e1]
 | r+1,k,m,s,a,y,a1,h=>by simp only[zbO]at h;obtain⟨x,a2,h1,h⟩:=Rr.bind_eq h;rw[zo4 r (k+1) x.1 x.2 a2 h,zuB h1]
theorem zpa{c:Cx}{q:List UInt8}{n:Nat}:∀(r d:Nat) (m:Mb) (s:St) (a:Nat) {y:Mb×St} {a1:Nat},zbu c q n r d m s a= .ok y a1→cdl y.1=cdl m
 | 0,d,m,s,a,y,a1,h=>by
  simp only[zbu]at h;injection h with e1 _;rw[←e1]
 | r+1,d,m,s,a,y,a1,h=>by
  simp only[zbu]at h;obtain⟨x,a2,h1,h⟩:=Rr.bind_eq h;rw[zpa r (d+1) x.1 x.2 a2 h];unfold zeN at h1;split at h1
  ·exact zo4 _ _ _ _ _ h1
  ·injection h1 with e1 _;rw[←e1]
theorem zuD{c:Cx}{q:List UInt8}{n:Nat}{m:Mb}{s:St}{a:Nat}{y:Mb×St}{a1:Nat}(h:zbD c q n m s a= .ok y a1):cdl y.1=cdl m:=by
 unfold zbD at h;split at h
 ·obtain⟨m',a2,h1,h⟩:=Rr.bind_eq h;rw[zpa _ _ _ _ _ h];split at h1
  ·obtain⟨b,a5,_,h1⟩:=Rr.bind_eq h1;injection h1 with e1 _;rw[←e1];rfl
  ·injection h1 with e1 _;rw[e1]
 ·injection h with e1 _;rw[←e1]
theorem zid{q:List UInt8}{n:Nat}{m:Mb}(hm:cdl m=[false,false,false,false,false,false])(s:St)(a:Nat):zaS q n 6 m s a= .ok (m,s) a:=by simp only[zaS,hm];rfl
theorem zpc(c:Cx)(q:List UInt8)(n:Nat)(m:Mb)(s:St)(a:Nat):zbP c q n true (alc m) s a=(zbP c q n true m s a).bind fun z a=>.ok (alc z.1,z.2) a:=by
 unfold zbP;rw[if_pos rfl,if_pos rfl];cases hb:bcx c with
 | false=>
  rw[if_neg (by decide),if_neg (by decide),Rr.bind_ok,Rr.bind_ok,Rr.bind_bind];congr 1;funext d a2;split<;>rfl
 | true=>rw[if_pos rfl,if_pos rfl];simp only[Rr.bind_bind,Rr.bind_ok];congr 1;funext b a1;congr 1;funext d a2;split<;>rfl
theorem zpe(q:List UInt8)(n:Nat)(m:Mb)(a:Nat):zdv q n 6 (alc m) a=zdv q n 6 m a:=by simp only[zdv];congr 1
def zu5(c:Cx)(q:List UInt8)(n:Nat)(m:Mb)(hl:Bool)(s:St)(a:Nat):Rr (Mb×St):=(zbD c q n (zdt m) (aft s m.k) a).bind fun y a2=>if hl then zgS c q n (alc y.1) y.2 a2 else .ok y a2
theorem zmD{c:Cx}{q:List UInt8}{n a:Nat}{m:Mb}{hl:Bool}{a1:Nat}(h:zbW c q n a= .ok (m,hl) a1):(m=inMb∧hl=true)∨(m=zMb∧hl=false)∨∃ v,m=zn8 v:=by
 unfold zbW at h;split at h
 ·injection h with e _;injection e with e1 e2;exact .inl ⟨e1.symm,e2.symm⟩
 ·obtain⟨v,a2,_,h⟩:=Rr.bind_eq h;generalize (if c.t=2 then 3 else 7:Nat)=last at h;split at h
  ·cases h
  ·split at h
   ·injection h with e _;injection e with e1 e2;exact .inl ⟨e1.symm,e2.symm⟩
   ·split at h
    ·injection h with e _;injection e with e1 e2;exact .inr (.inl ⟨e1.symm,e2.symm⟩)
    ·injection h with e _;injection e with e1 e2;exact .inr (.inr ⟨v,e1.symm⟩)
theorem zlD{c:Cx}{q:List UInt8}{n:Nat}{hl:Bool}{m:Mb}{s:St}{a:Nat}{y:Mb×St}{a1:Nat}(h:zbP c q n hl m s a= .ok y a1):y.1.k=m.k:=by
 unfold zbP at h;split at h
 ·obtain⟨m',a2,h1,h⟩:=Rr.bind_eq h;obtain⟨d,a3,_,h⟩:=Rr.bind_eq h;split at h
  ·injection h with e _;rw[←e];show m'.k=m.k;split at h1
   ·obtain⟨b,a4,_,h1⟩:=Rr.bind_eq h1;injection h1 with e1 _;rw[←e1]
   ·injection h1 with e1 _;rw[e1]
  ·cases h
 ·injection h with e _;rw[←e]
theorem zno(c:Cx)(q:List UInt8)(n:Nat)(m:Mb)(s:St)(a:Nat)(hk:m.k=1∨m.k=2)(hc:m.k=1→alc m=m)(ha:a≤n)(hml:m.lv.length=384):
  zgS c q n (alc m) (aft s m.k) a=(zbP c q n true m s a).bind fun z a3=>(zbE q n true z.1 a3).bind fun m a4=>(zaS q n 6 m z.2 a4).bind fun w a5=>.ok (w.1,aft w.2 w.1.k) a5:=by
 have key:∀(z:Mb×St) (a2:Nat),z.1.lv.length=384→z.1.k=m.k→a2≤n→((zbE q n true z.1 a2).bind fun m' a4=>zaS q n 6 m' (aft z.2 m.k) a4)=(zbE q n true z.1 a2).bind fun m' a4=>(zaS q n 6 m' z.2 a4).bind fun w a5=>.ok (w.1,aft w.2 w.1.k) a5:=by
  intro z a2 hzl hzk hz;cases h2:zbE q n true z.1 a2 with
  | er e a3=>rfl
  | ok m4 a3=>
   obtain⟨c1,c2,c3⟩:=ziX h2 hz;rw[Rr.bind_ok,Rr.bind_ok,zeM q n 6 m4 z.2 m.k a3 om,zdr];cases h3:zaS q n 6 m4 z.2 a3 with
   | er e a4=>rfl
   | ok w a4=>have:=(zes 6 m4 z.2 a3 h3 c1 om (by rw[c2];exact hzl)).2.2;rw[Rr.bind_ok,Rr.bind_ok,this,c3,hzk]
 rcases hk with e|e
 ·rw[hc e];unfold zgS;rw[zkj,zdr,Rr.bind_bind];cases h1:zbP c q n true m s a with
  | er e a2=>rfl
  | ok z a2=>obtain⟨b1,b2,_⟩:=zgR h1 ha;simp only[Rr.bind_ok];exact key z a2 (by rw[b2];exact hml) (zlD h1) b1
 ·unfold zgS;rw[zpc,zkj,zdr,Rr.bind_bind,Rr.bind_bind];cases h1:zbP c q n true m s a with
  | er e a2=>rfl
  | ok z a2=>
   obtain⟨b1,b2,_⟩:=zgR h1 ha;simp only[Rr.bind_ok];have e2:z.1.k=2:=by rw[zlD h1,e]
   have hco:zbE q n true (alc z.1) a2=zbE q n true z.1 a2:=by unfold zbE;rw[show(alc z.1).k=2 from e2,e2,zpe];rfl
   rw[hco];exact key z a2 (by rw[b2];exact hml) (zlD h1) b1
theorem zu4{c:Cx}{q:List UInt8}{n a a1:Nat}{m:Mb}{hl:Bool}{s:St}(h:zbW c q n a= .ok (m,hl) a1)(ha:a≤n)(hs:vrS s):zu5 c q n m hl s a1=zkg c q n hl m s a1:=by
 obtain⟨ha1,hlv⟩:=ziW h ha;have hml:m.lv.length=384:=by rw[show m.lv=zl384 from hlv];exact zai
 unfold zu5 zkg;rcases zmD h with⟨rfl,rfl⟩|⟨rfl,rfl⟩|⟨v,rfl⟩
 ·have e1:zbD c q n (zdt inMb) (aft s inMb.k) a1= .ok (zdt inMb,aft s inMb.k) a1:=rfl;have e2:zbD c q n inMb s a1= .ok (inMb,s) a1:=rfl;rw[e1,e2,Rr.bind_ok,Rr.bind_ok,if_pos rfl];exact zno c q n inMb s a1 (.inl rfl) (fun _=>rfl) ha1 hml
 ·have e1:zbD c q n (zdt zMb) (aft s zMb.k) a1= .ok (zdt zMb,aft s zMb.k) a1:=rfl;have e2:zbD c q n zMb s a1= .ok (zMb,s) a1:=rfl;have e3:zbP c q n false zMb s a1= .ok (zMb,s) a1:=rfl;have e4:zbE q n false zMb a1= .ok zMb a1:=rfl;rw[e1,e2,Rr.bind_ok,Rr.bind_ok,if_neg (by decide),e3,Rr.bind_ok,e4,Rr.bind_ok,zid rfl,Rr.bind_ok];rfl
 ·rw[show zdt (zn8 v)=zn8 v from rfl,zo8,zdr,Rr.bind_bind];cases hp:zbD c q n (zn8 v) s a1 with
  | er e a2=>rfl
  | ok y a2=>
   obtain⟨b1,b2,b3,_⟩:=ziV hp ha1 hs;have hcd:=zuD hp;simp only[Rr.bind_ok];rw[←b3];cases hl with
   | true=>
    rw[if_pos rfl];exact zno c q n y.1 y.2 a2 (.inr b3) (fun e=>by rw[b3]at e;cases e) b1 (by rw[b2];exact hml)
   | false=>
    have e3:zbP c q n false y.1 y.2 a2= .ok y a2:=rfl;have e4:zbE q n false y.1 a2= .ok y.1 a2:=by unfold zbE;rw[Bool.and_false,if_neg (by decide)]
    rw[if_neg (by decide),e3,Rr.bind_ok,e4,Rr.bind_ok,zid hcd,Rr.bind_ok]
end Go.Proofs.YtpjlfoficnpfoaaGreatDoor.Sc
