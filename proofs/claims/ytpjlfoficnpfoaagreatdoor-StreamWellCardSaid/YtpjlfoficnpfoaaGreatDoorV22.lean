/-
  Parts of the proof, put together in one text. No condition.
-/
import Derived.Test.YtpjlfoficnpfoaaGreatDoorV21
open Array renaming toList → qN
open Bool renaming true_and → qB, false_and → qF, and_eq_true → qW
open List renaming not_mem_nil → qE, mapM_cons → qH, getElem?_eq_some_iff → qI, length_set → qJ, mem_cons → qK, mapM_nil → qL, take → qM, drop → qO, append_nil → qP, take_of_length_le → qR, drop_of_length_le → qS, length_append → qT, append_assoc → qU, getElem_mem → qV
open Nat renaming reduceAdd → qQ, strongRecOn → qX, sub_self → qY, add_zero → qZ
open Option renaming bind_eq_bind → qA, bind_some → qD, pure_def → qG
namespace Go.Proofs.YtpjlfoficnpfoaaGreatDoor.Sc
set_option linter.all false
open Pm Ty Go.RowKit
def zwX(H:za)(i j v n:Nat)(x:Rr (Mb×St)):PV→za→Prop:=fun w H'=>w=rvM x∧
 match x with
 | .ok _ a=>H'=H.set i (rR j v n a)
 | .er _ _=>∃ a,a≤n∧H'=H.set i (rR j v n a)
theorem ziU(H:za)(i j v n a:Nat)(K:za)(x:Rr (Mb×St))(hj:j<H.length)(hx:match x with| .ok _ a'=>a=a'| .er _ _=>a≤n):zmo H (zwX H i j v n x) (rvM x) (H.set i (rR j v n a)++K):=
 .inr (.inr fun hs=>⟨rvM x,H.set i (rR j v n a),by
  cases x with
  | ok y a'=>exact⟨rfl,by rw[show a=a' from hx]⟩
  | er e a'=>exact⟨rfl,a,hx,rfl⟩,by simp,CutH.base (zmd _ _ _ _ _ _ hj hs),.id (zpJ _ _)⟩)
theorem zmA(H:za)(i j v n a:Nat)(X:za)(B4 B5:Blk)(K:za)(k:Nat)(hX:X.length=4)(hk:k<4):(uG H i j v n a X B4 B5 K)[H.length+k]? =X[k]? :=by unfold uG;rw[List.getElem?_append_right sp,qJ,show H.length+k - H.length=k from om,List.getElem?_append_left om]
theorem ztG(H:za)(i j v n a:Nat)(X:za)(B4 B5:Blk)(K:za)(B:Blk)(k:Nat)(hX:X.length=4)(hk:k<4):(uG H i j v n a X B4 B5 K).set (H.length+k) B=uG H i j v n a (X.set k B) B4 B5 K:=by unfold uG;rw[List.set_append_right _ _ sp,qJ,show H.length+k - H.length=k from om,List.set_append_left _ _ om]
theorem zuG{c:Cx}{q:List UInt8}{n:Nat}{m:Mb}{s:St}{a:Nat}{y:Mb×St}{a1:Nat}(h:zgS c q n m s a= .ok y a1)(ha:a≤n)(hml:m.lv.length=384):a1≤n∧y.1.lv.length=384:=by unfold zgS at h;obtain⟨z,a2,h1,h⟩:=Rr.bind_eq h;obtain⟨m4,a3,h2,h⟩:=Rr.bind_eq h;obtain⟨b1,b2,_⟩:=zgR h1 ha;obtain⟨c1,c2,_⟩:=ziX h2 b1;obtain⟨d1,d2,_⟩:=zes 6 m4 z.2 a3 h c1 om (by rw[c2,b2];exact hml);exact⟨d1,d2⟩
theorem ztg{s:St}(h:dcR s)(k:Int):dcR (aft s k):=fun p=>by
 have h0: -4095≤s.da∧s.da≤4095:=h 0;have h1: -4095≤s.db∧s.db≤4095:=h 1;have h2: -4095≤s.dc∧s.dc≤4095:=h 2;unfold dcS aft;dsimp only;by_cases hk:k=1
 ·simp only[if_pos hk];split
  ·exact h0
  ·split
   ·exact h1
   ·exact h2
 ·simp only[if_neg hk];split
  ·omega
  ·split<;>omega
set_option maxHeartbeats 8000000 in
set_option maxRecDepth 100000 in
theorem zph(i j v:Nat)(q:List UInt8)(n a:Nat)(c:Cx)(s:St)(H:za)(hA:H[i]? =some (rR j v n a))(hB:H[j]? =some (rB q v))(hne:i≠j)(ha:a≤n)(hn:n≤8 * q.length)(hq:q.length≤100000000):
  CallEx Tryz.prog 118 [.ptr i 0 0,.agg (cxc c),.agg (stc s)] H (zwX H i j v n (zdp c s q n a)):=by
 have hi:=(qI.1 hA).1;have hj:=(qI.1 hB).1;have hself:=zO hA;have c1:=zdT c;have c2:=zko s;have vo:=fun K=>zrY c K;have so:=fun K=>zrV s K;have tk1:qM 4 (cxc c)=cxc c:=rfl;have tk2:qM 8 (stc s)=stc s:=rfl;have l1:(cxc c).length=4:=rfl;have l2:(stc s).length=8:=rfl;have hzl:=zcP;have hzc:=zeF;have tz:qM 408 zmv=zmv:=qR om;have dz:qO 408 zmv=[]:=qS om;generalize hres:zdp c s q n a=res;refine CallEx.body (F0:=[(0,.ptr i 0 0),(1,.agg (cxc c)),(2,.agg (stc s))]) Tryz.func118 rfl Tryz.ntmps118 Tryz.results118 rfl kr rfl ?_;refine PW.f (fun K k=>by simp(disch:=omega) only[go_sem,↓reduceIte,reduceCtorEq,c1,c2,↓ziK,qQ];exact k) ?_;unfold zdp at hres;suffices hrest:PW Tryz.prog _ _ [(0,.ptr i 0 0),(4,.ptr H.length 0 0),(5,.ptr (H.length+1) 0 0),(6,.ptr (H.length+2) 0 0),(7,.ptr (H.length+3) 0 0),(20,.bool (!(vcx c&&zft s)))] (H++[⟨165,0,cxc c⟩,⟨217,0,stc s⟩,⟨149,0,zmv⟩,⟨217,0,stc zSt⟩]) _ by
  cases hv:vcx c with
  | false=>
   rw[hv]at vo hrest;(repeat refine PW.seq ?_);refine PW.rg rfl fun K hK=> ?_;simp(disch:=omega) only[go_sem,↓reduceIte,reduceCtorEq,tk1,l1];refine VCx.call (vo _) rfl ?_;simp(disch:=omega) only[go_sem,↓reduceIte,reduceCtorEq];refine hK _ _ ?_;clear hK K;exact PW.at [0,4,5,6,7,20] hrest rfl rfl
  | true=>rw[hv]at vo hrest;(repeat refine PW.seq ?_);refine PW.rg rfl fun K hK=> ?_;simp(disch:=omega) only[go_sem,↓reduceIte,reduceCtorEq,tk1,l1];refine VCx.call (vo _) rfl ?_;simp(disch:=omega) only[go_sem,↓reduceIte,reduceCtorEq,tk2,l2];refine VCx.call (so _) rfl ?_;simp(disch:=omega) only[go_sem,↓reduceIte,reduceCtorEq];refine hK _ _ ?_;clear hK K;exact PW.at [0,4,5,6,7,20] hrest rfl rfl
 cases hval:(vcx c&&zft s)with
 | false=>
  rw[hval,if_neg (by decide)]at hres;refine PW.t ?_;refine PW.f (fun K k=>by simp(disch:=omega) only[go_sem,↓reduceIte,reduceCtorEq,↓ziK,hzl,hzc,tz,dz,stc];exact k) ?_;refine PW.ret ⟨.tup [.agg zmv,.agg (stc zSt),.int .i64 1],by simp(disch:=omega) only[go_sem,↓reduceIte,reduceCtorEq,zr,zF,qH,qL,qG,qA,qD,qN,hzl,tz,stc,zSt],?_⟩;rw[←hres];have:=ziU H i j v n a [⟨165,0,cxc c⟩,⟨217,0,stc s⟩,⟨149,0,zmv⟩,⟨217,0,stc zSt⟩] (.er 0 a) hj ha;rw[hself]at this;exact this
 | true=>
  rw[hval,if_pos rfl]at hres;rw[qW]at hval;obtain⟨hsq,hv,hd⟩:=zmy hval.2;refine PW.us ?_;(repeat refine PW.seq ?_);refine PW.view (Vs.place 149) ?_;refine PW.view (Vs.place 217) ?_;refine PW.eq rfl (show _=H++[⟨165,0,cxc c⟩,⟨217,0,stc s⟩,⟨149,0,zmv⟩,⟨217,0,stc zSt⟩,⟨149,0,[]⟩,⟨217,0,[]⟩] by simp) ?_;have s0:(stc s)[0]? =some (.int .i64 s.q):=rfl;(repeat refine PW.seq ?_);refine PW.drawi [H.length+4,H.length+5] [(9,[0]),(10,[1])] [(9,0),(10,1)] [] mix kr (by simp<;>omega) fun K hK=> ?_;simp(disch:=omega) only[go_sem,↓reduceIte,reduceCtorEq,↓ziK,apn,aps,s0,hzl,hzc,dz,stc,qQ];refine hK _ _ ?_;clear hK K;obtain⟨X,hXe⟩:∃ X:za,X=[⟨165,0,cxc c⟩,⟨217,0,stc s⟩,⟨149,0,zmv⟩,⟨217,0,stc zSt⟩]:=⟨_,rfl⟩;have hX:X.length=4:=by rw[hXe];rfl
  refine PW.at [0,4,5,6,7,9,10] (F1:=[(0,.ptr i 0 0),(4,.ptr H.length 0 0),(5,.ptr (H.length+1) 0 0),(6,.ptr (H.length+2) 0 0),(7,.ptr (H.length+3) 0 0),(9,.ptr (H.length+4) 1 0),(10,.ptr (H.length+5) 1 0)]) (H1:=uG H i j v n a X (mW zMb) (sB (aft s 0)) []) ?_ rfl (by unfold uG;rw[hself,hXe];rfl);have hX0:X[0]? =some ⟨165,0,cxc c⟩:=by rw[hXe];rfl
  have hX1:X[1]? =some ⟨217,0,stc s⟩:=by rw[hXe];rfl
  have hX2:X[2]? =some ⟨149,0,zmv⟩:=by rw[hXe];rfl
  have hX3:X[3]? =some ⟨217,0,stc zSt⟩:=by rw[hXe];rfl
  have gx:=fun a B4 B5 k hk=>zmA H i j v n a X B4 B5 [] k hX hk;have g0:=fun a B4 B5=>(gx a B4 B5 0 om).trans hX0;have kr:=zqL H i j v q n a X c (aft s 0) hi hB hne hX ha hn hq;have g0:=fun a B4 B5=>by simpa using(gx a B4 B5 0 om).trans hX0
  have g1:=fun a B4 B5=>(gx a B4 B5 1 om).trans hX1;have g5:=fun a B4 B5=>zoS H i j v n a X B4 B5 [] hX;have g4:=fun a B4 B5=>zoT H i j v n a X B4 B5 [] hX;have s5:=fun a B4 B5 B=>zic H i j v n a X B4 B5 [] hX B;unfold mtk at hres;suffices h12:∀(m':Mb) (s':St) (a':Nat) (e:Int),a'≤n→m'.lv.length=384→((e=0∧res= .ok (m',s') a')∨∃(e' a0:Nat),e=(e':Int)+1∧res= .er e' a0)→
    PW Tryz.prog _ _ [(6,.ptr (H.length+2) 0 0),(7,.ptr (H.length+3) 0 0),(9,.ptr (H.length+4) 1 0),(10,.ptr (H.length+5) 1 0),(12,.int .i64 e)] (uG H i j v n a' X (mW m') (sB s') []) _ by
   suffices h10:∀(m':Mb) (s':St) (hl:Bool) (a':Nat),a'≤n→m'.lv.length=384→dcR s'→(1≤s'.q∧s'.q≤31)→(hl=true→m'.k=1∨m'.k=2)→(if hl then zgS c q n (alc m') s' a' else .ok (m',s') a')=res→
     PW Tryz.prog _ _ [(0,.ptr i 0 0),(4,.ptr H.length 0 0),(6,.ptr (H.length+2) 0 0),(7,.ptr (H.length+3) 0 0),(9,.ptr (H.length+4) 1 0),(10,.ptr (H.length+5) 1 0),(11,.bool hl),(12,.int .i64 0)] (uG H i j v n a' X (mW m') (sB s') []) _ by
    cases hkd:zbW c q n a with
    | er e a1=>
     rw[hkd]at kr hres;rw[Rr.bind_er]at hres;have d0:((e:Int)+1==0)=false:=by simp;omega
     simp only[rvK,mKd]at kr;(repeat refine PW.seq ?_);refine PW.rg rfl fun K hK=> ?_;simp(disch:=omega) only[go_sem,↓reduceIte,reduceCtorEq,g0,l1,tk1];refine VCx.call (kr) rfl ?_;simp(disch:=omega) only[go_sem,↓reduceIte,reduceCtorEq];refine hK _ _ ?_;clear hK K;refine PW.g d0 ?_;refine PW.us ?_;refine PW.g d0 ?_;refine PW.us ?_;refine PW.g d0 ?_;refine PW.us ?_;exact PW.at [6,7,9,10,12] (h12 zMb (aft s 0) a1 _ (zo9 hkd ha) zai (.inr ⟨e,a1,rfl,hres.symm⟩)) rfl rfl
    | ok x a1=>
     obtain⟨m,hl⟩:=x;obtain⟨ha1,hlv⟩:=ziW hkd ha;have hml:(zdt m).lv.length=384:=by rw[show(zdt m).lv=zl384 from hlv];exact zai
     have hre:=zu4 hkd ha hv;rw[hkd]at kr hres;rw[Rr.bind_ok]at hres;dsimp only at hres;rw[←hre]at hres;unfold zu5 at hres;simp only[rvK,mKd]at kr;have dv:=fun k=>ztg hd k;(repeat refine PW.seq ?_);refine PW.rg rfl fun K hK=> ?_;simp(disch:=omega) only[go_sem,↓reduceIte,reduceCtorEq,g0,l1,tk1];refine VCx.call (kr) rfl ?_;simp(disch:=omega) only[go_sem,↓reduceIte,reduceCtorEq];refine hK _ _ ?_;clear hK K;have hkl:hl=true→m.k=1∨m.k=2:=fun e=>by
      rcases zmD hkd with⟨rfl,rfl⟩|⟨rfl,rfl⟩|⟨v,rfl⟩
      ·exact .inl rfl
      ·cases e
      ·exact .inr rfl
     have mk:(mbc (zdt m))[0]? =some (.int .i64 m.k):=rfl;have gs4:qM 4 (qO 4 (stc s))=[.int .i64 s.va,.int .i64 s.vb,.int .i64 s.vc,.int .i64 s.vd]:=rfl;have gs3:qM 3 (qO 1 (stc s))=[.int .i64 s.da,.int .i64 s.db,.int .i64 s.dc]:=rfl;have ls:∀ t,(stc t).length=8:=fun _=>rfl;by_cases hk2:m.k=2
     ·have dk:(m.k==2)=true:=by simp[hk2]
      have dk1:(m.k==1)=false:=by simp[hk2]
      have st4:qM 4 (stc (aft s 0))++ .int .i64 s.va:: .int .i64 s.vb:: .int .i64 s.vc:: .int .i64 s.vd::qO 8 (stc (aft s 0))=stc (aft s 2):=rfl;rw[hk2]at hres;have va:vrS (aft s 2):=fun d=>by rw[zrL,zrK];exact hv d
      have vr:=zoM H i j v q n X c hi hB hne hX hn hq (zdt m) (aft s 2) a1 hml va ha1 hk2;refine PW.f (fun K k=>by simp(disch:=omega) only[go_sem,↓reduceIte,reduceCtorEq,g4,zW,zX,mk,dk];exact k) ?_;refine PW.t ?_;refine PW.f (fun K k=>by simp(disch:=omega) only[go_sem,↓reduceIte,reduceCtorEq,g1,g5,s5,zgl,zgm,zpH,gs4,ls,st4,zks,qQ];exact k) ?_;(repeat refine PW.seq ?_);refine PW.rg rfl fun K hK=> ?_;simp(disch:=omega) only[go_sem,↓reduceIte,reduceCtorEq,g0,l1,tk1];refine VCx.callR vr rfl fun w H' hR=> ?_;cases htp:zbD c q n (zdt m) (aft s 2) a1 with
      | er e a2=>
       rw[htp]at hR hres;obtain⟨rfl,a4,m4,s4',h1,h2,rfl⟩:=hR;rw[Rr.bind_er]at hres;have d0:((e:Int)+1==0)=false:=by simp;omega
       simp(disch:=omega) only[go_sem,↓reduceIte,reduceCtorEq,ecd];refine hK _ _ ?_;clear hK K;refine PW.g d0 ?_;refine PW.us ?_;refine PW.g d0 ?_;refine PW.us ?_;exact PW.at [6,7,9,10,12] (h12 m4 s4' a4 _ h1 h2 (.inr ⟨e,a2,rfl,hres.symm⟩)) rfl rfl
      | ok y a2=>
       obtain⟨b1,b2,b3,b4⟩:=ziV htp ha1 va;rw[htp]at hR hres;obtain⟨rfl,rfl⟩:=hR;rw[Rr.bind_ok]at hres;have yk:y.1.k=2:=by rw[b3];exact hk2
       have dy1:(y.1.k==1)=false:=by rw[yk];rfl
       simp(disch:=omega) only[go_sem,↓reduceIte,reduceCtorEq];refine hK _ _ ?_;clear hK K;refine PW.f (fun K k=>by simp(disch:=omega) only[go_sem,↓reduceIte,reduceCtorEq,g4,zW,zX,zdn,dy1];exact k) ?_;refine PW.us ?_;exact PW.at [0,4,6,7,9,10,11,12] (h10 y.1 y.2 hl a2 b1 (by rw[b2];exact hml) (zlc b4 (dv 2)) (by rw[b4.1];exact hsq) (fun _=>.inr yk) hres) rfl rfl
     have dk:(m.k==2)=false:=by simp[hk2]
     have ep:∀ t,zbD c q n (zdt m) t a1= .ok (zdt m,t) a1:=fun t=>by unfold zbD;rw[if_neg (show ¬(zdt m).k=2 from hk2)]
     rw[ep,Rr.bind_ok]at hres;refine PW.f (fun K k=>by simp(disch:=omega) only[go_sem,↓reduceIte,reduceCtorEq,g4,zW,zX,mk,dk];exact k) ?_;refine PW.us ?_;by_cases hk1:m.k=1
     ·have dk1:(m.k==1)=true:=by simp[hk1]
      have st3:qM 1 (stc (aft s 0))++ .int .i64 s.da:: .int .i64 s.db:: .int .i64 s.dc::qO 4 (stc (aft s 0))=stc (aft s 1):=rfl;rw[hk1]at hres;refine PW.f (fun K k=>by simp(disch:=omega) only[go_sem,↓reduceIte,reduceCtorEq,g4,zW,zX,mk,dk1];exact k) ?_;refine PW.t ?_;refine PW.f (fun K k=>by simp(disch:=omega) only[go_sem,↓reduceIte,reduceCtorEq,g1,g5,s5,zgl,zgm,zpH,gs3,ls,st3,zks,qQ];exact k) ?_;exact PW.at [0,4,6,7,9,10,11,12] (h10 (zdt m) (aft s 1) hl a1 ha1 hml (dv 1) hsq hkl hres) rfl rfl
     ·have dk1:(m.k==1)=false:=by simp[hk1]
      have e0:aft s m.k=aft s 0:=by unfold aft;rw[if_neg hk1,if_neg hk1,if_neg hk1,if_neg hk2,if_neg hk2,if_neg hk2,if_neg hk2];rfl
      rw[e0]at hres;refine PW.f (fun K k=>by simp(disch:=omega) only[go_sem,↓reduceIte,reduceCtorEq,g4,zW,zX,mk,dk1];exact k) ?_;refine PW.us ?_;exact PW.at [0,4,6,7,9,10,11,12] (h10 (zdt m) (aft s 0) hl a1 ha1 hml (dv 0) hsq hkl hres) rfl rfl
   clear hres kr;intro m' s' hl a' ha' hml' hd' hq' hkl hres;cases hl with
   | false=>
    rw[if_neg (by decide)]at hres;refine PW.e ?_;refine PW.us ?_;exact PW.at [6,7,9,10,12] (h12 m' s' a' 0 ha' hml' (.inl ⟨rfl,hres.symm⟩)) rfl rfl
   | true=>
    rw[if_pos rfl]at hres;have br:=zrr H i j v q n X c hi hB hne hX hn hq m' s' a' hml' hd' hq' ha' (hkl rfl);refine PW.e ?_;refine PW.t ?_;(repeat refine PW.seq ?_);refine PW.rg rfl fun K hK=> ?_;simp(disch:=omega) only[go_sem,↓reduceIte,reduceCtorEq,g0,l1,tk1];refine VCx.callR br rfl fun w H' hR=> ?_;cases htb:zgS c q n (alc m') s' a' with
    | er e a2=>
     rw[htb]at hR hres;obtain⟨rfl,a4,m4,s4',h1,h2,rfl⟩:=hR;simp(disch:=omega) only[go_sem,↓reduceIte,reduceCtorEq,ecd];refine hK _ _ ?_;clear hK K;exact PW.at [6,7,9,10,12] (h12 m4 s4' a4 _ h1 h2 (.inr ⟨e,a2,rfl,hres.symm⟩)) rfl rfl
    | ok y a2=>obtain⟨b1,b2⟩:=zuG htb ha' hml';rw[htb]at hR hres;obtain⟨rfl,rfl⟩:=hR;simp(disch:=omega) only[go_sem,↓reduceIte,reduceCtorEq];refine hK _ _ ?_;clear hK K;exact PW.at [6,7,9,10,12] (h12 y.1 y.2 a2 0 b1 b2 (.inl ⟨rfl,hres.symm⟩)) rfl rfl
  clear hres kr;intro m' s' a' e ha' hml' hx;have hlm:=zw m' hml';have htm:qM 408 (mbc m')=mbc m':=qR om;have hcm:=zdI m';have lst:∀ t,(stc t).length=8:=fun _=>rfl;have tst:∀ t,qM 8 (stc t)=stc t:=fun _=>rfl;have cst:∀ t,(stc t).all PV.cell=true:=fun _=>rfl;have dst:qO 8 (stc zSt)=[]:=rfl;have g2:=fun a B4 B5=>(gx a B4 B5 2 om).trans hX2;have g3:=fun a B4 B5=>(gx a B4 B5 3 om).trans hX3;rcases hx with⟨rfl,hr⟩|⟨e',a0,rfl,hr⟩
  ·refine PW.e ?_;refine PW.us ?_;have sx2:=fun B=>ztG H i j v n a' X (mW m') (sB s') [] B 2 hX om;have hX':∀ B,(X.set 2 B).length=4:=fun B=>by rw[qJ];exact hX
   have g3':∀ B,(uG H i j v n a' (X.set 2 B) (mW m') (sB s') [])[H.length+3]? =some ⟨217,0,stc zSt⟩:=fun B=>by rw[zmA _ _ _ _ _ _ _ _ _ _ _ (hX' B) om,hXe];rfl
   have sx3:=fun Y B (hY:Y.length=4)=>ztG H i j v n a' Y (mW m') (sB s') [] B 3 hY om;have sx3':=fun B B'=>sx3 (X.set 2 B) B' (hX' B);(repeat refine PW.seq ?_);refine PW.drawi [H.length+2,H.length+3] [(6,[0]),(7,[1])] [] [] mix kr (by simp<;>omega) fun K hK=> ?_;simp(disch:=omega) only[go_sem,↓reduceIte,reduceCtorEq,g4,g5,g2,g3',sx2,sx3',zW,zX,zgl,zgm,hlm,htm,hzl,dz,hcm,lst,tst,cst,dst];refine hK _ _ ?_;clear hK K;have hX2':((X.set 2 ⟨149,0,mbc m'⟩).set 3 ⟨217,0,stc s'⟩).length=4:=by rw[qJ,qJ];exact hX
   have f2:(uG H i j v n a' ((X.set 2 ⟨149,0,mbc m'⟩).set 3 ⟨217,0,stc s'⟩) (mW m') (sB s') [])[H.length+2]? =some ⟨149,0,mbc m'⟩:=by rw[zmA _ _ _ _ _ _ _ _ _ _ _ hX2' om,hXe];rfl
   have f3:(uG H i j v n a' ((X.set 2 ⟨149,0,mbc m'⟩).set 3 ⟨217,0,stc s'⟩) (mW m') (sB s') [])[H.length+3]? =some ⟨217,0,stc s'⟩:=by rw[zmA _ _ _ _ _ _ _ _ _ _ _ hX2' om,hXe];rfl
   refine PW.w (.tup [.agg (mbc m'),.agg (stc s'),.int .i64 0]) (nq2 f2 (nq2 f3 (nq2 hlm (nq2 htm (nq2 lst tst))))) ?_;rw[hr];exact ziU H i j v n a' (((X.set 2 ⟨149,0,mbc m'⟩).set 3 ⟨217,0,stc s'⟩)++[mW m',sB s']) (.ok (m',s') a') hj rfl
  ·have d0:((e':Int)+1 !=0)=true:=by simp;omega
   have se1:=zO (g2 a' (mW m') (sB s'));have se2:=zO (g3 a' (mW m') (sB s'));refine PW.g d0 ?_;refine PW.t ?_;refine PW.f (fun K k=>by simp(disch:=omega) only[go_sem,↓reduceIte,reduceCtorEq,↓ziK,g2,g3,hzl,hzc,dz,lst,se1];exact k) ?_;refine PW.at [6,7,8] (F1:=[(6,.ptr (H.length+2) 0 0),(7,.ptr (H.length+3) 0 0),(8,.int .i64 ((e':Int)+1))]) (H1:=uG H i j v n a' X (mW m') (sB s') []) ?_ rfl se2;refine PW.w (.tup [.agg zmv,.agg (stc zSt),.int .i64 ((e':Int)+1)]) (nq2 g2 (nq2 g3 (nq2 hzl (nq2 tz (nq2 lst tst))))) ?_;rw[hr];exact ziU H i j v n a' (X++[mW m',sB s']) (.er e' a0) hj ha'
theorem _root_.Go.Proofs.YtpjlfoficnpfoaaGreatDoor.Pm.WRel.short{C:Ctx}{H:za}{w:World}{i m:Nat}{k:Blk}(hw:WRel C H w)(hk:H[i]? =some k)(hint:∃(j:Nat) (t:IntKind) (n:Int),k.cells[j]? =some (.int t n)):WRel C (H.set i ⟨k.e,k.ver,k.cells.take m⟩) w:=by
 have hi:i<H.length:=(qI.1 hk).1;have g:∀(id:Nat) (x:Blk),(H.set i ⟨k.e,k.ver,k.cells.take m⟩)[id]? =some x→(id=i∧x=⟨k.e,k.ver,k.cells.take m⟩)∨(id≠i∧H[id]? =some x):=fun id x h=>by
  by_cases e:i=id
  ·subst e;rw[List.getElem?_set_self hi]at h;injection h with h;exact .inl ⟨rfl,h.symm⟩
  ·rw[List.getElem?_set_ne e]at h;exact .inr ⟨fun e'=>e e'.symm,h⟩
 obtain⟨a0,a1,a2,a3,a4,a5,a6,a7,a8,a9,a10,a11,a12⟩:=hw;refine⟨a0,a1,a2,a3,by rw[qJ];exact a4,by rw[qJ];exact a5,by rw[qJ];exact a6,fun id x h=> ?_,fun id x h hm=> ?_,fun id x b h hm=> ?_,a10,a11,a12⟩
 ·rcases g id x h with⟨rfl,rfl⟩|⟨_,h⟩
  ·exact a7 id k hk
  ·exact a7 _ _ h
 ·rcases g id x h with⟨rfl,rfl⟩|⟨_,h⟩
  ·obtain⟨j,t,n,hj⟩:=hint;rcases a8 _ _ hk hm with⟨_,e⟩|⟨b,es,cl,q1,q2,q3,q4,q5⟩|hlp
   ·rw[e]at hj;cases hj
   ·have hjl:=(qI.1 hj).1;obtain⟨e,he⟩:∃ e,es[j]? =some e:=⟨_,Array.getElem?_eq_getElem om⟩;have:=q5 j _ e hj he;cases this
   ·obtain⟨b,o,_,_,_,e,_⟩:=hlp;rw[e]at hj;cases j<;>simp at hj
  ·exact a8 _ _ h hm
 ·rcases g id x h with⟨rfl,rfl⟩|⟨_,h⟩
  ·obtain⟨cur,q1,q2,q3,q4,q5,q6⟩:=a9 _ _ b hk hm;exact⟨cur,q1,q2,q3,fun x hx=>q4 x (List.mem_of_mem_take hx),by simp only[List.length_take];omega,fun j x u hx hu=>q6 j x u (by
    simp only[List.getElem?_take]at hx;split at hx
    ·exact hx
    ·cases hx) hu⟩
  ·exact a9 _ _ b h hm
theorem _root_.Go.Proofs.YtpjlfoficnpfoaaGreatDoor.Pm.CallEx.short{P:Program}{f:FuncId}{args:List PV}{H Ho:za}{R:PV→za→Prop}{v0:PV}{i m:Nat}(h:CallEx P f args H R)(hr:∀ v H',R v H'→v=v0∧∃ k,H'[i]? =some k∧(∃(j:Nat) (t:IntKind) (n:Int),k.cells[j]? =some (.int t n))∧Ho=H'.set i ⟨k.e,k.ver,k.cells.take m⟩):CallOk P f args H v0 Ho:=
 ⟨h.1,fun C us w hw hargs=>(h.2 C us w hw hargs).mono fun e w' ⟨C',u,v,H',q0,q1,q2,q3,q4,q5⟩=>by
  obtain⟨rfl,k,h1,h2,rfl⟩:=hr v H' q0;exact⟨C',u,q1,q2.short h1 h2,q3,q4,q5⟩⟩
def rT(j v n:Nat):Blk:=⟨284,0,[.msl j v 0 n 1 true]⟩
def rO{α:Type}(j v n:Nat):Rr α→Blk
 | .ok _ a=>rR j v n a
 | .er _ _=>rT j v n
theorem znK(i j v:Nat)(q:List UInt8)(n a:Nat)(c:Cx)(s:St)(H:za)(hA:H[i]? =some (rR j v n a))(hB:H[j]? =some (rB q v))(hne:i≠j)(ha:a≤n)(hn:n≤8 * q.length)(hq:q.length≤100000000):
  CallOk Tryz.prog 118 [.ptr i 0 0,.agg (cxc c),.agg (stc s)] H (rvM (zdp c s q n a)) (H.set i (rO j v n (zdp c s q n a))):=by
 have h:=zph i j v q n a c s H hA hB hne ha hn hq;have hi:=(qI.1 hA).1;cases hm:zdp c s q n a with
 | ok y a1=>
  rw[hm]at h;exact(h.mono fun v H' hR=>hR).one
 | er e a1=>rw[hm]at h;refine CallEx.short (i:=i) (m:=1) h fun v' H' hR=>⟨hR.1,?_⟩;obtain⟨a2,_,rfl⟩:=hR.2;exact⟨rR j v n a2,by simp[hi],⟨1,.i64,(a2:Int),rfl⟩,by rw[List.set_set];rfl⟩
def sqL(c:Cx)(q:List UInt8)(n:Nat):Nat→St→Nat→Rr (List Mb×List Int)
 | 0,_,a=>.ok ([],[]) a
 | r+1,s,a=>(zdp c s q n a).bind fun y a1=>(sqL c q n r y.2 a1).bind fun z a2=>.ok (y.1::z.1,y.2.q::z.2) a2
def sqT(s:Sq)(p:Pi)(b:Bool)(t:Int)(q:List UInt8):Rr (Nat×List Mb×List Int):=
 if zdq s p b&&(decide (1≤t)&&decide (t<1+zS s p))then
  (if q.length=0∨zaD q=0 then .er 2 0 else if nb q<5 then .er 3 0 else if vl q 0 5=0 then .er 2 0 else
   (sqL (cxP s p b) q (nb q) (wmb s) (st0 (vl q 0 5:Int)) 5).bind fun z a=>if a=nb q then .ok (vl q 0 5,z.1,z.2) a else .er 2 a)else .er 0 0
def qC(l:List Int):List PV:=l.map (PV.int .i64)
theorem zpR(l:List Int):(qC l).length=l.length:=by simp[qC]
theorem zsr(l:List Int)(x:Int):qC (l++[x])=qC l++[.int .i64 x]:=by simp[qC]
theorem ztS(l:List Int)(n:Nat):∀ x∈qC l,Scoped n x:=fun x hx=>by obtain⟨y,_,rfl⟩:=List.mem_map.1 hx;exact .int _ _
def ag0:PV:=.agg [.int .i64 0,.slice [] 0 true,.slice [] 0 true]
def agS(v:Int)(D:List Mb)(qs:List Int):PV:=.agg [.int .i64 v,.slice (D.flatMap mbc) D.length false,.slice (qC qs) qs.length false]
def rvQ:Rr (Nat×List Mb×List Int)→PV
 | .ok x _=>.tup [agS (x.1:Int) x.2.1 x.2.2,.int .i64 0]
 | .er e _=>.tup [ag0,ecd e]
theorem zsg(s:St)(n:Nat):∀ x∈stc s,Scoped n x:=fun x hx=>by simp only[stc,qK,qE,or_false]at hx;rcases hx with rfl|rfl|rfl|rfl|rfl|rfl|rfl|rfl;all_goals exact .int _ _
def ulH(H:za)(s:Sq)(p:Pi)(t:Int)(q:List UInt8)(f:Bool)(V n a v k:Nat)(st:St)(D:List Mb)(qs:List Int):za:=H++[⟨29,0,sqc s⟩,⟨35,0,pic p⟩,⟨58,0,[.int .i64 t,.slice (bs q) q.length f]⟩,⟨128,0,[.int .i64 0,.slice [] 0 true,.slice [] 0 true]⟩,rB q V,rR (H.length+4) V n a,
 ⟨128,0,[.int .i64 (v:Int),.msl (H.length+8) (k * 408) 0 k 408 true,.msl (H.length+9) k 0 k 1 true]⟩,⟨217,0,stc st⟩,⟨149,k * 408,D.flatMap mbc⟩,⟨3,k,qC qs⟩]
theorem zut(t:Int)(q:List UInt8)(f:Bool)(n:Nat):∀ x∈([.int .i64 t,.slice (bs q) q.length f]:List PV),Scoped n x:=fun x hx=>by
 simp only[qK,qE,or_false]at hx;rcases hx with rfl|rfl
 ·exact .int _ _
 ·exact zl (zo _ _)
theorem zs1(H:za)(s:Sq)(p:Pi)(t:Int)(q:List UInt8)(f:Bool)(V n a v k:Nat)(st:St)(D:List Mb)(qs:List Int)(h:HSc H):HSc (ulH H s p t q f V n a v k st D qs):=zhC (fun b hb x hx=>by
 simp only[qK,qE,or_false]at hb;simp only[List.length_cons,List.length_nil];rcases hb with rfl|rfl|rfl|rfl|rfl|rfl|rfl|rfl|rfl|rfl
 ·exact zV _ _ x hx
 ·exact zsE _ _ x hx
 ·exact zut _ _ _ _ x hx
 ·simp only[qK,qE,or_false]at hx;rcases hx with rfl|rfl|rfl
  ·exact .int _ _
  ·exact zl (fun x hx=>by cases hx)
  ·exact zl (fun x hx=>by cases hx)
 ·exact zo _ _ x hx
 ·simp only[rR,qK,qE,or_false]at hx;rcases hx with rfl|rfl
  ·exact .msl om
  ·exact .int _ _
 ·simp only[qK,qE,or_false]at hx;rcases hx with rfl|rfl|rfl
  ·exact .int _ _
  ·exact .msl om
  ·exact .msl om
 ·exact zsg _ _ x hx
 ·exact zjr _ _ x hx
 ·exact ztS _ _ x hx) h
theorem zox(n:Nat)(e:Int):Scoped n (.tup [ag0,.int .i64 e]):=.tup (zbf fun x hx=>by
 simp only[qK,qE,or_false]at hx;rcases hx with rfl|rfl
 ·exact .agg (zbf fun x hx=>by
   simp only[qK,qE,or_false]at hx;rcases hx with rfl|rfl|rfl
   ·exact .int _ _
   ·exact zl (fun x hx=>by cases hx)
   ·exact zl (fun x hx=>by cases hx))
 ·exact .int _ _)
set_option maxHeartbeats 8000000 in
set_option maxRecDepth 100000 in
theorem znP(s:Sq)(p:Pi)(b:Bool)(t:Int)(q:List UInt8)(f:Bool)(H:za)(hs:SqOk s)(ht:zfP t)(hq:q.length≤100000000):
  CallOk Tryz.prog 61 [.agg (sqc s),.agg (pic p),.bool b,.agg [.int .i64 t,.slice (bs q) q.length f]] H (rvQ (sqT s p b t q)) H:=by
 have fo:=fun K=>zqF s p b K hs;have ro:=fun K=>zip s p K hs;have co:=fun K=>zti s p b K hs;have h1:=zaT s;have h2:=zaP s hs;have h3:=zdx s hs;have h4:=ztL s;have p6:(pic p).length=6:=rfl;have t6:qM 6 (pic p)=pic p:=rfl;have l8:∀ t,(stc t).length=8:=fun _=>rfl;have c8:∀ t,(stc t).all PV.cell=true:=fun _=>rfl;have tk8:∀ t,qM 8 (stc t)=stc t:=fun _=>rfl;have dk8:∀ t,qO 8 (stc t)=[]:=fun _=>rfl;generalize hres:sqT s p b t q=res;unfold sqT at hres;refine CallOk.go Tryz.func61 Tryz.ntmps61 Tryz.results61 ?_;refine PW.f (fun K k=>by simp(maxSteps:=3000000) (disch:=omega) only[go_sem,↓reduceIte,reduceCtorEq,h1,pic];exact k) ?_;suffices hrest:PW Tryz.prog _ _ [(2,.bool b),(4,.ptr H.length 0 0),(5,.ptr (H.length+1) 0 0),(7,.ptr (H.length+2) 0 0),(8,.ptr (H.length+3) 0 0),(39,.bool (!(zdq s p b&&(decide (1≤t)&&decide (t<1+zS s p)))))] (H++[⟨29,0,sqc s⟩,⟨35,0,pic p⟩,⟨58,0,[.int .i64 t,.slice (bs q) q.length f]⟩,⟨128,0,[.int .i64 0,.slice [] 0 true,.slice [] 0 true]⟩]) _ by
  refine PW.e ?_;cases hf:zdq s p b with
  | false=>
   rw[hf]at fo hrest;(repeat refine PW.seq ?_);refine PW.rg rfl fun K hK=> ?_;simp(maxSteps:=3000000) (disch:=omega) only[go_sem,↓reduceIte,reduceCtorEq,h2,h3,p6,t6];refine VCx.call (fo _) rfl ?_;simp(maxSteps:=3000000) (disch:=omega) only[go_sem,↓reduceIte,reduceCtorEq];refine hK _ _ ?_;clear hK K;exact PW.at [2,4,5,7,8,39] hrest rfl rfl
  | true=>
   rw[hf]at fo hrest;rw[qB]at hrest;by_cases ht1:1≤t
   ·have d1:decide (t<1)=false:=decide_eq_false om;have hpr:=zpX (s:=s) (p:=p);have w1:IntKind.i64.wrap (t - 1)=t - 1:=w64 _ (by unfold zfP at ht;omega);have d2:decide (zS s p≤t - 1)= !decide (t<1+zS s p):=by
     by_cases h:t<1+zS s p
     ·rw[decide_eq_true h,decide_eq_false om];rfl
     ·rw[decide_eq_false h,decide_eq_true om];rfl
    rw[decide_eq_true ht1,qB,←d2]at hrest;(repeat refine PW.seq ?_);refine PW.rg rfl fun K hK=> ?_;simp(maxSteps:=3000000) (disch:=omega) only[go_sem,↓reduceIte,reduceCtorEq,h2,h3,p6,t6];refine VCx.call (fo _) rfl ?_;simp(maxSteps:=3000000) (disch:=omega) only[go_sem,↓reduceIte,reduceCtorEq,d1,h2,h3,p6,t6,w1];refine VCx.call (ro _) rfl ?_;simp(maxSteps:=3000000) (disch:=omega) only[go_sem,↓reduceIte,reduceCtorEq];refine hK _ _ ?_;clear hK K;exact PW.at [2,4,5,7,8,39] hrest rfl rfl
   ·have d1:decide (t<1)=true:=decide_eq_true om;rw[decide_eq_false ht1,qF]at hrest;(repeat refine PW.seq ?_);refine PW.rg rfl fun K hK=> ?_;simp(maxSteps:=3000000) (disch:=omega) only[go_sem,↓reduceIte,reduceCtorEq,h2,h3,p6,t6];refine VCx.call (fo _) rfl ?_;simp(maxSteps:=3000000) (disch:=omega) only[go_sem,↓reduceIte,reduceCtorEq,d1];refine hK _ _ ?_;clear hK K;exact PW.at [2,4,5,7,8,39] hrest rfl rfl
 cases hc:(zdq s p b&&(decide (1≤t)&&decide (t<1+zS s p)))with
 | false=>
  rw[hc,if_neg (by decide)]at hres;refine PW.t ?_;refine PW.e ?_;refine PW.ret ⟨.tup [ag0,.int .i64 1],by simp(maxSteps:=3000000) (disch:=omega) only[go_sem,↓reduceIte,reduceCtorEq,zr,zF,qH,qL,qG,qA,qD,qN,ag0],?_⟩;rw[←hres];exact Fin.base (.id (zox _ _))
 | true=>
  rw[hc,if_pos rfl]at hres;rw[qW]at hc;have hw:1≤wmb s∧wmb s≤4∧s.w.tdiv 16=((wmb s:Nat):Int):=by
   have hv:zH s p=true:=by have:=hc.1;unfold zdq at this;rw[qW]at this;exact this.1
   have:=zb8 hv;have e:=Int.tdiv_eq_ediv_of_nonneg (a:=s.w) (b:=16) om;unfold wmb;omega
  clear fo ro hc;refine PW.us ?_;by_cases hb:q.length=0∨zaD q=0
  ·rw[if_pos hb]at hres;have nr:=fun K=>zqq q f K hq hb;refine PW.k nr ?_;refine PW.e ?_;refine PW.t ?_;refine PW.e ?_;refine PW.ret ⟨.tup [ag0,.int .i64 3],by simp(maxSteps:=3000000) (disch:=omega) only[go_sem,↓reduceIte,reduceCtorEq,zr,zF,qH,qL,qG,qA,qD,qN,ag0],?_⟩;rw[←hres];exact Fin.base (.id (zox _ _))
  rw[if_neg hb]at hres;obtain⟨hb1,hb2⟩:=not_or.1 hb;have nr:=fun K=>zsK q f K hq hb1 hb2;obtain⟨_,n2,_⟩:=zjq q hb1 hb2;obtain⟨V,hV⟩:∃ V,V=8 * q.length:=⟨_,rfl⟩;rw[←hV]at nr n2;generalize nb q=n at *;refine PW.k nr ?_;refine PW.e ?_;refine PW.us ?_;have gr:=fun a X=>(apn H ([⟨29,0,sqc s⟩,⟨35,0,pic p⟩,⟨58,0,[.int .i64 t,.slice (bs q) q.length f]⟩,⟨128,0,[.int .i64 0,.slice [] 0 true,.slice [] 0 true]⟩,rB q V,rR (H.length+4) V n a]++X) 5);have gb:=fun a X=>(apn H ([⟨29,0,sqc s⟩,⟨35,0,pic p⟩,⟨58,0,[.int .i64 t,.slice (bs q) q.length f]⟩,⟨128,0,[.int .i64 0,.slice [] 0 true,.slice [] 0 true]⟩,rB q V,rR (H.length+4) V n a]++X) 4);by_cases h5:n<5
  ·rw[if_pos h5]at hres;have tk:=zfA (H.length+5) (H.length+4) V q n 0 5 _ (gr 0 []) (gb 0 []) om om om om;refine PW.f (fun K k=>by simp(maxSteps:=3000000) (disch:=omega) only[go_sem,↓reduceIte,reduceCtorEq];refine VCx.call (tk) rfl ?_;simp(maxSteps:=3000000) (disch:=omega) only[go_sem,↓reduceIte,reduceCtorEq];exact k) ?_;refine PW.e ?_;refine PW.t ?_;refine PW.e ?_;refine PW.ret ⟨.tup [ag0,.int .i64 4],by simp(maxSteps:=3000000) (disch:=omega) only[go_sem,↓reduceIte,reduceCtorEq,zr,zF,qH,qL,qG,qA,qD,qN,ag0],?_⟩;rw[←hres];exact Fin.base (.id (zox _ _))
  rw[if_neg h5]at hres;have tk:=zd0 (H.length+5) (H.length+4) V q n 0 5 _ (gr 0 []) (gb 0 []) om om om om om;rw[aps]at tk;simp only[qP,List.cons_append,List.nil_append,List.set_cons_succ,List.set_cons_zero,Nat.zero_add]at tk;have hvl:=zf6 q 0 5;generalize vl q 0 5=v at *;refine PW.f (fun K k=>by simp(maxSteps:=3000000) (disch:=omega) only[go_sem,↓reduceIte,reduceCtorEq];refine VCx.call (tk) rfl ?_;simp(maxSteps:=3000000) (disch:=omega) only[go_sem,↓reduceIte,reduceCtorEq];exact k) ?_;refine PW.e ?_;refine PW.us ?_;by_cases hv0:v=0
  ·rw[if_pos hv0]at hres;have d1:((v:Int)==0)=true:=by simp[hv0]
   refine PW.g d1 ?_;refine PW.t ?_;refine PW.e ?_;refine PW.ret ⟨.tup [ag0,.int .i64 3],by simp(maxSteps:=3000000) (disch:=omega) only[go_sem,↓reduceIte,reduceCtorEq,zr,zF,qH,qL,qG,qA,qD,qN,ag0],?_⟩;rw[←hres];exact Fin.base (.id (zox _ _))
  rw[if_neg hv0]at hres;have d1:((v:Int)==0)=false:=by rw[beq_eq_false_iff_ne];omega
  refine PW.g d1 ?_;refine PW.us ?_;have co1:=fun K=>co K;generalize cxP s p b=c at *;obtain⟨w1,w2,w3⟩:=hw;generalize wmb s=w at *;refine PW.f (fun K k=>by simp(maxSteps:=3000000) (disch:=omega) only[go_sem,↓reduceIte,reduceCtorEq,apn,aps];exact k) ?_;refine PW.f (fun K k=>by simp(maxSteps:=3000000) (disch:=omega) only[go_sem,↓reduceIte,reduceCtorEq,apn,aps,qT,List.length_cons,List.length_nil,qQ];exact k) ?_;refine PW.e ?_;refine PW.eq rfl (show _=H++[⟨29,0,sqc s⟩,⟨35,0,pic p⟩,⟨58,0,[.int .i64 t,.slice (bs q) q.length f]⟩,⟨128,0,[.int .i64 0,.slice [] 0 true,.slice [] 0 true]⟩,rB q V,rR (H.length+4) V n 5,⟨128,0,[.int .i64 (v:Int),.slice [] 0 true,.slice [] 0 true]⟩,⟨217,0,stc (st0 v)⟩]from rfl) ?_;(repeat refine PW.seq ?_);refine PW.view (Vs.ghostH (id:=H.length+6) (j:=1) 149 408 (apn _ _ 6) rfl) ?_;refine PW.eq rfl (show _=H++[⟨29,0,sqc s⟩,⟨35,0,pic p⟩,⟨58,0,[.int .i64 t,.slice (bs q) q.length f]⟩,⟨128,0,[.int .i64 0,.slice [] 0 true,.slice [] 0 true]⟩,rB q V,rR (H.length+4) V n 5,⟨128,0,[.int .i64 (v:Int),.msl (H.length+8) 0 0 0 408 true,.slice [] 0 true]⟩,⟨217,0,stc (st0 v)⟩,⟨149,0,[]⟩] by rw[aps,qU];simp) ?_;refine PW.view (Vs.ghostH (id:=H.length+6) (j:=2) 3 1 (apn _ _ 6) rfl) ?_;refine PW.eq rfl (?_:_=ulH H s p t q f V n 5 v 0 (st0 v) [] []) ?_
  ·rw[aps,qU];simp[ulH,qC]
  refine PW.l ?_;suffices hl1:∀(k:Nat) (D:List Mb) (qs:List Int) (st:St) (a:Nat),k≤w→D.length=k→qs.length=k→(∀ x∈D,x.lv.length=384)→a≤n→((sqL c q n (w - k) st a).bind fun z a=>if a=n then Rr.ok (v,D++z.1,qs++z.2) a else .er 2 a)=res→
    PL Tryz.prog _ _ [(2,.bool b),(4,.ptr H.length 0 0),(5,.ptr (H.length+1) 0 0),(8,.ptr (H.length+3) 0 0),(11,.ptr (H.length+5) 0 0),(14,.ptr (H.length+6) 0 0),(15,.ptr (H.length+7) 0 0),(16,.int .i64 (k:Int))] (ulH H s p t q f V n a v k st D qs) _ by
   exact PL.at [2,4,5,8,11,14,15,16] (hl1 0 [] [] (st0 v) 5 om rfl rfl (fun x hx=>by cases hx) om hres) rfl rfl
  clear hres gr gb tk nr;have fz:∀(H1:za) (k:Nat) (F:Fr) (K:za),H1.length=H.length+10→slot F 2= .bool b→slot F 4= .ptr H.length 0 0→slot F 5= .ptr (H.length+1) 0 0→slot F 8= .ptr (H.length+3) 0 0→slot F 11= .ptr (H.length+5) 0 0→slot F 14= .ptr (H.length+6) 0 0→slot F 15= .ptr (H.length+7) 0 0→slot F 16= .int .i64 (k:Int)→FzF H1.length K F [(2,.bool b),(4,.ptr H.length 0 0),(5,.ptr (H.length+1) 0 0),(8,.ptr (H.length+3) 0 0),(11,.ptr (H.length+5) 0 0),(14,.ptr (H.length+6) 0 0),(15,.ptr (H.length+7) 0 0),(16,.int .i64 (k:Int))]:=fun H1 k F K hl q1 q2 q3 q4 q5 q6 q7 q8=>by
   refine⟨?_,?_,?_,?_,?_,?_,?_,?_,trivial⟩
   ·rw[q1];exact .id (.bool _)
   ·rw[q2];exact .id (.ptr om)
   ·rw[q3];exact .id (.ptr om)
   ·rw[q4];exact .id (.ptr om)
   ·rw[q5];exact .id (.ptr om)
   ·rw[q6];exact .id (.ptr om)
   ·rw[q7];exact .id (.ptr om)
   ·rw[q8];exact .id (.int _ _)
  intro k D qs st a hk hD hQ hDl ha hres;induction hd:w - k using qX generalizing k D qs st a with
  | _ d ih=>
   refine PL.round ?_;refine PW.f (fun K k=>by simp(maxSteps:=3000000) (disch:=omega) only[go_sem,↓reduceIte,reduceCtorEq,ulH,h4,h2,w3,w64];exact k) ?_;refine PW.c (fun h=> ?_) (fun h=> ?_)
   ·have h5k:k<w:=ot h;obtain⟨r,hr⟩:∃ r,d=r+1:=⟨d - 1,om⟩;subst hr;have hr2:w - (k+1)=r:=om;rw[hd,sqL,Rr.bind_bind]at hres;have td:=fun L hL hL'=>znK (H.length+5) (H.length+4) V q n a c st L hL hL' om ha om hq;refine PW.skip ?_;refine PW.b ?_;(repeat refine PW.seq ?_);refine PW.view (Vs.place 149) ?_;refine PW.view (Vs.place 217) ?_;refine PW.eq rfl (show _=H++[⟨29,0,sqc s⟩,⟨35,0,pic p⟩,⟨58,0,[.int .i64 t,.slice (bs q) q.length f]⟩,⟨128,0,[.int .i64 0,.slice [] 0 true,.slice [] 0 true]⟩,rB q V,rR (H.length+4) V n a,⟨128,0,[.int .i64 (v:Int),.msl (H.length+8) (k * 408) 0 k 408 true,.msl (H.length+9) k 0 k 1 true]⟩,⟨217,0,stc st⟩,⟨149,k * 408,D.flatMap mbc⟩,⟨3,k,qC qs⟩,⟨149,0,[]⟩,⟨217,0,[]⟩] by simp[ulH]) ?_;have hzl:=zcP;have hzc:=zeF;have dz:qO 408 zmv=[]:=qS om;cases hm:zdp c st q n a with
    | er e a1=>
     rw[hm]at td hres;simp only[rO,rvM,ecd]at td;rw[Rr.bind_er]at hres;have d0:((e:Int)+1 !=0)=true:=by simp;omega
     (repeat refine PW.seq ?_);refine PW.drawi [H.length+5,H.length+10,H.length+11] [(11,[0]),(77,[0]),(17,[1]),(18,[2])] [(17,1),(18,2)] [81] mix kr (by simp<;>omega) fun K hK=> ?_;simp(maxSteps:=3000000) (disch:=omega) only[go_sem,↓reduceIte,reduceCtorEq,apn,h2,h3,p6,t6,l8,tk8];refine VCj.read (fun _ _=>co1 _) rfl ?_;simp(maxSteps:=3000000) (disch:=omega) only[go_sem,↓reduceIte,reduceCtorEq,apn,aps,l8,tk8];refine VCj.wr1 (apn _ _ 5) (fun L hL hG=>td L hL ((hG.out _ sp).trans (apn _ _ 4))) (by simp(maxSteps:=3000000) (disch:=omega) only[go_sem,↓reduceIte,reduceCtorEq]) (.inl rfl) rfl ?_;simp(maxSteps:=3000000) (disch:=omega) only[go_sem,↓reduceIte,reduceCtorEq,apn,aps,l8,tk8,hzl,hzc,dz,c8,dk8];refine hK _ _ ?_;clear hK K;refine PW.g d0 ?_;refine PW.t ?_;refine PW.f (fun K k=>by simp(maxSteps:=3000000) (disch:=omega) only[go_sem,↓reduceIte,reduceCtorEq,apn,aps];exact k) ?_;refine PW.ret ⟨.tup [ag0,.int .i64 ((e:Int)+1)],by simp(maxSteps:=3000000) (disch:=omega) only[go_sem,↓reduceIte,reduceCtorEq,zr,zF,qH,qL,qG,qA,qD,qN,ag0,apn,aps],?_⟩;rw[←hres];exact Fin.base (.id (zox _ _))
    | ok y a1=>
     rw[hm]at td hres;simp only[rO,rvM]at td;obtain⟨b1,b2⟩:=zqu hm ha;rw[Rr.bind_ok,Rr.bind_bind]at hres;have m408:=zw y.1 b2;have mcl:=zdI y.1;have dm:qO 408 (mbc y.1)=[]:=qS om;have tm:qM 408 (mbc y.1)=mbc y.1:=qR om;have lD:=zaW mbc 408 D (fun x hx=>zw x (hDl x hx));rw[hD]at lD;have lQ:(qC qs).length=k:=by rw[zpR];exact hQ
     have y0:(stc y.2)[0]? =some (.int .i64 y.2.q):=rfl;(repeat refine PW.seq ?_);refine PW.drawi [H.length+5,H.length+10,H.length+11] [(11,[0]),(77,[0]),(17,[1]),(18,[2])] [(17,1),(18,2)] [81] mix kr (by simp<;>omega) fun K hK=> ?_;simp(maxSteps:=3000000) (disch:=omega) only[go_sem,↓reduceIte,reduceCtorEq,apn,h2,h3,p6,t6,l8,tk8];refine VCj.read (fun _ _=>co1 _) rfl ?_;simp(maxSteps:=3000000) (disch:=omega) only[go_sem,↓reduceIte,reduceCtorEq,apn,aps,l8,tk8];refine VCj.wr1 (apn _ _ 5) (fun L hL hG=>td L hL ((hG.out _ sp).trans (apn _ _ 4))) (by simp(maxSteps:=3000000) (disch:=omega) only[go_sem,↓reduceIte,reduceCtorEq]) (.inl rfl) rfl ?_;simp(maxSteps:=3000000) (disch:=omega) only[go_sem,↓reduceIte,reduceCtorEq,apn,aps,l8,tk8,hzl,hzc,dz,c8,dk8,m408,mcl,dm];refine hK _ _ ?_;clear hK K;refine PW.e ?_;refine PW.us ?_;refine PW.f (fun K k=>by simp(maxSteps:=3000000) (disch:=omega) only[go_sem,↓reduceIte,reduceCtorEq,apn,aps,l8,tk8,c8,dk8];exact k) ?_;(repeat refine PW.seq ?_);refine PW.drawi [H.length+6,H.length+8,H.length+9] [(14,[0]),(92,[0]),(97,[0]),(103,[0]),(104,[0]),(93,[1]),(96,[1]),(98,[2]),(102,[2])] [] [] mix kr (by simp<;>omega) fun K hK=> ?_;have lA:(D.flatMap mbc++mbc y.1).length=(k+1) * 408:=by rw[qT,lD,m408];omega
     have lB:(qC qs++[PV.int .i64 y.2.q]).length=k+1:=by rw[qT,lQ];rfl
     simp(maxSteps:=3000000) (disch:=omega) only[go_sem,↓reduceIte,reduceCtorEq,apn,aps,lD,lQ,m408,mcl,tm,y0,lA,lB];refine hK _ _ ?_;clear hK K;refine PW.e ?_;have eH:H++[⟨29,0,sqc s⟩,⟨35,0,pic p⟩,⟨58,0,[.int .i64 t,.slice (bs q) q.length f]⟩,⟨128,0,[.int .i64 0,.slice [] 0 true,.slice [] 0 true]⟩,rB q V,rR (H.length+4) V n a1,⟨128,0,[.int .i64 (v:Int),.msl (H.length+8) ((k+1) * 408) 0 (k+1) 408 true,.msl (H.length+9) (k+1) 0 (k+1) 1 true]⟩,⟨217,0,stc y.2⟩,⟨149,(k+1) * 408,D.flatMap mbc++mbc y.1⟩,⟨3,k+1,qC qs++[PV.int .i64 y.2.q]⟩,⟨149,1,mbc y.1⟩,⟨217,1,stc y.2⟩]
       =ulH H s p t q f V n a1 v (k+1) y.2 (D++[y.1]) (qs++[y.2.q])++[⟨149,1,mbc y.1⟩,⟨217,1,stc y.2⟩]:=by
      unfold ulH;rw[zsr,List.flatMap_append];simp
     refine PL.view (Vs.trim (F1:=[(2,.bool b),(4,.ptr H.length 0 0),(5,.ptr (H.length+1) 0 0),(8,.ptr (H.length+3) 0 0),(11,.ptr (H.length+5) 0 0),(14,.ptr (H.length+6) 0 0),(15,.ptr (H.length+7) 0 0),(16,.int .i64 ((k+1:Nat):Int))]) (zs1 H s p t q f V n a1 v (k+1) y.2 (D++[y.1]) (qs++[y.2.q])) (by simp[ulH]) eH (fz _ (k+1) _ _ (by simp[ulH]) rfl rfl rfl rfl rfl rfl rfl rfl)) (ih r om (k+1) (D++[y.1]) (qs++[y.2.q]) y.2 a1 om (by simp[hD]) (by simp[hQ]) (fun x hx=> ?_) b1 ?_ hr2)
     ·rcases List.mem_append.1 hx with hx|hx
      ·exact hDl x hx
      ·rw[List.mem_singleton]at hx;rw[hx];exact b2
     ·rw[hr2,←hres];congr 1;funext z a';simp only[Rr.bind,qU,List.cons_append,List.nil_append]
   ·have h6:k=w:=ofF h;subst h6;refine PW.exit ?_;rw[qY]at hd;subst hd;rw[qY,sqL,Rr.bind_ok]at hres;have lf:=zd1 (H.length+5) (H.length+4) V q n a (ulH H s p t q f V n a v k st D qs) (apn _ _ 5) (apn _ _ 4) ha om;have lD:=zaW mbc 408 D (fun x hx=>zw x (hDl x hx));rw[hD]at lD;have lQ:(qC qs).length=k:=by rw[zpR];exact hQ
    unfold ulH at lf;by_cases han:a=n
    ·rw[if_pos han]at hres;rw[han,qY]at lf;subst han;(repeat refine PW.seq ?_);refine PW.rg rfl fun K hK=> ?_;simp(maxSteps:=3000000) (disch:=omega) only[go_sem,↓reduceIte,reduceCtorEq,ulH];refine VCx.call (lf) rfl ?_;simp(maxSteps:=3000000) (disch:=omega) only[go_sem,↓reduceIte,reduceCtorEq];refine hK _ _ ?_;clear hK K;refine PW.us ?_;refine PW.f (fun K k=>by simp(maxSteps:=3000000) (disch:=omega) only[go_sem,↓reduceIte,reduceCtorEq,apn,aps];exact k) ?_;refine PW.ret ⟨.tup [.agg [.int .i64 (v:Int),.msl (H.length+8) (k * 408) 0 k 408 true,.msl (H.length+9) k 0 k 1 true],.int .i64 0],by simp(maxSteps:=3000000) (disch:=omega) only[go_sem,↓reduceIte,reduceCtorEq,zr,zF,qH,qL,qG,qA,qD,qN,apn,aps],?_⟩;rw[←hres];refine Fin.base (Fz.tupC ⟨Fz.aggC ⟨.id (.int _ _),?_,?_,trivial⟩,.id (.int _ _),trivial⟩)
     ·rw[qP,hD];exact Fz.mslC (e:=149) (xs:=D.flatMap mbc) om (apn _ _ 8) (by rw[lD]) (FzC.refl (zjr D _))
     ·dsimp only;rw[qP,hQ];exact Fz.mslC (e:=3) (xs:=qC qs) om (apn _ _ 9) (by rw[lQ,Nat.mul_one]) (FzC.refl (ztS qs _))
    ·rw[if_neg han]at hres;have d0:decide ((0:Int)<((n - a:Nat):Int))=true:=by simp;omega
     (repeat refine PW.seq ?_);refine PW.rg rfl fun K hK=> ?_;simp(maxSteps:=3000000) (disch:=omega) only[go_sem,↓reduceIte,reduceCtorEq,ulH];refine VCx.call (lf) rfl ?_;simp(maxSteps:=3000000) (disch:=omega) only[go_sem,↓reduceIte,reduceCtorEq,d0];refine hK _ _ ?_;clear hK K;refine PW.t ?_;refine PW.f (fun K k=>by simp(maxSteps:=3000000) (disch:=omega) only[go_sem,↓reduceIte,reduceCtorEq,apn,aps];exact k) ?_;refine PW.ret ⟨.tup [ag0,.int .i64 3],by simp(maxSteps:=3000000) (disch:=omega) only[go_sem,↓reduceIte,reduceCtorEq,zr,zF,qH,qL,qG,qA,qD,qN,ag0,apn,aps],?_⟩;rw[←hres];exact Fin.base (.id (zox _ _))
def z3:List PV:=[.int .i64 0,.slice [] 0 true,.slice [] 0 true]
theorem zpo{c:Cx}{q:List UInt8}{n:Nat}:∀(r:Nat) (s:St) (a:Nat),sqL c q n r s a=(slL c q n r s a).bind fun z a=>.ok (z.1,znL s.q z.1) a
 | 0,s,a=>rfl
 | r+1,s,a=>by
  unfold sqL slL;cases hm:zdp c s q n a with
  | er e a1=>rfl
  | ok y a1=>
   obtain⟨e1,_⟩:=zvf hm;simp only[Rr.bind_ok];rw[zpo r y.2 a1];cases slL c q n r y.2 a1 with
   | er e a2=>rfl
   | ok z a2=>simp only[Rr.bind,znL];rw[←e1]
theorem zuO(s:Sq)(p:Pi)(b:Bool)(t:Int)(q:List UInt8):sqT s p b t q=(slT s p b t q).bind fun x a=>.ok (x.1,x.2,znL (x.1:Int) x.2) a:=by
 unfold sqT slT;split
 ·split
  ·rfl
  ·split
   ·rfl
   ·split
    ·rfl
    ·rw[zpo];cases slL (cxP s p b) q (nb q) (wmb s) (st0 (vl q 0 5:Int)) 5 with
     | er e a=>rfl
     | ok z a=>simp only[Rr.bind];split<;>rfl
 ·rfl
theorem zob(L:List It)(j:Nat)(hj:j<L.length):zht L (L.drop j) j=(zon L j L[j]&&zht L (L.drop (j+1)) (j+1)):=by rw[List.drop_eq_getElem_cons hj];rfl
set_option maxHeartbeats 8000000 in
set_option maxRecDepth 100000 in
theorem zsI(L:List It)(fl:Bool)(hL:∀ x∈L,SqOk x.s)(hn:L.length≤800000)(H:za):CallOk Tryz.prog 27 [.slice (itL L) L.length fl] H (.bool (zl3 L)) H:=by
 have fin0:∀(b:Bool),Fin H (.bool b) H (.bool b) H:=fun b=>Fin.now;have ln:=zak L hL;refine CallOk.go Tryz.func27 Tryz.ntmps27 Tryz.results27 ?_;refine PW.e ?_;by_cases hL0:L.length=0
 ·have hL1:L=[]:=List.length_eq_zero_iff.1 hL0;subst hL1;refine PW.e ?_;refine PW.t ?_;refine PW.e ?_;refine PW.v (.bool false) ?_;exact fin0 _
 have hpos:0<L.length:=om;have eo:zl3 L=(decide (L[0].k=1)&&zht L L 0):=by
  unfold zl3;cases L with
  | nil=>exact absurd rfl hL0
  | cons y r=>rfl
 rw[eo];clear eo;have y0:=zR L hL 0 0 hpos om;rw[zbK]at y0;have d0:((L.length:Int)==0)=false:=by simp only[beq_eq_false_iff_ne];omega
 by_cases hk:L[0].k=1;rotate_left
 ·have d1:(L[0].k !=1)=true:=by simpa using hk
  rw[decide_eq_false hk,qF];refine PW.g (nq2 d0 (nq2 ln (nq2 y0 d1))) ?_;refine PW.t ?_;refine PW.e ?_;refine PW.v (.bool false) ?_;exact fin0 _
 have d1:(L[0].k !=1)=false:=by simp[hk]
 rw[decide_eq_true hk,qB];refine PW.g (nq2 d0 (nq2 ln (nq2 y0 d1))) ?_;refine PW.us ?_;clear d0 d1 y0 hk;refine PW.e ?_;refine PW.l ?_;suffices hl1:∀ i:Nat,i≤L.length→zht L (L.drop i) i=zht L L 0→PL Tryz.prog _ _ [(0,.slice (itL L) L.length fl),(3,.int .i64 (i:Int))] H _ by exact PL.at [0,3] (hl1 0 om rfl) rfl rfl
 intro i hi hf;induction hd:L.length - i using qX generalizing i with
 | _ d ih=>
  refine PL.round ?_;refine PW.e ?_;refine PW.c (fun h=> ?_) (fun h=> ?_)
  ·have hil:i<L.length:=ot h;have hnext:=ih (L.length - (i+1)) om (i+1) om;rw[zob L i hil]at hf;have ek:=zR L hL i 0 hil om;have eb:=zR L hL i 137 hil om;have hx:=hL _ (qV hil);rw[zbK,qZ]at ek;have eb':(itc L[i])[137]? =some (.bool L[i].gb):=zcd _ hx 1;rw[eb']at eb;generalize hxg:L[i]=x at *;refine PW.skip ?_;refine PW.b ?_;refine PW.e ?_;suffices hm:PW Tryz.prog _ _ [(0,.slice (itL L) L.length fl),(3,.int .i64 (i:Int)),(4,.int .i64 (nxI L i).k)] H _ by
    by_cases hi1:i+1<L.length
    ·have d2:decide ((i:Int)+1<(L.length:Int))=true:=decide_eq_true om;have e1:=zR L hL (i+1) 0 hi1 om;rw[zbK,qZ]at e1;have en:nxI L i=L[i+1]:=by unfold nxI;rw[List.getElem?_eq_getElem hi1];rfl
     rw[en]at hm;generalize L[i+1]=y at *;refine PW.g d2 ?_;refine PW.t ?_;refine PW.g (nq2 ln e1) ?_;exact PW.at [0,3,4] hm rfl rfl
    ·have d2:decide ((i:Int)+1<(L.length:Int))=false:=decide_eq_false om;have en:nxI L i=it0:=by unfold nxI;rw[List.getElem?_eq_none om];rfl
     rw[en]at hm;refine PW.g d2 ?_;refine PW.us ?_;exact PW.at [0,3,4] hm rfl rfl
   have hfE:zon L i x=(if x.k=1 then decide ((nxI L i).k=2)else if x.k=2 then decide ((nxI L i).k=3)&& !x.gb else if x.k=4 then decide ((nxI L i).k=0)||decide ((nxI L i).k=1)else true):=rfl;rw[hfE]at hf;clear hfE;generalize nxI L i=y at *;refine PW.g (nq2 ek ln) ?_;suffices hr:zht L (L.drop (i+1)) (i+1)=zht L L 0→PW Tryz.prog _ _ [(0,.slice (itL L) L.length fl),(3,.int .i64 (i:Int))] H _ by
    refine PW.block ?_;by_cases k1:x.k=1
    ·rw[if_pos k1]at hf;have b1:(x.k==1)=true:=by simp[k1]
     refine PW.g b1 ?_;refine PW.t ?_;by_cases n2:y.k=2
     ·have b2:(y.k !=2)=false:=by simp[n2]
      rw[decide_eq_true n2,qB]at hf;refine PW.g b2 ?_;refine PW.us ?_;exact PW.at [0,3] (hr hf) rfl rfl
     ·have b2:(y.k !=2)=true:=by simpa using n2
      rw[decide_eq_false n2,qF]at hf;refine PW.g b2 ?_;refine PW.t ?_;refine PW.e ?_;refine PW.v (.bool false) ?_;rw[←hf];exact fin0 _
    rw[if_neg k1]at hf;have b1:(x.k==1)=false:=by simp[k1]
    refine PW.g b1 ?_;refine PW.u ?_;by_cases k2:x.k=2
    ·rw[if_pos k2]at hf;have b2:(x.k==2)=true:=by simp[k2]
     refine PW.g b2 ?_;refine PW.t ?_;by_cases n3:y.k=3
     ·have b3:(y.k !=3)=false:=by simp[n3]
      rw[decide_eq_true n3,qB]at hf;cases hg:x.gb with
      | true=>
       rw[hg]at hf eb;rw[Bool.not_true,qF]at hf;refine PW.g (nq2 ln (nq2 eb b3)) ?_;refine PW.t ?_;refine PW.e ?_;refine PW.v (.bool false) ?_;rw[←hf];exact fin0 _
      | false=>rw[hg]at hf eb;rw[Bool.not_false,qB]at hf;refine PW.g (nq2 ln (nq2 eb b3)) ?_;refine PW.us ?_;exact PW.at [0,3] (hr hf) rfl rfl
     ·have b3:(y.k !=3)=true:=by simpa using n3
      rw[decide_eq_false n3,qF,qF]at hf;refine PW.g b3 ?_;refine PW.t ?_;refine PW.e ?_;refine PW.v (.bool false) ?_;rw[←hf];exact fin0 _
    rw[if_neg k2]at hf;have b2:(x.k==2)=false:=by simp[k2]
    refine PW.g b2 ?_;refine PW.u ?_;by_cases k4:x.k=4
    ·rw[if_pos k4]at hf;have b4:(x.k==4)=true:=by simp[k4]
     refine PW.g b4 ?_;refine PW.t ?_;by_cases n0:y.k=0
     ·have b5:(y.k !=0)=false:=by simp[n0]
      rw[decide_eq_true n0,Bool.true_or,qB]at hf;refine PW.g b5 ?_;refine PW.us ?_;exact PW.at [0,3] (hr hf) rfl rfl
     have b5:(y.k !=0)=true:=by simpa using n0
     rw[decide_eq_false n0,Bool.false_or]at hf;by_cases n1:y.k=1
     ·have b6:(y.k !=1)=false:=by simp[n1]
      rw[decide_eq_true n1,qB]at hf;refine PW.g (nq2 b5 b6) ?_;refine PW.us ?_;exact PW.at [0,3] (hr hf) rfl rfl
     ·have b6:(y.k !=1)=true:=by simpa using n1
      rw[decide_eq_false n1,qF]at hf;refine PW.g (nq2 b5 b6) ?_;refine PW.t ?_;refine PW.e ?_;refine PW.v (.bool false) ?_;rw[←hf];exact fin0 _
    rw[if_neg k4,qB]at hf;have b4:(x.k==4)=false:=by simp[k4]
    refine PW.g b4 ?_;refine PW.us ?_;exact PW.at [0,3] (hr hf) rfl rfl
   intro hr;refine PW.e ?_;exact PL.at [0,3] (hnext hr rfl) rfl rfl
  ·have hil:i=L.length:=ofF h;subst hil;rw[List.drop_length]at hf;rw[←hf];refine PW.exit ?_;refine PW.e ?_;refine PW.v (.bool true) ?_;exact fin0 _
set_option maxHeartbeats 4000000 in
set_option maxRecDepth 10000 in
theorem zmI(s:Sq)(c:Cdd)(b:Bool)(hs:SqOk s)(hc:CdOk c)(H:za):CallOk Tryz.prog 31 [.agg (sqc s),.agg (cdE c),.bool b] H (.bool (zeT s c b)) H:=by
 have fin:∀(b:Bool) (K:za),Fin H (.bool b) H (.bool b) (H++K):=fun b K=>Fin.base (.id (.bool _));have h1:=zaT s;have h2:=zaP s hs;have h3:=zdx s hs;have c1:(cdE c).all PV.cell=true:=rfl;have c2:(cdE c).length=8:=rfl;have c3:qM 6 (cdE c)=pic c.p:=rfl;have c7:(cdE c)[7]? =some (.slice (uq c.us) c.us.length false):=rfl;have ro:=fun K=>zip s c.p K hs;have ql:=zcr c.us;unfold zeT;refine CallOk.go Tryz.func31 Tryz.ntmps31 Tryz.results31 ?_;refine PW.g (nq2 h1 c1) ?_;(repeat refine PW.seq ?_);refine PW.drawg mix kr fun K hK=> ?_;simp(disch:=omega) only[go_sem,↓reduceIte,reduceCtorEq,h2,h3,c2,c3,c7];refine VCz.call (fun _=>ro _) rfl ?_;refine sqz ?_;refine hK _ _ ?_;clear hK K;by_cases hn:(c.us.length:Int)=zS s c.p;rotate_left
 ·have d1:((c.us.length:Int) !=zS s c.p)=true:=by simpa using hn
  rw[decide_eq_false hn,qF];refine PW.c (fun h=> ?_) (fun h=> ?_);rotate_left
  ·rw[d1]at h;cases h
  refine PW.e ?_;refine PW.v (.bool false) ?_;exact fin _ _
 have d1:((c.us.length:Int) !=zS s c.p)=false:=by simp[hn]
 rw[decide_eq_true hn,qB];refine PW.c (fun h=> ?_) (fun h=> ?_)
 ·rw[d1]at h;cases h
 refine PW.skip ?_;clear ro d1 hn;refine PW.e ?_;refine PW.l ?_;have hun:=hc.n;suffices hl1:∀ j:Nat,j≤c.us.length→zkr s c.p b (c.us.drop j) j=zkr s c.p b c.us 0→PL Tryz.prog _ _ [(2,.bool b),(3,.ptr H.length 0 0),(4,.ptr (H.length+1) 0 0),(7,.int .i64 (j:Int))] (H++[⟨29,0,sqc s⟩,⟨39,0,cdE c⟩]) _ by exact PL.at [2,3,4,7] (hl1 0 om rfl) rfl rfl
 intro j hj hf;induction hd:c.us.length - j using qX generalizing j with
 | _ d ih=>
  refine PL.round ?_;refine PW.g (nq2 c7 c2) ?_;refine PW.c (fun h=> ?_) (fun h=> ?_)
  ·have hjl:j<c.us.length:=ot h;have ea:=zj5 c.us j hjl;have u0:=zwf c.us j hjl;have hnext:=ih (c.us.length - (j+1)) om (j+1) om;have hu:=hc.u _ (qV hjl);rw[zih _ _ hjl]at hf;generalize c.us[j]=u at *;obtain⟨t,q⟩:=u;simp only[uq1]at ea;dsimp only at hf u0;have so:=fun K=>znP s c.p b t q false K hs hu.1 hu.2;rw[zuO]at so;refine PW.skip ?_;refine PW.b ?_;(repeat refine PW.seq ?_);refine PW.view (Vs.place 128) ?_;refine PW.eq rfl (show _=H++[⟨29,0,sqc s⟩,⟨39,0,cdE c⟩,⟨128,0,[]⟩] by simp) ?_;cases hsl:slT s c.p b t q with
   | er e a=>
    rw[hsl]at hf so;simp only[okR,qF,Bool.and_false]at hf;simp only[Rr.bind,rvQ,ag0,ecd]at so;(repeat refine PW.seq ?_);refine PW.drawi [H.length+2] [(8,[0])] [(8,0)] [35] mix kr (by simp<;>omega) fun K hK=> ?_;refine sqx (nq2 h2 (nq2 h3 (nq2 c2 (nq2 c3 (nq2 c7 (nq2 ea ql)))))) ?_;refine VCj.read (fun _ _=>so _) rfl ?_;refine sqz ?_;refine hK _ _ ?_;clear hK K;have d3:((e:Int)+1 !=0)=true:=by simp;omega
    refine PW.g d3 ?_;refine PW.t ?_;refine PW.e ?_;refine PW.v (.bool false) ?_;rw[←hf];exact fin _ _
   | ok x a=>
    rw[hsl]at hf so;simp only[okR,qB]at hf;simp only[Rr.bind,rvQ,agS]at so;(repeat refine PW.seq ?_);refine PW.drawi [H.length+2] [(8,[0])] [(8,0)] [35] mix kr (by simp<;>omega) fun K hK=> ?_;refine sqx (nq2 h2 (nq2 h3 (nq2 c2 (nq2 c3 (nq2 c7 (nq2 ea ql)))))) ?_;refine VCj.read (fun _ _=>so _) rfl ?_;refine sqz ?_;refine hK _ _ ?_;clear hK K;by_cases h1':t=1+(j:Int);rotate_left
    ·have d2:(t !=1+(j:Int))=true:=by simpa using h1'
     rw[decide_eq_false h1',qF]at hf;refine PW.g (nq2 c2 (nq2 c7 (nq2 ql (nq2 u0 d2)))) ?_;refine PW.t ?_;refine PW.e ?_;refine PW.v (.bool false) ?_;rw[←hf];exact fin _ _
    have d2:(t !=1+(j:Int))=false:=by simp[h1']
    rw[decide_eq_true h1',qB]at hf;refine PW.g (nq2 c2 (nq2 c7 (nq2 ql (nq2 u0 d2)))) ?_;refine PW.us ?_;refine PW.e ?_;refine PL.keep [2,3,4,7] ?_;refine PL.view (Vs.trim (F1:=[(2,.bool b),(3,.ptr H.length 0 0),(4,.ptr (H.length+1) 0 0),(7,.int .i64 ((j+1:Nat):Int))]) (H1:=H++[⟨29,0,sqc s⟩,⟨39,0,cdE c⟩]) (K:=[⟨128,1,[.int .i64 (x.1:Int),.slice (x.2.flatMap mbc) x.2.length false,.slice (qC (znL (x.1:Int) x.2)) (znL (x.1:Int) x.2).length false]⟩]) (fun hh=>zhC (fun b hb x hx=> ?_) hh) sp sp ?_) (hnext hf rfl)
    ·simp only[qK,qE,or_false]at hb;rcases hb with rfl|rfl
     ·exact zV _ _ x hx
     ·exact zjK _ _ _ _ x hx
    ·exact⟨.id (.bool _),.id (.ptr sp),.id (.ptr sp),.id (.int _ _),trivial⟩
  ·have hjl:j=c.us.length:=ofF h;subst hjl;rw[List.drop_length]at hf;rw[←hf];refine PW.exit ?_;refine PW.e ?_;refine PW.v (.bool true) ?_;exact fin _ _
set_option maxHeartbeats 4000000 in
set_option maxRecDepth 10000 in
theorem zth(L:List It)(fl:Bool)(hL:∀ x∈L,SqOk x.s)(i:Nat)(hi:i≤L.length)(hn:L.length≤800000)(H:za):CallOk Tryz.prog 30 [.slice (itL L) L.length fl,.int .i64 (i:Int)] H (.agg (sqc (cur L i))) H:=by
 have ln:=zak L hL;refine CallOk.go Tryz.func30 Tryz.ntmps30 Tryz.results30 ?_;refine PW.e ?_;refine PW.e ?_;refine PW.e ?_;refine PW.l ?_;suffices hl1:∀ j:Nat,j≤i→PL Tryz.prog _ _ [(0,.slice (itL L) L.length fl),(1,.int .i64 (i:Int)),(4,.ptr H.length 0 0),(5,.ptr (H.length+1) 0 0),(6,.int .i64 (j:Int))] (H++[⟨29,0,sqc sq0⟩,⟨29,0,sqc (cur L j)⟩]) _ by exact PL.at [0,1,4,5,6] (hl1 0 om) rfl rfl
 refine cnt i (fun j hj ih=> ?_) ?_
 ·have ct:=ze9 hj;have hjl:j<L.length:=om;have ek:=zR L hL j 0 hjl om;rw[zbK,qZ]at ek;rw[zfk hjl]at ih;have ss:=zc6 L hL j 1 135 hjl om;have hc:=zhQ hL j om;have hx:=hL _ (qV hjl);rw[zk3 _ hx]at ss;generalize cur L j=g at *;generalize L[j]=x at *;have k2:=zaP g hc;have k3:=zaT x.s;have k4:=zaP x.s hx;refine PL.round ?_;refine PW.g ct ?_;refine PW.t ?_;refine PW.skip ?_;refine PW.b ?_;by_cases h1:x.k=1
  ·rw[if_pos h1]at ih;have d1:(x.k==1)=true:=by simp[h1]
   refine PW.g (nq2 ek (nq2 ln d1)) ?_;refine PW.t ?_;refine PW.g (nq2 ss (nq2 ln (nq2 k2 (nq2 k3 k4)))) ?_;refine PW.e ?_;exact PL.at [0,1,4,5,6] ih rfl (by simp[k2,k4])
  ·rw[if_neg h1]at ih;have d1:(x.k==1)=false:=by simp[h1]
   refine PW.g (nq2 ek (nq2 ln d1)) ?_;refine PW.us ?_;refine PW.e ?_;exact PL.at [0,1,4,5,6] ih rfl rfl
 ·refine PL.round ?_;refine PW.f (fun K k=>by simp(disch:=omega) only[go_sem,↓reduceIte,reduceCtorEq,zl9 i];exact k) ?_;refine PW.u ?_;refine PW.exit ?_;have hc:=zhQ hL i hi;generalize cur L i=g at *;have k1:=zaT g;have k2:=zaP g hc;have k3:=zdx g hc;have k5:qO 135 (sqc sq0)=[]:=rfl;refine PW.f (fun K k=>by simp(disch:=omega) only[go_sem,↓reduceIte,reduceCtorEq,k1,k2,k3,k5,qP];exact k) ?_;refine PW.ret ⟨.agg (sqc g),by simp(disch:=omega) only[go_sem,↓reduceIte,reduceCtorEq,zr,zF,qH,qL,qG,qA,qD,qN,k2,k3,k5,qP],?_⟩;exact Fin.base (.id (zaB (zV _ _)))
end Go.Proofs.YtpjlfoficnpfoaaGreatDoor.Sc
