/-
  Parts of the proof, put together in one text. No condition.
-/
import Derived.Test.YtpjlfoficnpfoaaGreatDoorV18
open Bool renaming and_eq_true → qS, and_eq_false_iff → qX
open List renaming length_append → qA, take_of_length_le → qB, append_assoc → qC, drop_eq_getElem_cons → qD, length_singleton → qE, not_mem_nil → qF, drop_length → qH, mem_cons → qI, take → qK, getElem?_append_left → qL, getElem_mem → qN, replicate → qO, mem_singleton → qP, take_succ_eq_append_getElem → qQ, length_cons → qR, eq_nil_of_length_eq_zero → qT, append_nil → qV, getElem?_eq_some_iff → qW, set_append_left → qY, mem_cons_of_mem → qZ, replicate_succ → jA
open Nat renaming le_refl → qG, strongRecOn → qJ, mul_one → qM, add_mul → qU
namespace Go.Proofs.YtpjlfoficnpfoaaGreatDoor.Sc
set_option linter.all false
open Pm Ty Go.RowKit
def wH(H:za)(i j v n:Nat)(x:Nat×Nat):za:=H.set i (rR j v n x.1)
theorem zoJ(H:za)(i j v n:Nat)(x:Nat×Nat):(wH H i j v n x).length=H.length:=by simp[wH]
structure WkU(H:za)(i j v:Nat)(q:List UInt8)(n:Nat):Prop where
 hi:i<H.length
 hB:H[j]? =some (rB q v)
 ne:i≠j
 hn:n≤8 * q.length
 hq:q.length≤100000000
structure Rf(n:Nat)(x:Nat×Nat):Prop where
 a:x.1≤n
 e:x.2=0
theorem zwU{q:List UInt8}{n k:Nat}{x:Nat×Nat}(he:x.2=0):(nm false q n x k).2.2=0:=by unfold nm;rw[if_neg (by simp[he])];split<;>rfl
theorem Rf.nm{q:List UInt8}{n:Nat}{x:Nat×Nat}(h:Rf n x)(k:Nat):Rf n (nm false q n x k).2:=⟨ztW h.a,zwU h.e⟩
theorem WkU.at{H:za}{i j v:Nat}{q:List UInt8}{n:Nat}(t:WkU H i j v q n)(x:Nat×Nat)(K:za):(wH H i j v n x++K)[i]? =some (rR j v n x.1)∧(wH H i j v n x++K)[j]? =some (rB q v):=by
 have hj:=(qW.1 t.hB).1;have hi:=t.hi;constructor
 ·rw[qL (by rw[zoJ];exact hi)];simp[wH,hi]
 ·rw[qL (by rw[zoJ];exact hj),wH,List.getElem?_set_ne t.ne];exact t.hB
theorem rR_sc{j v n a m:Nat}(h:j<m):∀ x∈(rR j v n a).cells,Scoped m x:=fun x hx=>by
 simp only[rR,qI,qF,or_false]at hx;rcases hx with rfl|rfl
 ·exact .msl h
 ·exact .int _ _
end Go.Proofs.YtpjlfoficnpfoaaGreatDoor.Sc
namespace Go.Proofs.YtpjlfoficnpfoaaGreatDoor.Sc
set_option linter.all false
open Pm Ty S3 Go.RowKit
theorem zdQ{t:Int}{p:List UInt8}(ht:1≤t∧t≤255)(hp:p.length=0∨zaD p≠0):(zT t p).2=0:=by
 have he:zer p=false:=by
  unfold zer;rcases hp with hp|hp
  ·simp[hp]
  ·have:(byt p (p.length - 1)==0)=false:=by unfold zaD at hp;unfold byt;simp;intro h;apply hp;rw[List.getD,h]
   rw[this,Bool.and_false]
 have hs:zag p=(esc p,0):=by unfold zag;rw[he];simp
 unfold zT;rw[if_neg om,hs,if_pos rfl]
theorem zq7{t:Int}{p:List UInt8}(h:(zT t p).2=0):(zT t p).1=[0,0,1,UInt8.ofNat t.toNat]++(zag p).1∧1≤t∧t≤255∧(zag p).2=0:=by
 unfold zT at h ⊢;split at h
 ·cases h
 ·rename_i h1;split at h
  ·rename_i h2;rw[if_neg h1,if_pos h2];exact⟨rfl,om,om,h2⟩
  ·rename_i h2;exact absurd h h2
theorem zfS(t:Int)(p:List UInt8):(zT t p).1.length≤4+2 * p.length:=by
 have:=zfh p;unfold zT;split
 ·simp
 ·split
  ·simp;omega
  ·simp
theorem zgy{t:Int}{p:List UInt8}(h:(zT t p).2=0):4≤(zT t p).1.length:=by rw[(zq7 h).1];simp
def fv(e:List UInt8):Nat:=if e.length=0 then 1 else 4+e.length
theorem zw3(e:List UInt8):fv e≤4+e.length:=by unfold fv;split<;>omega
set_option maxRecDepth 100000 in
theorem zq5(t:Int)(p:List UInt8)(full:Bool)(H:za)(hl:p.length≤1000000)(h0:(zT t p).2=0):
  CallOk Tryz.prog 92 [.agg [.int .i64 t,.slice (bs p) p.length full]] H (.tup [.msl (H.length+1) (fv (zag p).1) 0 (zT t p).1.length 1 true,.int .i64 0])
   (H++[⟨58,0,[.int .i64 t,.slice (bs p) p.length full]⟩,⟨5,fv (zag p).1,bs (zT t p).1⟩]):=by
 obtain⟨f1,f2,f3,f4⟩:=zq7 h0;have eo:=fun K=>ziC p full K hl;have hlen:=zfh p;rw[f4]at eo;unfold bv at eo;rw[f1];generalize (zag p).1=e at *;have d1:decide (t<1)=false:=decide_eq_false om;have d2:decide (255<t)=false:=decide_eq_false om;have te:qK e.length (bs e)=bs e:=qB (by rw[zc];omega);refine CallOk.go Tryz.func92 Tryz.ntmps92 Tryz.results92 ?_;refine PW.e ?_;refine PW.g (nq2 d1 d2) ?_;refine PW.us ?_;refine PW.k eo ?_;refine PW.e ?_;refine PW.us ?_;(repeat refine PW.seq ?_);refine PW.view (Vs.place 5) ?_;refine PW.eq rfl (show _=H++[⟨58,0,[.int .i64 t,.slice (bs p) p.length full]⟩,⟨5,0,[]⟩]from qC _ _ _) ?_;(repeat refine PW.seq ?_);refine PW.seqi [H.length+1] [(26,0)] rfl fun K hK=> ?_;by_cases he:e.length=0
 ·have hz:e=[]:=qT he;subst hz;simp(disch:=omega) only[go_sem,↓reduceIte,reduceCtorEq,zc];refine hK _ _ ?_;clear hK K;refine PW.v (.tup [.msl (H.length+1) 1 0 4 1 true,.int .i64 0]) ?_;refine .inl ⟨rfl,?_⟩;simp[fv,bs];omega
 ·simp(disch:=omega) only[go_sem,↓reduceIte,reduceCtorEq,zc,he,te];refine hK _ _ ?_;clear hK K;refine PW.v (.tup [.msl (H.length+1) (e.length+1+1+1+1) 0 (4+e.length) 1 true,.int .i64 0]) ?_;refine .inl ⟨?_,?_⟩
  ·simp[fv,he];omega
  ·simp[fv,he,bs];omega
def fU(u:List UInt8):List UInt8:=(zT 178 (u++[128])).1
theorem zq9(u:List UInt8):(zT 178 (u++[128])).2=0:=zdQ (by decide) (.inr (by
 unfold zaD;rw[qA];simp))
theorem zub(u:List UInt8):4≤(fU u).length∧(fU u).length≤2 * u.length+6:=by have h1:=zgy (zq9 u);have h2:=zfS 178 (u++[128]);rw[qA,qE]at h2;unfold fU;omega
abbrev BV:=List UInt8×Nat
def more(x:BV)(e:List UInt8):BV:=(x.1++e,(x.1++e).length)
def apU:BV→List (List UInt8)→BV×Int
 | x,[]=>(x,0)
 | x,u::r=>if 256<u.length then(x,5)else apU (more x (fU u)) r
def apS:BV→List (Int×List UInt8)→BV×Int
 | x,[]=>(x,0)
 | x,u::r=>if 1≤u.1∧u.1<5 then(if(zT u.1 u.2).2=0 then apS (more x (zT u.1 u.2).1) r else(x,(zT u.1 u.2).2))else(x,1)
def apP(x:BV)(U:List (List UInt8))(us:List (Int×List UInt8)):BV×Int:=if(apU x U).2=0 then apS (apU x U).1 us else apU x U
def bB(x:BV):Blk:=⟨5,x.2,bs x.1⟩
def bS(id:Nat)(x:BV):PV:=.msl id x.2 0 x.1.length 1 true
def rvA(id:Nat)(r:BV×Int):PV:=if r.2=0 then .tup [bS id r.1,.int .i64 0]else .tup [.slice [] 0 true,.int .i64 r.2]
theorem zus(t:Int)(H:za):CallOk Tryz.prog 98 [.int .i64 t] H (.bool (decide (1≤t)&&decide (t<5))) H:=by refine CallOk.go Tryz.func98 Tryz.ntmps98 Tryz.results98 ?_;(repeat'(first|refine PW.seq ?_|refine PW.skip ?_|refine PW.block ?_|((first|refine PW.rg rfl fun K hK=> ?_|refine PW.draw mix kr fun K hK=> ?_);simp(disch:=omega) only[go_sem,↓reduceIte,reduceCtorEq])|((first|refine zh ?_ ?_|refine ze ?_ ?_|refine And.intro ?_ ?_)<;>intro h<;>(try simp only[nqb]at h)<;>simp(disch:=omega) only[go_sem,↓reduceIte,reduceCtorEq,h])|(refine hK _ _ ?_;clear hK K)|(refine PW.cond (t:=_) rfl (fun h=> ?_) (fun h=> ?_)<;>(try(cases h;done))<;>(try simp only[nqb]at h))));all_goals((refine PW.ret ⟨_,rfl,?_⟩;first|refine .inl ⟨?_,rfl⟩|refine Fin.base (.id' ?_ (.bool _))|refine Fin.base (.id' ?_ (.int _ _)));(simp_all[slot,Nat.beq]<;>first|rfl|omega|(rw[Bool.eq_iff_iff];simp;done)|(rw[Bool.eq_iff_iff];simp;omega)))
def aH(H:za)(id:Nat)(x:BV)(C:List PV):za:=H.set id (bB x)++[⟨39,0,C⟩]
theorem aH_0(H:za)(id:Nat)(x:BV)(C:List PV)(K:za):(aH H id x C++K)[H.length]? =some ⟨39,0,C⟩:=by unfold aH;rw[qC,List.getElem?_append_right sp];simp
theorem zxn(H:za)(id:Nat)(x:BV)(C:List PV):(aH H id x C)[H.length]? =some ⟨39,0,C⟩:=by have:=aH_0 H id x C [];rwa[qV]at this
theorem zuf{H:za}{id:Nat}(x:BV)(C:List PV)(h:id<H.length):(aH H id x C)[id]? =some (bB x):=by unfold aH;rw[qL (by simpa using h)];simp[h]
theorem zh9(H:za)(id:Nat)(x:BV)(C:List PV):(aH H id x C).length=H.length+1:=by simp[aH]
theorem aH_1(H:za)(id:Nat)(x:BV)(C:List PV)(b:Blk)(K:za):(aH H id x C++b::K)[H.length+1]? =some b:=by have:=hp0 (aH H id x C) K b;rwa[zh9]at this
theorem zxo(H:za)(id:Nat)(x:BV)(C:List PV)(b X:Blk)(K:za):(aH H id x C++b::K).set (H.length+1) X=aH H id x C++X::K:=by have:=hs0 (aH H id x C) K b X;rwa[zh9]at this
theorem zue{H:za}{id:Nat}{x:BV}{p:Pi}{U:List (List UInt8)}{us:List (Int×List UInt8)}(h:HSc H):HSc (aH H id x (cdc p U us)):=zhC (fun b hb y hy=>by
 simp only[qI,qF,or_false]at hb;subst hb;exact zjK _ _ _ _ y hy) (HSc.set h (zo _ _))
set_option maxHeartbeats 8000000 in
set_option maxRecDepth 100000 in
theorem zv0(id:Nat)(x:BV)(p:Pi)(U:List (List UInt8))(us:List (Int×List UInt8))(H:za)(hid:H[id]? =some (bB x))(hx1:x.2≤x.1.length)(hx2:x.1.length≤1000000)(hU:U.length≤10000)(hu:us.length≤10000)(hup:∀ u∈us,u.2.length≤1000000):
  CallOk Tryz.prog 93 [bS id x,.agg (cdc p U us)] H (rvA id (apP x U us)) (H.set id (bB (apP x U us).1)):=by
 have hi:=(qW.1 hid).1;have hself:H.set id (bB x)=H:=zO hid;have fin0:∀(y:BV) (e:Int) (K:za),e≠0→Fin H (rvA id (y,e)) (H.set id (bB y)) (.tup [.slice [] 0 true,.int .i64 e]) (aH H id y (cdc p U us)++K):=fun y e K he=>by
  unfold rvA aH;rw[if_neg he,qC];exact Fin.cut rfl sp (fun h=>HSc.set h (zo _ _)) (.id (.tup (zci fun z hz=>by
   simp only[qI,qF,or_false]at hz;rcases hz with rfl|rfl
   ·exact zl (fun w hw=>by cases hw)
   ·exact .int _ _)))
 refine CallOk.go Tryz.func93 Tryz.ntmps93 Tryz.results93 ?_;have c1:=zlf p U us;have c2:=zjL p U us;have c6:(cdc p U us)[6]? =some (usr U):=rfl;have c7:=zud p U us;have ul:=zoO U;refine PW.g c1 ?_;refine PW.at [0,3] (F1:=[(0,bS id x),(3,.ptr H.length 0 0)]) (H1:=aH H id x (cdc p U us)) ?_ rfl (by unfold aH;rw[hself]);refine PW.f (fun K k=>by simp(disch:=omega) only[go_sem,↓reduceIte,reduceCtorEq,zxn,c2,c6,usr];exact k) ?_;refine PW.l ?_;suffices hl1:∀(k:Nat) (y:BV),k≤U.length→y.2≤y.1.length→y.1.length≤1000000+k * 1000→apU x U=apU y (U.drop k)→PL Tryz.prog _ _ [(0,bS id y),(3,.ptr H.length 0 0),(16,.slice (U.flatMap zh0) U.length false),(17,.int .i64 (U.length:Int)),(18,.int .i64 (k:Int))] (aH H id y (cdc p U us)) _ by exact PL.at [0,3,16,17,18] (hl1 0 x om hx1 om rfl) rfl rfl
 intro k y hk hy1 hy2 hf;induction hd:U.length - k using qJ generalizing k y with
 | _ d ih=>
  refine PL.round ?_;refine PW.e ?_;refine PW.c (fun h=> ?_) (fun h=> ?_)
  ·have hkU:k<U.length:=ot h;have ua:=zlv U k hkU;have hnext:=fun z h1 h2 h3=>ih (U.length - (k+1)) om (k+1) z om h1 h2 h3 rfl;rw[qD hkU,apU]at hf;have fb:=zub U[k];have fo:=zq9 U[k];generalize U[k]=u at *;refine PW.skip ?_;refine PW.b ?_;refine PW.g (nq2 ua ul) ?_;by_cases h256:256<u.length
   ·rw[if_pos h256]at hf;have d1:decide ((256:Int)<(u.length:Int))=true:=decide_eq_true om;refine PW.g d1 ?_;refine PW.t ?_;refine PW.e ?_;refine PW.v (.tup [.slice [] 0 true,.int .i64 5]) ?_;have:apP x U us=(y,5):=by unfold apP;rw[hf,if_neg sp]
    rw[this];have:=fin0 y 5 [] (by decide);rwa[qV]at this
   ·rw[if_neg h256]at hf;have d1:decide ((256:Int)<(u.length:Int))=false:=decide_eq_false om;refine PW.g d1 ?_;refine PW.us ?_;have bl:=zc u;have tb:qK u.length (bs u)=bs u:=qB om;refine PW.f (fun K k=>by simp(disch:=omega) only[go_sem,↓reduceIte,reduceCtorEq,bl,tb,zh9,Nat.sub_zero,qA];exact k) ?_;have hbu:bs (u++[128])=bs u++[.int .u8 128]:=by rw[zz];rfl
    have hlu:(u++[128]).length=u.length+1:=by simp
    refine PW.keep [0,3,8,16,17,18] ?_;refine PW.view (Vs.trim (F1:=[(0,bS id y),(3,.ptr H.length 0 0),(8,.slice (bs (u++[128])) (u++[128]).length false),(16,.slice (U.flatMap zh0) U.length false),(17,.int .i64 (U.length:Int)),(18,.int .i64 (k:Int))]) (H1:=aH H id y (cdc p U us)) zue (by show H.length≤_;rw[zh9];omega) rfl ?_) ?_
    ·rw[zh9];refine⟨.id (.msl om),.id (.ptr om),?_,.id (zl ?_),.id (.int _ _),.id (.int _ _),trivial⟩
     ·rw[hlu];refine Fz.mslC (e:=5) (xs:=bs (u++[128])) (qG _) ?_ (by rw[zc,hlu,qM]) (FzC.refl (zo _ _));rw[hbu];have:=hp0 (aH H id y (cdc p U us)) [] ⟨5,u.length+1,bs u++[.int .u8 128]⟩;rwa[zh9]at this
     ·intro z hz;obtain⟨w,_,hz⟩:=List.mem_flatMap.1 hz;simp only[zh0,qI,qF,or_false]at hz;rw[hz];exact zl (zo _ _)
    have fm:=fun K=>zix 178 (u++[128]) false K om;rw[fo]at fm;unfold bv at fm;change ∀ K,CallOk _ _ _ K (.tup [.slice (bs (fU u)) (fU u).length false,_]) K at fm;generalize u++[128]=u' at *;obtain⟨e,he⟩:∃ e,e=fU u:=⟨_,rfl⟩;rw[←he]at fm hf fb;have hnext:=hnext (more y e) (qG _) (by simp only[more,qA];rw[qU];omega) hf;have hid':=zuf y (cdc p U us) hi;have hs':∀ z,(aH H id y (cdc p U us)).set id z=H.set id z++[⟨39,0,cdc p U us⟩]:=fun z=>by unfold aH;rw[qY _ _ (by simpa using hi),List.set_set]
    have te:qK e.length (bs e)=bs e:=qB (by rw[zc];omega);have be:=zc e;have by':=zc y.1;refine PW.k fm ?_;refine PW.e ?_;refine PW.us ?_;refine PW.f (fun K k=>by simp(disch:=omega) only[go_sem,↓reduceIte,reduceCtorEq,bS,hid',bB,te,be,by',hs',qA];exact k) ?_;refine PW.e ?_;refine PL.at [0,3,16,17,18] hnext ?_ ?_
    ·simp only[bS,more,qA];rfl
    ·simp only[aH,bB,more,qA,zz]
  ·have hkU:k=U.length:=ofF h;refine PW.exit ?_;rw[hkU,qH,apU]at hf;have hy3:y.1.length≤11000000:=by rw[hkU]at hy2;omega
   have hap:apP x U us=apS y us:=by unfold apP;rw[hf,if_pos rfl]
   rw[hap];clear ih hid hself hf;have b2:=zcr us;refine PW.f (fun K k=>by simp(disch:=omega) only[go_sem,↓reduceIte,reduceCtorEq,zxn,c2,c7];exact k) ?_;refine PW.l ?_;suffices hl2:∀(j:Nat) (z:BV),j≤us.length→z.2≤z.1.length→z.1.length≤11000000+j * 2000004→apS y us=apS z (us.drop j)→PL Tryz.prog _ _ [(0,bS id z),(47,.slice (uq us) us.length false),(48,.int .i64 (us.length:Int)),(49,.int .i64 (j:Int))] (aH H id z (cdc p U us)) _ by exact PL.at [0,47,48,49] (hl2 0 y om hy1 om rfl) rfl rfl
   clear hy1 hy3 hy2 hap;intro j z hj hz1 hz2 hg;induction hd2:us.length - j using qJ generalizing j z with
   | _ d2 ih2=>
    refine PL.round ?_;refine PW.e ?_;refine PW.c (fun h=> ?_) (fun h=> ?_)
    ·have hju:j<us.length:=ot h;have u2:=zj5 us j hju;have hl6:=hup us[j] (qN hju);have hnext:=fun z h1 h2 h3=>ih2 (us.length - (j+1)) om (j+1) z om h1 h2 h3 rfl;rw[qD hju,apS]at hg;generalize us[j]=u at *;unfold uq1 at u2;refine PW.skip ?_;refine PW.b ?_;refine PW.f (fun K k=>by simp(disch:=omega) only[go_sem,↓reduceIte,reduceCtorEq,u2,b2,zh9,aH_1,zxo];exact k) ?_;have so:=fun K=>zus u.1 K;have hp0':=hp0 (aH H id z (cdc p U us)) [] ⟨58,0,[.int .i64 u.1,.slice (bs u.2) u.2.length false]⟩;rw[zh9]at hp0';by_cases ht:1≤u.1∧u.1<5;rotate_left
     ·rw[if_neg ht]at hg;have hsb:(decide (1≤u.1)&&decide (u.1<5))=false:=by
       by_cases h1:1≤u.1
       ·have h5:¬ u.1<5:=fun h=>ht ⟨h1,h⟩;simp[h5]
       ·simp[h1]
      rw[hsb]at so;refine PW.f (fun K k=>by simp(disch:=omega) only[go_sem,↓reduceIte,reduceCtorEq,hp0'];refine VCx.call (so _) rfl ?_;simp(disch:=omega) only[go_sem,↓reduceIte,reduceCtorEq];exact k) ?_;refine PW.t ?_;refine PW.e ?_;refine PW.v (.tup [.slice [] 0 true,.int .i64 1]) ?_;rw[hg];exact fin0 z 1 _ (by decide)
     rw[if_pos ht]at hg;have hsb:(decide (1≤u.1)&&decide (u.1<5))=true:=by simp[ht.1,ht.2]
     rw[hsb]at so;refine PW.f (fun K k=>by simp(disch:=omega) only[go_sem,↓reduceIte,reduceCtorEq,hp0'];refine VCx.call (so _) rfl ?_;simp(disch:=omega) only[go_sem,↓reduceIte,reduceCtorEq];exact k) ?_;refine PW.us ?_;have fm:=fun K=>zix u.1 u.2 false K hl6;have fb:=zfS u.1 u.2;unfold bv at fm;by_cases he0:(zT u.1 u.2).2=0;rotate_left
     ·rw[if_neg he0]at hg;have hb0:((zT u.1 u.2).2 !=0)=true:=by simp[he0]
      generalize (zT u.1 u.2).2=ee at *;refine PW.f (fun K k=>by simp(disch:=omega) only[go_sem,↓reduceIte,reduceCtorEq,hp0'];refine VCx.call (fm _) rfl ?_;simp(disch:=omega) only[go_sem,↓reduceIte,reduceCtorEq];exact k) ?_;refine PW.g hb0 ?_;refine PW.t ?_;refine PW.e ?_;refine PW.v (.tup [.slice [] 0 true,.int .i64 ee]) ?_;rw[hg];exact fin0 z ee _ he0
     rw[if_pos he0]at hg;rw[he0]at fm;have fp:=zgy he0;obtain⟨e,he⟩:∃ e,e=(zT u.1 u.2).1:=⟨_,rfl⟩;rw[←he]at fm hg fb fp;have hnext:=hnext (more z e) (qG _) (by simp only[more,qA];rw[qU];omega) hg;have hz3:z.1.length≤30000000000:=om;have te:qK e.length (bs e)=bs e:=qB (by rw[zc];omega);have be:=zc e;have by':=zc z.1;refine PW.f (fun K k=>by simp(disch:=omega) only[go_sem,↓reduceIte,reduceCtorEq,hp0'];refine VCx.call (fm _) rfl ?_;simp(disch:=omega) only[go_sem,↓reduceIte,reduceCtorEq];exact k) ?_;refine PW.e ?_;refine PW.us ?_;refine PW.keep [0,13,47,48,49] ?_;refine PW.view (Vs.trim (F1:=[(0,bS id z),(13,.slice (bs e) e.length false),(47,.slice (uq us) us.length false),(48,.int .i64 (us.length:Int)),(49,.int .i64 (j:Int))]) (H1:=aH H id z (cdc p U us)) zue (by show H.length≤_;rw[zh9];omega) rfl ?_) ?_
     ·rw[zh9];exact⟨.id (.msl om),.id (zl (zo _ _)),.id (zl (zj4 _ _)),.id (.int _ _),.id (.int _ _),trivial⟩
     have hid':=zuf z (cdc p U us) hi;have hs':∀ w,(aH H id z (cdc p U us)).set id w=H.set id w++[⟨39,0,cdc p U us⟩]:=fun w=>by unfold aH;rw[qY _ _ (by simpa using hi),List.set_set]
     refine PW.f (fun K k=>by simp(disch:=omega) only[go_sem,↓reduceIte,reduceCtorEq,bS,hid',bB,te,be,by',hs',qA];exact k) ?_;refine PW.e ?_;refine PL.at [0,47,48,49] hnext ?_ ?_
     ·simp only[bS,more,qA];rfl
     ·simp only[aH,bB,more,qA,zz]
    ·have hju:j=us.length:=ofF h;refine PW.exit ?_;rw[hju,qH,apS]at hg;rw[hg];refine PW.e ?_;refine PW.v (.tup [bS id z,.int .i64 0]) ?_;unfold rvA aH;rw[if_pos rfl];exact Fin.cut rfl sp (fun h=>HSc.set h (zo _ _)) (.id (.tup (zci fun w hw=>by
      simp only[qI,qF,or_false]at hw;rcases hw with rfl|rfl
      ·exact .msl (by simpa using hi)
      ·exact .int _ _)))
def hdU(x:It):Int×List UInt8×Int:=if x.k=1 then zeX x.s else if x.k=2 then zeY x.gc x.gb x.gt else if x.k=3 then zef x.p else(183,[],0)
def okI(x:It):Bool:=decide (1≤x.k)&&(decide (x.k≤4)&&(decide (0≤x.pad)&&decide (x.pad≤1048576)))
def hdB(x:It):List UInt8:=(zT (hdU x).1 (hdU x).2.1).1
def hdV(x:It):BV:=(hdB x,fv (zag (hdU x).2.1).1)
def itB(x:It):List UInt8×Int:=if okI x then(if(hdU x).2.2=0 then(if x.k=3 then(if(apP (hdV x) x.U x.us).2=0 then((apP (hdV x) x.U x.us).1.1,0)else([],(apP (hdV x) x.U x.us).2))else(hdB x,0))else([],(hdU x).2.2))else([],1)
def zfz(r:List UInt8×Int):PV:=.tup [.slice (bs r.1) r.1.length false,.int .i64 r.2]
theorem zhr(L:List Bool):zaD (pk (L++[true]))≠0:=(zlV L).2.1
theorem zgv{x:It}(h:(hdU x).2.2=0):(zT (hdU x).1 (hdU x).2.1).2=0∧(hdU x).2.1.length≤200:=by
 unfold hdU at h ⊢;split
 ·rename_i h1;rw[if_pos h1]at h;unfold zeX at h ⊢;split
  ·refine⟨zdQ ⟨by simp,by simp⟩ (.inr (zhr _)),?_⟩;show(pk (zg4 x.s++[true])).length≤_;rw[zaf];have h1:=zd3 x.s.ia dIn;have h2:=zd3 x.s.ie dIt;simp[zg4,zm];omega
  ·rename_i h2;rw[if_neg h2]at h;cases h
 ·split
  ·rename_i h1 h2;rw[if_neg h1,if_pos h2]at h;unfold zeY at h ⊢;split
   ·refine⟨zdQ ⟨by simp,by simp⟩ (.inr (zhr _)),?_⟩;show(pk (zbr x.gc x.gb x.gt++[true])).length≤_;rw[zaf];simp[zbr,zm]
   ·rename_i h3;rw[if_neg h3]at h;cases h
  ·split
   ·rename_i h1 h2 h3;rw[if_neg h1,if_neg h2,if_pos h3]at h;unfold zef at h ⊢;split
    ·refine⟨zdQ ⟨by simp,by simp⟩ (.inr (zhr _)),?_⟩;show(pk (zdO x.p++[true])).length≤_;rw[zaf];simp[zdO,zm]
    ·rename_i h4;rw[if_neg h4]at h;cases h
   ·exact⟨zdQ (by decide) (.inl rfl),by simp⟩
structure Lt(x:It):Prop where
 ok:ItOk x
 U:x.U.length≤10000
 us:x.us.length≤10000
 up:∀ u∈x.us,u.2.length≤1000000
set_option maxHeartbeats 8000000 in
set_option maxRecDepth 100000 in
theorem zvt(x:It)(H:za)(hx:Lt x):CallOk Tryz.prog 44 [.agg (itc x)] H (zfz (itB x)) H:=by
 have hs:=hx.ok.s;have i1:=zcG x;have i2:=zbZ x hs;have i3:=zbK x;have i4:=zd5 x hs;have i5:=zk3 x hs;have i6:=zt4 x hs;have i7:=zk4 x hs;have i8:=zqR x hs;generalize hr:itB x=r;unfold itB at hr;refine CallOk.go Tryz.func44 Tryz.ntmps44 Tryz.results44 ?_;refine PW.g i1 ?_;cases hok:okI x with
 | false=>
  rw[hok,if_neg (by decide)]at hr;suffices hrest:PW Tryz.prog _ _ [(24,.bool true)] (H++[⟨43,0,itc x⟩]) _ by unfold okI at hok;(repeat refine PW.seq ?_);refine PW.rg rfl fun K hK=> ?_;simp(disch:=omega) only[go_sem,↓reduceIte,reduceCtorEq,i3,i4];(repeat'((first|refine zh ?_ ?_|refine ze ?_ ?_|refine zZ ?_ ?_|refine VOh_cond ?_ ?_|refine zY ?_ ?_|refine And.intro ?_ ?_)<;>intro h<;>(try simp only[nqb]at h)<;>simp(disch:=omega) only[go_sem,↓reduceIte,reduceCtorEq,i3,i4,h]));all_goals(refine hK _ _ ?_;clear hK K;refine PW.at [24] hrest ?_ rfl;simp[kp,slot,Nat.beq];try(simp only[qX,decide_eq_false_iff_not]at hok;omega))
  refine PW.t ?_;refine PW.e ?_;refine PW.v (.tup [.slice [] 0 true,.int .i64 1]) ?_;rw[←hr];exact Fin.base (Fz.tupC ⟨Fz.sliceC trivial (fun e=>by cases e),.id (.int _ _),trivial⟩)
 | true=>
  rw[hok,if_pos rfl]at hr;unfold okI at hok;simp only[qS,decide_eq_true_eq]at hok;obtain⟨k1,k2,k3,k4⟩:=hok;have d1:decide (x.k<1)=false:=decide_eq_false om;have d2:decide (4<x.k)=false:=decide_eq_false om;have d3:decide (x.pad<0)=false:=decide_eq_false om;have d4:decide (1048576<x.pad)=false:=decide_eq_false om;refine PW.g (nq2 i3 (nq2 i4 (nq2 d1 (nq2 d2 (nq2 d3 d4))))) ?_;refine PW.us ?_;refine PW.e ?_;refine PW.e ?_;refine PW.g i3 ?_;suffices hrest:∀ f,PW Tryz.prog _ _ [(1,.ptr H.length 0 0),(4,.ptr (H.length+1) 0 0),(5,.int .i64 (hdU x).2.2)] (H++[⟨43,0,itc x⟩,⟨58,0,[.int .i64 (hdU x).1,.slice (bs (hdU x).2.1) (hdU x).2.1.length f]⟩]) _ by
   have hk:x.k=1∨x.k=2∨x.k=3∨x.k=4:=om;rcases hk with hk|hk|hk|hk
   ·have hu:hdU x=zeX x.s:=by unfold hdU;rw[if_pos hk]
    rw[hu]at hrest;have po:=fun K=>zss x.s K hs;have e1:(x.k==1)=true:=by simp[hk]
    refine PW.b ?_;refine PW.g e1 ?_;refine PW.t ?_;refine PW.f (fun K k=>by simp(disch:=omega) only[go_sem,↓reduceIte,reduceCtorEq,i2,i5];refine VCx.call (po _) rfl ?_;simp(disch:=omega) only[go_sem,↓reduceIte,reduceCtorEq,uv];exact k) ?_;exact PW.at [1,4,5] (hrest false) rfl rfl
   ·have hu:hdU x=zeY x.gc x.gb x.gt:=by unfold hdU;rw[if_neg om,if_pos hk]
    rw[hu]at hrest;have po:=fun K=>zst x.gc x.gb x.gt K hx.ok.gt;have e1:(x.k==1)=false:=by simp[hk]
    have e2:(x.k==2)=true:=by simp[hk]
    refine PW.b ?_;refine PW.g e1 ?_;refine PW.u ?_;refine PW.g e2 ?_;refine PW.t ?_;refine PW.f (fun K k=>by simp(disch:=omega) only[go_sem,↓reduceIte,reduceCtorEq,i2,i6];refine VCx.call (po _) rfl ?_;simp(disch:=omega) only[go_sem,↓reduceIte,reduceCtorEq,uv];exact k) ?_;exact PW.at [1,4,5] (hrest false) rfl rfl
   ·have hu:hdU x=zef x.p:=by unfold hdU;rw[if_neg om,if_neg om,if_pos hk]
    rw[hu]at hrest;have po:=fun K=>zsu x.p K;have e1:(x.k==1)=false:=by simp[hk]
    have e2:(x.k==2)=false:=by simp[hk]
    have e3:(x.k==3)=true:=by simp[hk]
    refine PW.b ?_;refine PW.g e1 ?_;refine PW.u ?_;refine PW.g e2 ?_;refine PW.u ?_;refine PW.g e3 ?_;refine PW.t ?_;refine PW.f (fun K k=>by simp(disch:=omega) only[go_sem,↓reduceIte,reduceCtorEq,i2,i8];refine VCx.call (po _) rfl ?_;simp(disch:=omega) only[go_sem,↓reduceIte,reduceCtorEq,uv];exact k) ?_;exact PW.at [1,4,5] (hrest false) rfl rfl
   ·have hu:hdU x=(183,[],0):=by unfold hdU;rw[if_neg om,if_neg om,if_neg om]
    rw[hu]at hrest;have e1:(x.k==1)=false:=by simp[hk]
    have e2:(x.k==2)=false:=by simp[hk]
    have e3:(x.k==3)=false:=by simp[hk]
    have e4:(x.k==4)=true:=by simp[hk]
    refine PW.b ?_;refine PW.g e1 ?_;refine PW.u ?_;refine PW.g e2 ?_;refine PW.u ?_;refine PW.g e3 ?_;refine PW.u ?_;refine PW.g e4 ?_;refine PW.t ?_;refine PW.e ?_;exact PW.at [1,4,5] (hrest true) rfl rfl
  intro f;by_cases he:(hdU x).2.2=0;rotate_left
  ·rw[if_neg he]at hr;have be:((hdU x).2.2 !=0)=true:=by simp[he]
   refine PW.g be ?_;refine PW.t ?_;refine PW.e ?_;refine PW.v (.tup [.slice [] 0 true,.int .i64 (hdU x).2.2]) ?_;rw[←hr];exact Fin.base (Fz.tupC ⟨Fz.sliceC trivial (fun e=>by cases e),.id (.int _ _),trivial⟩)
  rw[if_pos he]at hr;obtain⟨hf,hl⟩:=zgv he;have be:((hdU x).2.2 !=0)=false:=by simp[he]
  have fm:=fun K=>zq5 (hdU x).1 (hdU x).2.1 f K om hf;have hbl:(hdB x).length≤1000:=by have:=zfS (hdU x).1 (hdU x).2.1;unfold hdB;omega
  have hvl:(hdV x).2≤(hdV x).1.length:=by unfold hdV hdB;rw[(zq7 hf).1];have:=zw3 (zag (hdU x).2.1).1;simp;omega
  refine PW.g be ?_;refine PW.us ?_;refine PW.k fm ?_;refine PW.e ?_;refine PW.us ?_;have hf1:(zT (hdU x).1 (hdU x).2.1).1=hdB x:=rfl;rw[hf1];obtain⟨M,hM⟩:∃ M,M=H++[⟨43,0,itc x⟩,⟨58,0,[.int .i64 (hdU x).1,.slice (bs (hdU x).2.1) (hdU x).2.1.length f]⟩,⟨58,0,[.int .i64 (hdU x).1,.slice (bs (hdU x).2.1) (hdU x).2.1.length f]⟩,bB (hdV x)]:=⟨_,rfl⟩;have m0:M[H.length]? =some ⟨43,0,itc x⟩:=by rw[hM];exact hp0 _ _ _
  have m3:M[H.length+3]? =some (bB (hdV x)):=by rw[hM];exact hp3 _ _ _ _ _ _
  refine PW.at [1,6] (F1:=[(1,.ptr H.length 0 0),(6,bS (H.length+3) (hdV x))]) (H1:=M) ?_ rfl (by rw[hM];rfl);by_cases hk:x.k=3
  ·rw[if_pos hk]at hr;have e3:(x.k==3)=true:=by simp[hk]
   have ap:=zv0 (H.length+3) (hdV x) x.p x.U x.us M m3 hvl (by show(hdB x).length≤_;omega) hx.U hx.us hx.up;have hMs:∀ y,M.set (H.length+3) (bB y)=H++[⟨43,0,itc x⟩,⟨58,0,[.int .i64 (hdU x).1,.slice (bs (hdU x).2.1) (hdU x).2.1.length f]⟩,⟨58,0,[.int .i64 (hdU x).1,.slice (bs (hdU x).2.1) (hdU x).2.1.length f]⟩,bB y]:=fun y=>by rw[hM,aps];rfl
   rw[hMs]at ap;refine PW.g (nq2 m0 (nq2 i3 e3)) ?_;refine PW.t ?_;by_cases h0:(apP (hdV x) x.U x.us).2=0
   ·rw[if_pos h0]at hr;unfold rvA at ap;rw[if_pos h0]at ap;generalize (apP (hdV x) x.U x.us).1=y at *;refine PW.f (fun K k=>by simp(disch:=omega) only[go_sem,↓reduceIte,reduceCtorEq,m0,i2,i7];refine VCx.call (ap) rfl ?_;simp(disch:=omega) only[go_sem,↓reduceIte,reduceCtorEq];exact k) ?_;refine PW.v (.tup [bS (H.length+3) y,.int .i64 0]) ?_;rw[←hr];refine Fin.base (Fz.tupC ⟨?_,.id (.int _ _),trivial⟩);exact Fz.mslC (e:=5) (xs:=bs y.1) om (hp3 _ _ _ _ _ _) (by rw[zc,qM]) (FzC.refl (zo _ _))
   ·rw[if_neg h0]at hr;unfold rvA at ap;rw[if_neg h0]at ap;generalize (apP (hdV x) x.U x.us).2=ee at *;refine PW.f (fun K k=>by simp(disch:=omega) only[go_sem,↓reduceIte,reduceCtorEq,m0,i2,i7];refine VCx.call (ap) rfl ?_;simp(disch:=omega) only[go_sem,↓reduceIte,reduceCtorEq];exact k) ?_;refine PW.v (.tup [.slice [] 0 true,.int .i64 ee]) ?_;rw[←hr];exact Fin.base (Fz.tupC ⟨Fz.sliceC trivial (fun e=>by cases e),.id (.int _ _),trivial⟩)
  ·rw[if_neg hk]at hr;have e3:(x.k==3)=false:=by simp[hk]
   refine PW.g (nq2 m0 (nq2 i3 e3)) ?_;refine PW.us ?_;refine PW.e ?_;refine PW.v (.tup [bS (H.length+3) (hdV x),.int .i64 0]) ?_;rw[←hr,hM];refine Fin.base (Fz.tupC ⟨?_,.id (.int _ _),trivial⟩);exact Fz.mslC (e:=5) (xs:=bs (hdB x)) om (hp3 _ _ _ _ _ _) (by rw[zc,qM];rfl) (FzC.refl (zo _ _))
def szI(x:It):PV:=if(itB x).2=0 then .tup [.int .i64 (((itB x).1.length:Int)+x.pad),.int .i64 0]else .tup [.int .i64 0,.int .i64 (itB x).2]
abbrev Un:=Int×List UInt8
def unU:List Un→List (List UInt8)→List Un×Int
 | l,[]=>(l,0)
 | l,u::r=>if 256<u.length then([],5)else unU (l++[(178,u++[128])]) r
def unS:List Un→List Un→List Un×Int
 | l,[]=>(l,0)
 | l,u::r=>if 1≤u.1∧u.1<5 then(if(zT u.1 u.2).2=0 then unS (l++[u]) r else([],(zT u.1 u.2).2))else([],1)
def unI(x:It):List Un×Int:=if okI x then(if(hdU x).2.2=0 then(if x.k=3 then(if(unU [((hdU x).1,(hdU x).2.1)] x.U).2=0 then unS (unU [((hdU x).1,(hdU x).2.1)] x.U).1 x.us else([],(unU [((hdU x).1,(hdU x).2.1)] x.U).2))else([((hdU x).1,(hdU x).2.1)],0))else([],(hdU x).2.2))else([],1)
def zpI(r:List Un×Int):PV:=.tup [.slice (uq r.1) r.1.length false,.int .i64 r.2]
def uR(H:za)(x:It)(X:List PV)(l:List Un)(v:Nat):za:=H++[⟨43,0,itc x⟩,⟨58,0,X⟩,⟨58,v,uq l⟩]
theorem zj6(H:za)(x:It)(X:List PV)(l:List Un)(v:Nat):(uR H x X l v).length=H.length+3:=by simp[uR]
theorem zwl(H:za)(x:It)(X:List PV)(l:List Un)(v:Nat)(K:za):(uR H x X l v++K)[H.length]? =some ⟨43,0,itc x⟩:=by unfold uR;rw[qC];exact hp0 _ _ _
theorem zdg(H:za)(x:It)(X:List PV)(l:List Un)(v:Nat):(uR H x X l v)[H.length]? =some ⟨43,0,itc x⟩:=hp0 _ _ _
theorem zwj(H:za)(x:It)(X:List PV)(l:List Un)(v:Nat)(K:za):(uR H x X l v++K)[H.length+2]? =some ⟨58,v,uq l⟩:=by unfold uR;rw[qC];exact hp2 _ _ _ _ _
theorem zoR(H:za)(x:It)(X:List PV)(l:List Un)(v:Nat):(uR H x X l v)[H.length+2]? =some ⟨58,v,uq l⟩:=hp2 _ _ _ _ _
theorem zwi(H:za)(x:It)(X:List PV)(l:List Un)(v:Nat)(K:za)(Y:Blk):(uR H x X l v++K).set (H.length+2) Y=H++([⟨43,0,itc x⟩,⟨58,0,X⟩,Y]++K):=by unfold uR;rw[qC,aps];rfl
theorem zoQ(H:za)(x:It)(X:List PV)(l:List Un)(v:Nat)(Y:Blk):(uR H x X l v).set (H.length+2) Y=H++[⟨43,0,itc x⟩,⟨58,0,X⟩,Y]:=by unfold uR;rw[aps];rfl
theorem uR_3(H:za)(x:It)(X:List PV)(l:List Un)(v:Nat)(b:Blk)(K:za):(uR H x X l v++b::K)[H.length+3]? =some b:=by have:=hp0 (uR H x X l v) K b;rwa[zj6]at this
theorem zwh(H:za)(x:It)(X:List PV)(l:List Un)(v:Nat)(b Y:Blk)(K:za):(uR H x X l v++b::K).set (H.length+3) Y=uR H x X l v++Y::K:=by have:=hs0 (uR H x X l v) K b Y;rwa[zj6]at this
theorem zoP(l m:List Un):uq (l++m)=uq l++uq m:=by simp[uq]
theorem zlw(u:Un):uq [u]=uq1 u:=by simp[uq]
theorem zlx{n:Nat}{H:za}(l:List Un):FzC n H (uq l) (uq l):=FzC.refl (zj4 n l)
set_option maxHeartbeats 8000000 in
set_option maxRecDepth 100000 in
theorem znI(x:It)(H:za)(hx:Lt x):CallOk Tryz.prog 113 [.agg (itc x)] H (zpI (unI x)) H:=by
 have hs:=hx.ok.s;have i1:=zcG x;have i2:=zbZ x hs;have i3:=zbK x;have i4:=zd5 x hs;have i5:=zk3 x hs;have i6:=zt4 x hs;have i8:=zqR x hs;have i9:=zw0 x hs;have i10:=zvs x hs;have fe:∀(e:Int) (K:za),zpI ([],e)=zpI ([],e)→Fin H (zpI ([],e)) H (.tup [.slice [] 0 true,.int .i64 e]) (H++K):=fun e K _=>Fin.base (Fz.tupC ⟨Fz.sliceC trivial (fun e=>by cases e),.id (.int _ _),trivial⟩);generalize hr:unI x=r;unfold unI at hr;refine CallOk.go Tryz.func113 Tryz.ntmps113 Tryz.results113 ?_;refine PW.g i1 ?_;cases hok:okI x with
 | false=>
  rw[hok,if_neg (by decide)]at hr;suffices hrest:PW Tryz.prog _ _ [(29,.bool true)] (H++[⟨43,0,itc x⟩]) _ by unfold okI at hok;(repeat refine PW.seq ?_);refine PW.rg rfl fun K hK=> ?_;simp(disch:=omega) only[go_sem,↓reduceIte,reduceCtorEq,i3,i4];(repeat'((first|refine zh ?_ ?_|refine ze ?_ ?_|refine zZ ?_ ?_|refine VOh_cond ?_ ?_|refine zY ?_ ?_|refine And.intro ?_ ?_)<;>intro h<;>(try simp only[nqb]at h)<;>simp(disch:=omega) only[go_sem,↓reduceIte,reduceCtorEq,i3,i4,h]));all_goals(refine hK _ _ ?_;clear hK K;refine PW.at [29] hrest ?_ rfl;simp[kp,slot,Nat.beq];try(simp only[qX,decide_eq_false_iff_not]at hok;omega))
  refine PW.t ?_;refine PW.e ?_;refine PW.v (.tup [.slice [] 0 true,.int .i64 1]) ?_;rw[←hr];exact fe 1 _ rfl
 | true=>
  rw[hok,if_pos rfl]at hr;unfold okI at hok;simp only[qS,decide_eq_true_eq]at hok;obtain⟨k1,k2,k3,k4⟩:=hok;have d1:decide (x.k<1)=false:=decide_eq_false om;have d2:decide (4<x.k)=false:=decide_eq_false om;have d3:decide (x.pad<0)=false:=decide_eq_false om;have d4:decide (1048576<x.pad)=false:=decide_eq_false om;refine PW.g (nq2 i3 (nq2 i4 (nq2 d1 (nq2 d2 (nq2 d3 d4))))) ?_;refine PW.us ?_;refine PW.e ?_;refine PW.g i3 ?_;suffices hrest:∀ f,PW Tryz.prog _ _ [(1,.ptr H.length 0 0),(4,.ptr (H.length+1) 0 0),(5,.int .i64 (hdU x).2.2)] (H++[⟨43,0,itc x⟩,⟨58,0,[.int .i64 (hdU x).1,.slice (bs (hdU x).2.1) (hdU x).2.1.length f]⟩]) _ by
   have hk:x.k=1∨x.k=2∨x.k=3∨x.k=4:=om;rcases hk with hk|hk|hk|hk
   ·have hu:hdU x=zeX x.s:=by unfold hdU;rw[if_pos hk]
    rw[hu]at hrest;have po:=fun K=>zpS x.s K hs;have e1:(x.k==1)=true:=by simp[hk]
    refine PW.b ?_;refine PW.g e1 ?_;refine PW.t ?_;refine PW.f (fun K k=>by simp(disch:=omega) only[go_sem,↓reduceIte,reduceCtorEq,i2,i5];refine VCx.call (po _) rfl ?_;simp(disch:=omega) only[go_sem,↓reduceIte,reduceCtorEq,uv];exact k) ?_;exact PW.at [1,4,5] (hrest false) rfl rfl
   ·have hu:hdU x=zeY x.gc x.gb x.gt:=by unfold hdU;rw[if_neg om,if_pos hk]
    rw[hu]at hrest;have po:=fun K=>zpT x.gc x.gb x.gt K hx.ok.gt;have e1:(x.k==1)=false:=by simp[hk]
    have e2:(x.k==2)=true:=by simp[hk]
    refine PW.b ?_;refine PW.g e1 ?_;refine PW.u ?_;refine PW.g e2 ?_;refine PW.t ?_;refine PW.f (fun K k=>by simp(disch:=omega) only[go_sem,↓reduceIte,reduceCtorEq,i2,i6];refine VCx.call (po _) rfl ?_;simp(disch:=omega) only[go_sem,↓reduceIte,reduceCtorEq,uv];exact k) ?_;exact PW.at [1,4,5] (hrest false) rfl rfl
   ·have hu:hdU x=zef x.p:=by unfold hdU;rw[if_neg om,if_neg om,if_pos hk]
    rw[hu]at hrest;have po:=fun K=>zpU x.p K;have e1:(x.k==1)=false:=by simp[hk]
    have e2:(x.k==2)=false:=by simp[hk]
    have e3:(x.k==3)=true:=by simp[hk]
    refine PW.b ?_;refine PW.g e1 ?_;refine PW.u ?_;refine PW.g e2 ?_;refine PW.u ?_;refine PW.g e3 ?_;refine PW.t ?_;refine PW.f (fun K k=>by simp(disch:=omega) only[go_sem,↓reduceIte,reduceCtorEq,i2,i8];refine VCx.call (po _) rfl ?_;simp(disch:=omega) only[go_sem,↓reduceIte,reduceCtorEq,uv];exact k) ?_;exact PW.at [1,4,5] (hrest false) rfl rfl
   ·have hu:hdU x=(183,[],0):=by unfold hdU;rw[if_neg om,if_neg om,if_neg om]
    rw[hu]at hrest;have e1:(x.k==1)=false:=by simp[hk]
    have e2:(x.k==2)=false:=by simp[hk]
    have e3:(x.k==3)=false:=by simp[hk]
    refine PW.b ?_;refine PW.g e1 ?_;refine PW.u ?_;refine PW.g e2 ?_;refine PW.u ?_;refine PW.g e3 ?_;refine PW.us ?_;exact PW.at [1,4,5] (hrest true) rfl rfl
  intro f;by_cases he:(hdU x).2.2=0;rotate_left
  ·rw[if_neg he]at hr;have be:((hdU x).2.2 !=0)=true:=by simp[he]
   refine PW.g be ?_;refine PW.t ?_;refine PW.e ?_;refine PW.v (.tup [.slice [] 0 true,.int .i64 (hdU x).2.2]) ?_;rw[←hr];exact fe _ _ rfl
  rw[if_pos he]at hr;have be:((hdU x).2.2 !=0)=false:=by simp[he]
  refine PW.g be ?_;refine PW.us ?_;generalize (hdU x).1=ht at *;generalize (hdU x).2.1=hp at *;(repeat refine PW.seq ?_);refine PW.view (Vs.place 58) ?_;refine PW.eq rfl (show _=H++[⟨43,0,itc x⟩,⟨58,0,[.int .i64 ht,.slice (bs hp) hp.length f]⟩,⟨58,0,[]⟩]from qC _ _ _) ?_;(repeat refine PW.seq ?_);refine PW.seqi [H.length+2] [(62,0)] rfl fun K hK=> ?_;refine sqz ?_;refine hK _ _ ?_;clear hK K;have cutU:∀(n:Nat) (K:za),FzC n K [.int .i64 ht,.slice (bs hp) hp.length f] (uq [(ht,hp)]):=fun n K=>by rw[zlw];exact⟨.id (.int _ _),Fz.sliceC (FzC.refl (zo _ _)) (fun e=>by cases e),trivial⟩
  obtain⟨X,hX⟩:∃ X,X=[PV.int .i64 ht,.slice (bs hp) hp.length f]:=⟨_,rfl⟩;have hXs:∀ n,∀ y∈X,Scoped n y:=fun n y hy=>by
   rw[hX]at hy;simp only[qI,qF,or_false]at hy;rcases hy with rfl|rfl
   ·exact .int _ _
   ·exact zl (zo _ _)
  have uRsc:∀ l v,HSc H→HSc (uR H x X l v):=fun l v h=>zhC (fun b hb y hy=>by
   simp only[qI,qF,or_false]at hb;simp only[qR,List.length_nil];rcases hb with rfl|rfl|rfl
   ·exact zjx _ _ y hy
   ·exact hXs _ y hy
   ·exact zj4 _ _ y hy) h
  refine PW.keep [1,6] ?_;refine PW.view (Vs.cut (F1:=[(1,.ptr H.length 0 0),(6,.msl (H.length+2) 1 0 1 2 true)]) (H1:=uR H x X [(ht,hp)] 1) (by show H.length≤_;rw[zj6];omega) (fun hA=> ?_) ?_) ?_
  ·have hL:=CutH.of (A:=H) (L:=[⟨43,0,itc x⟩,⟨58,0,X⟩,⟨58,1,[.int .i64 ht,.slice (bs hp) hp.length f]⟩]) (K:=[]) (L1:=[⟨43,0,itc x⟩,⟨58,0,X⟩,⟨58,1,uq [(ht,hp)]⟩]) hA ⟨rfl,rfl,FzC.refl (zjx _ _),rfl,rfl,FzC.refl (hXs _),rfl,rfl,cutU _ _,trivial⟩;rw[qV]at hL;rw[hX]at hL ⊢;exact hL
  ·rw[zj6];exact⟨.id (.ptr om),.id (.msl om),trivial⟩
  by_cases hk:x.k=3;rotate_left
  ·rw[if_neg hk]at hr;have e3:(x.k !=3)=true:=by simp[hk]
   refine PW.f (fun K k=>by simp(disch:=omega) only[go_sem,↓reduceIte,reduceCtorEq,zdg,i3,e3];exact k) ?_;refine PW.t ?_;refine PW.e ?_;refine PW.v (.tup [.msl (H.length+2) 1 0 1 2 true,.int .i64 0]) ?_;rw[←hr];refine Fin.base (Fz.tupC ⟨?_,.id (.int _ _),trivial⟩);exact Fz.mslC (e:=58) (xs:=uq [(ht,hp)]) om (hp2 _ _ _ _ _) (by rw[zcr];rfl) (zlx _)
  rw[if_pos hk]at hr;have e3:(x.k !=3)=false:=by simp[hk]
  refine PW.f (fun K k=>by simp(disch:=omega) only[go_sem,↓reduceIte,reduceCtorEq,zdg,i3,e3];exact k) ?_;refine PW.us ?_;refine PW.e ?_;refine PW.l ?_;suffices hl1:∀(k v:Nat) (l:List Un),k≤x.U.length→v≤l.length * 2→l.length≤1+k→unU [(ht,hp)] x.U=unU l (x.U.drop k)→PL Tryz.prog _ _ [(1,.ptr H.length 0 0),(6,.msl (H.length+2) v 0 l.length 2 true),(7,.int .i64 (k:Int))] (uR H x X l v) _ by exact PL.at [1,6,7] (hl1 0 1 [(ht,hp)] om sp sp rfl) rfl rfl
  intro k v l hkU hv hll hf;induction hd:x.U.length - k using qJ generalizing k v l with
  | _ d ih=>
   have hUl:=hx.U;have ul:=zoO x.U;refine PL.round ?_;refine PW.f (fun K k=>by simp(disch:=omega) only[go_sem,↓reduceIte,reduceCtorEq,zdg,i9,usr];exact k) ?_;refine PW.c (fun h=> ?_) (fun h=> ?_)
   ·have hkU:k<x.U.length:=ot h;have ua:=zlv x.U k hkU;have hnext:=fun v l h1 h2 h3=>ih (x.U.length - (k+1)) om (k+1) v l om h1 h2 h3 rfl;rw[qD hkU,unU]at hf;generalize x.U[k]=u at *;refine PW.skip ?_;refine PW.b ?_;by_cases h256:256<u.length
    ·rw[if_pos h256]at hf;have d1:decide ((256:Int)<(u.length:Int))=true:=decide_eq_true om;rw[hf,if_neg (by decide)]at hr;refine PW.f (fun K k=>by simp(disch:=omega) only[go_sem,↓reduceIte,reduceCtorEq,zdg,i9,usr,ua,ul,d1];exact k) ?_;refine PW.t ?_;refine PW.e ?_;refine PW.v (.tup [.slice [] 0 true,.int .i64 5]) ?_;rw[←hr];exact fe 5 _ rfl
    ·rw[if_neg h256]at hf;have d1:decide ((256:Int)<(u.length:Int))=false:=decide_eq_false om;refine PW.f (fun K k=>by simp(disch:=omega) only[go_sem,↓reduceIte,reduceCtorEq,zdg,i9,usr,ua,ul,d1];exact k) ?_;refine PW.us ?_;have bl:=zc u;have lq:=zcr l;have tb:qK u.length (bs u)=bs u:=qB om;suffices hrest:PW Tryz.prog _ _ [(1,.ptr H.length 0 0),(6,.msl (H.length+2) (l.length * 2+(1+1)) 0 (l.length+1) 2 true),(7,.int .i64 (k:Int))] (H++[⟨43,0,itc x⟩,⟨58,0,X⟩,⟨58,l.length * 2+(1+1),uq l++[.int .i64 178,.msl (H.length+3) (u.length+1) 0 (u.length+1) 1 true]⟩,⟨5,u.length+1,bs u++[.int .u8 128]⟩]) _ by
      by_cases hu0:u.length=0
      ·have hun:u=[]:=qT hu0;subst hun;refine PW.f (fun K k=>by simp(disch:=omega) only[go_sem,↓reduceIte,reduceCtorEq,zdg,zwl,zwj,zoR,zwi,zoQ,i9,usr,ua,ul,lq,zj6,qA];exact k) ?_;exact PW.at [1,6,7] hrest rfl rfl
      ·refine PW.f (fun K k=>by simp(disch:=omega) only[go_sem,↓reduceIte,reduceCtorEq,zdg,zwl,zwj,zoR,zwi,zoQ,uR_3,zwh,i9,usr,ua,ul,bl,tb,hu0,lq,zj6,qA];exact k) ?_;exact PW.at [1,6,7] hrest rfl rfl
     have hbu:bs (u++[128])=bs u++[.int .u8 128]:=by rw[zz];rfl
     have hlu:(u++[128]).length=u.length+1:=by simp
     refine PW.view (Vs.cut (F1:=[(1,.ptr H.length 0 0),(6,.msl (H.length+2) (l.length * 2+(1+1)) 0 (l++[(178,u++[128])]).length 2 true),(7,.int .i64 (k:Int))]) (H1:=uR H x X (l++[(178,u++[128])]) (l.length * 2+(1+1))) (by show H.length≤_;rw[zj6];omega) (fun hA=> ?_) ?_) ?_
     ·have e4:∀(a b c d:Blk),H++[a,b,c,d]=H++[a,b,c]++[d]:=fun a b c d=>by simp
      rw[e4];refine CutH.of (A:=H) (L:=[⟨43,0,itc x⟩,⟨58,0,X⟩,⟨58,l.length * 2+(1+1),uq l++[.int .i64 178,.msl (H.length+3) (u.length+1) 0 (u.length+1) 1 true]⟩]) (K:=[⟨5,u.length+1,bs u++[.int .u8 128]⟩]) (L1:=[⟨43,0,itc x⟩,⟨58,0,X⟩,⟨58,l.length * 2+(1+1),uq (l++[(178,u++[128])])⟩]) hA ⟨rfl,rfl,FzC.refl (zjx _ _),rfl,rfl,FzC.refl (hXs _),rfl,rfl,?_,trivial⟩;rw[zoP,zlw];refine FzC.append (zlx _) ⟨.id (.int _ _),?_,trivial⟩;rw[hlu,hbu];refine Fz.mslC (e:=5) (xs:=bs u++[.int .u8 128]) sp ?_ (by rw[qA,bl,qM];rfl) ?_
      ·rw[qC];exact hp3 _ _ _ _ _ _
      ·rw[←hbu];exact FzC.refl (zo _ _)
     ·rw[zj6,qA];exact⟨.id (.ptr om),.id (.msl om),.id (.int _ _),trivial⟩
     refine PW.e ?_;exact PL.at [1,6,7] (hnext _ _ (by rw[qA,qE];omega) (by rw[qA,qE];omega) hf) rfl rfl
   ·have hkU:k=x.U.length:=ofF h;rw[hkU,qH,unU]at hf;rw[hf,if_pos rfl]at hr;refine PW.exit ?_;clear ih;refine PW.e ?_;refine PW.l ?_;have hll2:l.length≤10001:=om;suffices hl2:∀(j v:Nat) (l:List Un),j≤x.us.length→v≤l.length * 2→l.length≤10001+j→r=unS l (x.us.drop j)→PL Tryz.prog _ _ [(1,.ptr H.length 0 0),(6,.msl (H.length+2) v 0 l.length 2 true),(8,.int .i64 (j:Int))] (uR H x X l v) _ by exact PL.at [1,6,8] (hl2 0 v l om hv om hr.symm) rfl rfl
    clear hr hf hv hll hll2;intro j v l hj hv hll hr;have hus:=hx.us;have ql:=zcr x.us;induction hd2:x.us.length - j using qJ generalizing j v l with
    | _ d2 ih2=>
     refine PL.round ?_;refine PW.f (fun K k=>by simp(disch:=omega) only[go_sem,↓reduceIte,reduceCtorEq,zdg,i10];exact k) ?_;refine PW.c (fun h=> ?_) (fun h=> ?_)
     ·have hju:j<x.us.length:=ot h;have u0:=zwf x.us j hju;have u2:=zj5 x.us j hju;have hl6:=hx.up x.us[j] (qN hju);have hnext:=fun v l h1 h2 h3=>ih2 (x.us.length - (j+1)) om (j+1) v l om h1 h2 h3 rfl;rw[qD hju,unS]at hr;generalize x.us[j]=u at *;unfold uq1 at u2;refine PW.skip ?_;refine PW.b ?_;refine PW.f (fun K k=>by simp(disch:=omega) only[go_sem,↓reduceIte,reduceCtorEq,zdg,i10,u0,ql];exact k) ?_;by_cases ht:1≤u.1∧u.1<5;rotate_left
      ·rw[if_neg ht]at hr;suffices hrest:PW Tryz.prog _ _ [(117,.bool true)] (uR H x X l v) _ by
        by_cases h1:u.1<1
        ·have d1:decide (u.1<1)=true:=decide_eq_true h1;refine PW.g d1 ?_;exact PW.at [117] hrest rfl rfl
        ·have d1:decide (u.1<1)=false:=decide_eq_false h1;have d5:decide (5≤u.1)=true:=decide_eq_true om;refine PW.g (nq2 d1 d5) ?_;exact PW.at [117] hrest rfl rfl
       refine PW.t ?_;refine PW.e ?_;refine PW.v (.tup [.slice [] 0 true,.int .i64 1]) ?_;rw[hr];exact fe 1 _ rfl
      rw[if_pos ht]at hr;have d1:decide (u.1<1)=false:=decide_eq_false om;have d5:decide (5≤u.1)=false:=decide_eq_false om;refine PW.g (nq2 d1 d5) ?_;refine PW.us ?_;have fm:=fun K=>zhF u.1 u.2 false K hl6;unfold bv at fm;by_cases he0:(zT u.1 u.2).2=0;rotate_left
      ·rw[if_neg he0]at hr;have hb0:((zT u.1 u.2).2 !=0)=true:=by simp[he0]
       generalize (zT u.1 u.2).2=ee at *;refine PW.f (fun K k=>by simp(disch:=omega) only[go_sem,↓reduceIte,reduceCtorEq,zdg,i10,u2,ql];refine VCx.call (fm _) rfl ?_;simp(disch:=omega) only[go_sem,↓reduceIte,reduceCtorEq];exact k) ?_;refine PW.g hb0 ?_;refine PW.t ?_;refine PW.e ?_;refine PW.v (.tup [.slice [] 0 true,.int .i64 ee]) ?_;rw[hr];exact fe ee _ rfl
      rw[if_pos he0]at hr;rw[he0]at fm;refine PW.f (fun K k=>by simp(disch:=omega) only[go_sem,↓reduceIte,reduceCtorEq,zdg,i10,u2,ql];refine VCx.call (fm _) rfl ?_;simp(disch:=omega) only[go_sem,↓reduceIte,reduceCtorEq];exact k) ?_;refine PW.e ?_;refine PW.us ?_;have lq:=zcr l;refine PW.f (fun K k=>by simp(disch:=omega) only[go_sem,↓reduceIte,reduceCtorEq,zdg,zoR,zoQ,i10,u2,ql,lq,qA];exact k) ?_;refine PW.e ?_;refine PL.at [1,6,8] (hnext (l.length * 2+(1+1)) (l++[u]) (by rw[qA,qE];omega) (by rw[qA,qE];omega) hr) ?_ ?_
      ·rw[qA];rfl
      ·unfold uR;rw[zoP,zlw];rfl
     ·have hju:j=x.us.length:=ofF h;rw[hju,qH,unS]at hr;refine PW.exit ?_;refine PW.e ?_;refine PW.v (.tup [.msl (H.length+2) v 0 l.length 2 true,.int .i64 0]) ?_;rw[hr];refine Fin.base (Fz.tupC ⟨?_,.id (.int _ _),trivial⟩);exact Fz.mslC (e:=58) (xs:=uq l) om (hp2 _ _ _ _ _) (by rw[zcr]) (zlx _)
def Gu(u:Un):Prop:=(zT u.1 u.2).2=0∧u.2.length≤1000000
theorem ztE:∀(U:List (List UInt8)) (l:List Un),(∀ u∈l,Gu u)→(∀ u∈(unU l U).1,Gu u)∧(unU l U).1.length≤l.length+U.length
 | [],l,h=>⟨h,by simp[unU]⟩
 | u::r,l,h=>by
  unfold unU;split
  ·exact⟨fun u hu=>(by cases hu),by simp⟩
  ·rename_i h2;have:=ztE r (l++[(178,u++[128])]) (fun w hw=>by
    rcases List.mem_append.1 hw with hw|hw
    ·exact h w hw
    ·rw[qP]at hw;subst hw;exact⟨zq9 u,by simp;omega⟩)
   refine⟨this.1,?_⟩;have h3:=this.2;simp at h3 ⊢;omega
theorem ztF:∀(us l:List Un),(∀ u∈us,u.2.length≤1000000)→(∀ u∈l,Gu u)→(∀ u∈(unS l us).1,Gu u)∧(unS l us).1.length≤l.length+us.length
 | [],l,_,h=>⟨h,by simp[unS]⟩
 | u::r,l,hp,h=>by
  unfold unS;split
  ·split
   ·rename_i h2;have:=ztF r (l++[u]) (fun w hw=>hp w (qZ _ hw)) (fun w hw=>by
     rcases List.mem_append.1 hw with hw|hw
     ·exact h w hw
     ·rw[qP]at hw;subst hw;exact⟨h2,hp w (List.mem_cons_self ..)⟩)
    refine⟨this.1,?_⟩;have h3:=this.2;simp at h3 ⊢;omega
   ·exact⟨fun u hu=>(by cases hu),by simp⟩
  ·exact⟨fun u hu=>(by cases hu),by simp⟩
theorem zwg{x:It}(hx:Lt x):(∀ u∈(unI x).1,Gu u)∧(unI x).1.length≤20001:=by
 unfold unI;split
 ·split
  ·rename_i he;have hh:∀ u∈[((hdU x).1,(hdU x).2.1)],Gu u:=fun u hu=>by rw[qP]at hu;subst hu;have:=zgv he;exact⟨this.1,by show(hdU x).2.1.length≤_;omega⟩
   have h1:=ztE x.U _ hh;have hU:=hx.U;have hus:=hx.us;split
   ·split
    ·have h2:=ztF x.us _ hx.up h1.1;refine⟨h2.1,?_⟩;have h3:=h2.2;have h4:=h1.2;rw[qE]at h4;omega
    ·exact⟨fun u hu=>(by cases hu),by simp⟩
   ·exact⟨hh,by simp⟩
  ·exact⟨fun u hu=>(by cases hu),by simp⟩
 ·exact⟨fun u hu=>(by cases hu),by simp⟩
def byL(l:List Un):List UInt8:=l.flatMap fun u=>(zT u.1 u.2).1
theorem znn(l m:List Un):byL (l++m)=byL l++byL m:=by simp[byL]
def byR(x:It):List UInt8×Int:=if(unI x).2=0 then(byL (unI x).1,0)else([],(unI x).2)
set_option maxHeartbeats 8000000 in
set_option maxRecDepth 100000 in
theorem zos(x:It)(H:za)(hx:Lt x):CallOk Tryz.prog 56 [.agg (itc x)] H (zfz (byR x)) H:=by
 have hs:=hx.ok.s;have i1:=zcG x;have i2:=zbZ x hs;have i9:qK 148 (itc x)=itc x:=qB om;have uo:=fun K=>znI x K hx;obtain⟨hg,hgl⟩:=zwg hx;unfold zpI at uo;generalize hr:byR x=r;unfold byR at hr;generalize (unI x).1=l at *;generalize (unI x).2=e at *;refine CallOk.go Tryz.func56 Tryz.ntmps56 Tryz.results56 ?_;refine PW.g i1 ?_;refine PW.m (nq2 i2 i9) uo ?_;by_cases he:e=0;rotate_left
 ·rw[if_neg he]at hr;have be:(e !=0)=true:=by simp[he]
  refine PW.g be ?_;refine PW.t ?_;refine PW.e ?_;refine PW.v (.tup [.slice [] 0 true,.int .i64 e]) ?_;rw[←hr];exact Fin.base (Fz.tupC ⟨Fz.sliceC trivial (fun e=>by cases e),.id (.int _ _),trivial⟩)
 rw[if_pos he]at hr;have be:(e !=0)=false:=by simp[he]
 refine PW.g be ?_;refine PW.us ?_;refine PW.e ?_;refine PW.view (Vs.ghost 6 5 1 rfl) ?_;refine PW.e ?_;have ql:=zcr l;refine PW.l ?_;suffices hloop:∀(k:Nat) (M:List UInt8),k≤l.length→M.length≤k * 2000004→byL l=M++byL (l.drop k)→PL Tryz.prog _ _ [(4,.slice (uq l) l.length false),(6,.msl (H.length+1) M.length 0 M.length 1 true),(7,.int .i64 (k:Int))] (H++[⟨43,0,itc x⟩,⟨5,M.length,bs M⟩]) _ by exact PL.at [4,6,7] (hloop 0 [] om sp rfl) (by simp[kp,slot,Nat.beq]) (by simp[bs])
 intro k M hk hM hf;have hMl:M.length≤1000000000000:=om;have bM:=zc M;induction hd:l.length - k using qJ generalizing k M with
 | _ d ih=>
  refine PL.round ?_;refine PW.e ?_;refine PW.c (fun h=> ?_) (fun h=> ?_)
  ·have hkl:k<l.length:=ot h;have ua:=zj5 l k hkl;obtain⟨g1,g2⟩:=hg l[k] (qN hkl);have hnext:=fun M h1 h2 h3 h4=>ih (l.length - (k+1)) om (k+1) M om h1 h2 h3 h4 rfl;rw[qD hkl]at hf;have hf':byL l=M++((zT l[k].1 l[k].2).1++byL (l.drop (k+1))):=hf;generalize l[k]=u at *;unfold uq1 at ua;have fm:=fun K=>zhF u.1 u.2 false K g2;have fb:=zfS u.1 u.2;have fp:=zgy g1;unfold bv at fm;rw[g1]at fm;generalize (zT u.1 u.2).1=e1 at *;have te:qK e1.length (bs e1)=bs e1:=qB (by rw[zc];omega);have be1:=zc e1;refine PW.skip ?_;refine PW.b ?_;refine PW.m (nq2 ua ql) fm ?_;refine PW.f (fun K k=>by simp(disch:=omega) only[go_sem,↓reduceIte,reduceCtorEq,te,be1,bM,qA];exact k) ?_;refine PW.e ?_;have hl4:(M++e1).length=M.length+e1.length:=by rw[qA]
   refine PL.at [4,6,7] (hnext (M++e1) (by rw[hl4,qU];omega) (by rw[qC];exact hf') (by rw[hl4];omega) (zc _)) ?_ ?_
   ·rw[hl4];rfl
   ·rw[hl4,zz]
  ·have hkl:k=l.length:=ofF h;rw[hkl,qH]at hf;have hf:byL l=M:=by rw[hf];simp[byL]
   refine PW.exit ?_;refine PW.e ?_;refine PW.v (.tup [.msl (H.length+1) M.length 0 M.length 1 true,.int .i64 0]) ?_;rw[←hr,hf];refine Fin.base (Fz.tupC ⟨?_,.id (.int _ _),trivial⟩);exact Fz.mslC (e:=5) (xs:=bs M) om (hp1 _ _ _ _) (by rw[bM,qM]) (FzC.refl (zo _ _))
theorem zrE:∀(U:List (List UInt8)) (y:BV) (l:List Un),byL l=y.1→(apU y U).2=(unU l U).2∧((unU l U).2=0→(apU y U).1.1=byL (unU l U).1)
 | [],y,l,h=>⟨rfl,fun _=>h.symm⟩
 | u::r,y,l,h=>by
  unfold apU unU;by_cases h2:256<u.length
  ·rw[if_pos h2,if_pos h2];exact⟨rfl,fun h=>by cases h⟩
  ·rw[if_neg h2,if_neg h2];refine zrE r (more y (fU u)) _ ?_;rw[znn,h];simp[byL,more,fU]
theorem zrF:∀(us:List Un) (y:BV) (l:List Un),byL l=y.1→(apS y us).2=(unS l us).2∧((unS l us).2=0→(apS y us).1.1=byL (unS l us).1)
 | [],y,l,h=>⟨rfl,fun _=>h.symm⟩
 | u::r,y,l,h=>by
  unfold apS unS;by_cases h1:1≤u.1∧u.1<5
  ·rw[if_pos h1,if_pos h1];by_cases h2:(zT u.1 u.2).2=0
   ·rw[if_pos h2,if_pos h2];refine zrF r (more y (zT u.1 u.2).1) _ ?_;rw[znn,h];simp[byL,more]
   ·rw[if_neg h2,if_neg h2];exact⟨rfl,fun h=>absurd h h2⟩
  ·rw[if_neg h1,if_neg h1];exact⟨rfl,fun h=>by cases h⟩
theorem zvU(x:It):byR x=itB x:=by
 unfold byR itB unI;cases okI x with
 | false=>rfl
 | true=>
  simp only[if_true];by_cases he:(hdU x).2.2=0;rotate_left
  ·rw[if_neg he,if_neg he,if_neg he]
  rw[if_pos he,if_pos he];by_cases hk:x.k=3;rotate_left
  ·rw[if_neg hk,if_neg hk];simp[byL,hdB]
  rw[if_pos hk,if_pos hk];obtain⟨h1,h2⟩:=zrE x.U (hdV x) [((hdU x).1,(hdU x).2.1)] (by simp[byL,hdV,hdB]);unfold apP;rw[h1];by_cases h3:(unU [((hdU x).1,(hdU x).2.1)] x.U).2=0
  ·rw[if_pos h3,if_pos h3];obtain⟨h4,h5⟩:=zrF x.us (apU (hdV x) x.U).1 _ (h2 h3).symm;rw[h4];by_cases h6:(unS (unU [((hdU x).1,(hdU x).2.1)] x.U).1 x.us).2=0
   ·rw[if_pos h6,if_pos h6,h5 h6]
   ·rw[if_neg h6,if_neg h6]
  ·rw[if_neg h3,if_neg h3];rw[if_neg h3,if_neg (by rw[h1];exact h3),h1]
theorem zns:∀(U:List (List UInt8)) (y:BV),(apU y U).1.1.length≤y.1.length+U.length * 600
 | [],y=>by simp[apU]
 | u::r,y=>by
  unfold apU;split
  ·simp
  ·have h:=zns r (more y (fU u));have hb:=zub u;simp only[more,qA,qR]at h ⊢;omega
theorem znt:∀(us:List Un) (y:BV),(∀ u∈us,u.2.length≤1000000)→(apS y us).1.1.length≤y.1.length+us.length * 2000004
 | [],y,_=>by simp[apS]
 | u::r,y,hp=>by
  unfold apS;split
  ·split
   ·have h:=znt r (more y (zT u.1 u.2).1) (fun w hw=>hp w (qZ _ hw));have hb:=zfS u.1 u.2;have hu:=hp u (List.mem_cons_self ..);simp only[more,qA,qR]at h ⊢;omega
   ·simp
  ·simp
theorem zgt{x:It}(hx:Lt x):(itB x).1.length≤30000000000:=by
 have hU:=hx.U;have hus:=hx.us;unfold itB;split
 ·split
  ·rename_i he;have hb:(hdB x).length≤1000:=by obtain⟨hf,hl⟩:=zgv he;have:=zfS (hdU x).1 (hdU x).2.1;unfold hdB;omega
   split
   ·split
    ·have h1:=zns x.U (hdV x);have h2:=znt x.us (apU (hdV x) x.U).1 hx.up;have hv:(hdV x).1.length≤1000:=hb;unfold apP;split
     ·show(apS (apU (hdV x) x.U).1 x.us).1.1.length≤_;omega
     ·show(apU (hdV x) x.U).1.1.length≤_;omega
    ·simp
   ·show(hdB x).length≤_;omega
  ·simp
 ·simp
theorem zd7{x:It}(h:(itB x).2=0):0≤x.pad∧x.pad≤1048576∧4≤(itB x).1.length:=by
 unfold itB at h ⊢;cases hok:okI x with
 | false=>rw[hok,if_neg (by decide)]at h;cases h
 | true=>
  rw[hok,if_pos rfl]at h;unfold okI at hok;simp only[qS,decide_eq_true_eq]at hok;refine⟨hok.2.2.1,hok.2.2.2,?_⟩;rw[if_pos rfl];by_cases he:(hdU x).2.2=0;rotate_left
  ·rw[if_neg he]at h;exact absurd h he
  rw[if_pos he]at h ⊢;have hb:4≤(hdB x).length:=zgy (zgv he).1;by_cases hk:x.k=3;rotate_left
  ·rw[if_neg hk];exact hb
  rw[if_pos hk]at h ⊢;by_cases h0:(apP (hdV x) x.U x.us).2=0;rotate_left
  ·rw[if_neg h0]at h;exact absurd h h0
  rw[if_pos h0];have mU:∀(U:List (List UInt8)) (y:BV),y.1.length≤(apU y U).1.1.length:=by
   intro U;induction U with
   | nil=>intro y;exact qG _
   | cons u r ih=>
    intro y;unfold apU;split
    ·exact qG _
    ·refine Nat.le_trans ?_ (ih _);simp[more]
  have mS:∀(us:List Un) (y:BV),y.1.length≤(apS y us).1.1.length:=by
   intro us;induction us with
   | nil=>intro y;exact qG _
   | cons u r ih=>
    intro y;unfold apS;split
    ·split
     ·refine Nat.le_trans ?_ (ih _);simp[more]
     ·exact qG _
    ·exact qG _
  have h1:=mU x.U (hdV x);have h2:=mS x.us (apU (hdV x) x.U).1;have hv:(hdV x).1.length=(hdB x).length:=rfl;unfold apP;split
  ·show 4≤(apS (apU (hdV x) x.U).1 x.us).1.1.length;omega
  ·show 4≤(apU (hdV x) x.U).1.1.length;omega
def pce(x:It):List UInt8:=(itB x).1++qO x.pad.toNat 0
def byS(l:List It):List UInt8:=l.flatMap pce
def erL:List It→Int
 | []=>0
 | x::r=>if(itB x).2=0 then erL r else(itB x).2
def piL:List It→Nat
 | []=>0
 | x::r=>(if x.k=3 then 1 else 0)+piL r
def zfe(l:List It):List UInt8×Int:=if erL l=0 then(if 256<piL l∨1048576<(byS l).length then([],5)else(byS l,0))else([],erL l)
theorem zrm(l:List It)(x:It):byS (l++[x])=byS l++pce x:=by simp[byS]
theorem zkK:∀(l:List It) (x:It),piL (l++[x])=piL l+(if x.k=3 then 1 else 0)
 | [],x=>by simp[piL]
 | y::r,x=>by rw[List.cons_append,piL,piL,zkK r x];omega
theorem zhU{l:List It}{k:Nat}(h:k<l.length):byS (l.take (k+1))=byS (l.take k)++pce l[k]:=by rw[qQ h,zrm]
theorem zkJ{l:List It}{k:Nat}(h:k<l.length):piL (l.take (k+1))=piL (l.take k)+(if l[k].k=3 then 1 else 0):=by rw[qQ h,zkK]
theorem zmL(n:Nat):zaK n [.int .u8 0]=bs (qO n 0):=by
 rw[zrq];induction n with
 | zero=>rfl
 | succ n ih=>rw[jA,←ih];simp[zaK,jA]
structure Lts(l:List It):Prop where
 n:l.length≤1000000
 i:∀ x∈l,Lt x
theorem Lts.s{l:List It}(h:Lts l):∀ x∈l,SqOk x.s:=fun x hx=>(h.i x hx).ok.s
theorem zjj{x:It}(hx:Lt x)(h:(itB x).2=0):(pce x).length=(itB x).1.length+x.pad.toNat∧(pce x).length≤30001048576:=by have h1:=zgt hx;have h2:=zd7 h;unfold pce;rw[qA,List.length_replicate];omega
set_option maxHeartbeats 8000000 in
set_option maxRecDepth 100000 in
theorem zs7(l:List It)(f:Bool)(H:za)(hl:Lts l):CallOk Tryz.prog 19 [.slice (itL l) l.length f] H (zfz (zfe l)) H:=by
 have hn:=hl.n;have ln:=zak l hl.s;have fe:∀(e:Int) (K:za),Fin H (zfz ([],e)) H (.tup [.slice [] 0 true,.int .i64 e]) (H++K):=fun e K=>Fin.base (Fz.tupC ⟨Fz.sliceC trivial (fun e=>by cases e),.id (.int _ _),trivial⟩);generalize hr:zfe l=r;unfold zfe at hr;refine CallOk.go Tryz.func19 Tryz.ntmps19 Tryz.results19 ?_;refine PW.e ?_;refine PW.e ?_;refine PW.view (Vs.ghost 4 5 1 rfl) ?_;refine PW.e ?_;refine PW.e ?_;refine PW.l ?_;suffices hloop:∀(k:Nat) (O:List UInt8),k≤l.length→erL l=erL (l.drop k)→(byS (l.take k)).length≤k * 30001048576→O.length≤1048576→((byS (l.take k)).length≤1048576→O=byS (l.take k))→piL (l.take k)≤k→
   PL Tryz.prog _ _ [(0,.slice (itL l) l.length f),(4,.msl H.length O.length 0 O.length 1 true),(5,.int .i64 (piL (l.take k):Int)),(6,.int .i64 ((byS (l.take k)).length:Int)),(11,.int .i64 (l.length:Int)),(12,.int .i64 (k:Int))] (H++[⟨5,O.length,bs O⟩]) _ by
  exact PL.at [0,4,5,6,11,12] (hloop 0 [] om rfl (by simp[byS]) sp (fun _=>by simp[byS]) (by simp[piL])) rfl rfl
 intro k O hk he hS hO hOb hP;induction hd:l.length - k using qJ generalizing k O with
 | _ d ih=>
  have bO:=zc O;refine PL.round ?_;refine PW.e ?_;refine PW.c (fun h=> ?_) (fun h=> ?_)
  ·have hkl:k<l.length:=ot h;have ia:=zfO l hl.s k hkl;have i0:=zR l hl.s k 0 hkl om;have ip:=zR l hl.s k 147 hkl om;have hx:=hl.i l[k] (qN hkl);rw[zbK,Nat.add_zero]at i0;rw[zd5 _ hx.ok.s]at ip;have hbt:=zhU hkl;have hpt:=zkJ hkl;rw[qD hkl,erL]at he;have hnext:=fun O h1 h2 h3 h4 h5=>ih (l.length - (k+1)) om (k+1) O om h1 h2 h3 h4 h5 rfl;generalize l[k]=x at *;have ib:=fun K=>zvt x K hx;unfold zfz at ib;refine PW.skip ?_;refine PW.b ?_;refine PW.e ?_;by_cases h0:(itB x).2=0;rotate_left
   ·rw[if_neg h0]at he;rw[if_neg (by rw[he];exact h0),he]at hr;have b0:((itB x).2 !=0)=true:=by simp[h0]
    refine PW.m (nq2 ia ln) ib ?_;refine PW.g b0 ?_;refine PW.t ?_;refine PW.e ?_;refine PW.v (.tup [.slice [] 0 true,.int .i64 (itB x).2]) ?_;rw[←hr];exact fe _ _
   rw[if_pos h0]at he;have b0:((itB x).2 !=0)=false:=by simp[h0]
   obtain⟨pl1,pl2⟩:=zjj hx h0;obtain⟨pp1,pp2,pp3⟩:=zd7 h0;have hbl:(byS (l.take (k+1))).length=(byS (l.take k)).length+(pce x).length:=by rw[hbt,qA]
   have hpce:pce x=(itB x).1++qO x.pad.toNat 0:=rfl;refine PW.m (nq2 ia ln) ib ?_;refine PW.g b0 ?_;refine PW.us ?_;obtain⟨N,hN⟩:∃ N:Nat,x.pad=(N:Int):=⟨x.pad.toNat,om⟩;rw[hN]at ip hpce pl1 pp1 pp2;rw[Int.toNat_natCast]at hpce pl1;generalize hbb:(itB x).1=b at *;generalize hSS:(byS (l.take k)).length=S at *;generalize hPP:piL (l.take k)=P at *;refine PW.to [0,4,5,6,8,7,11,12] [(0,.slice (itL l) l.length f),(4,.msl H.length O.length 0 O.length 1 true),(5,.int .i64 (piL (l.take (k+1)):Int)),(6,.int .i64 (S:Int)),(8,.slice (bs b) b.length false),(7,.int .i64 (k:Int)),(11,.int .i64 (l.length:Int)),(12,.int .i64 (k:Int))] (H++[⟨5,O.length,bs O⟩]) ?_ ?_
   ·by_cases hk3:x.k=3
    ·have e3:(x.k==3)=true:=by simp[hk3]
     rw[if_pos hk3]at hpt;refine PW.g (nq2 ln (nq2 i0 e3)) ?_;refine PW.t ?_;refine PW.e ?_;refine⟨?_,rfl⟩;rw[hpt];rfl
    ·have e3:(x.k==3)=false:=by simp[hk3]
     rw[if_neg hk3]at hpt;refine PW.g (nq2 ln (nq2 i0 e3)) ?_;refine PW.u ?_;refine PW.skip ⟨?_,rfl⟩;rw[hpt];rfl
   ·refine PW.g (nq2 ln ip) ?_;have hS2:(byS (l.take (k+1))).length=S+(b.length+N):=by rw[hbl,pl1]
    have eS:(S:Int)+((b.length:Int)+(N:Int))=((byS (l.take (k+1))).length:Int):=by rw[hS2];omega
    have hS3:(byS (l.take (k+1))).length≤(k+1) * 30001048576:=by rw[hS2,qU];omega
    have hP2:piL (l.take (k+1))≤k+1:=by rw[hpt];split<;>omega
    rw[eS];generalize (byS (l.take (k+1))).length=S' at *;refine PW.e ?_;by_cases hM:S'≤1048576
    ·have dM:decide ((S':Int)≤1048576)=true:=decide_eq_true om;have hOe:=hOb om;have hOl:O.length=S:=by rw[hOe];exact hSS
     refine PW.c (fun h=> ?_) (fun h=> ?_);rotate_left
     ·rw[dM]at h;cases h
     have be:=zc b;have te:qK b.length (bs b)=bs b:=qB om;refine PW.f (fun K k=>by simp(disch:=omega) only[go_sem,↓reduceIte,reduceCtorEq,te,be,bO,qA];exact k) ?_;have hO2:O++pce x=byS (l.take (k+1)):=by rw[hbt,hOe]
     have hO3:(O++pce x).length=S':=by rw[qA,pl1];omega
     have hcel:bs (O++pce x)=bs O++(bs b++zaK N [.int .u8 0]):=by rw[hpce,zz,zz,zmL]
     have hfin:=hnext (O++pce x) he hS3 om (fun _=>hO2) hP2;rw[hO3,hcel]at hfin;have eO:O.length+(b.length+N)=S':=om;by_cases hN0:N=0
     ·subst hN0;refine PW.f (fun K k=>by simp(disch:=omega) only[go_sem,↓reduceIte,reduceCtorEq,ln,ip,be,bO,qA];exact k) ?_;refine PW.e ?_;refine PL.at [0,4,5,6,11,12] hfin ?_ ?_
      ·rw[←eO];rfl
      ·rw[←eO];simp[zaK]
     ·have rl:(qO N [PV.int .u8 0]).flatten.length=N:=by simp
      refine PW.f (fun K k=>by simp(disch:=omega) only[go_sem,↓reduceIte,reduceCtorEq,ln,ip,be,bO,qA,hN0,rl];exact k) ?_;refine PW.e ?_;refine PL.at [0,4,5,6,11,12] hfin ?_ ?_
      ·rw[←eO,←Nat.add_assoc];rfl
      ·rw[←eO,←Nat.add_assoc];simp[zaK]
    ·have dM:decide ((S':Int)≤1048576)=false:=decide_eq_false om;refine PW.c (fun h=> ?_) (fun h=> ?_)
     ·rw[dM]at h;cases h
     refine PW.skip ?_;refine PW.e ?_;exact PL.at [0,4,5,6,11,12] (hnext O he hS3 hO (fun h=>absurd h hM) hP2) rfl rfl
  ·have hkl:k=l.length:=ofF h;subst hkl;rw[List.take_length]at hS hOb hP ⊢;rw[qH,erL]at he;rw[if_pos he]at hr;refine PW.exit ?_;generalize byS l=B at *;generalize piL l=P at *;by_cases h1:256<P∨1048576<B.length
   ·rw[if_pos h1]at hr;suffices hrest:PW Tryz.prog _ _ [(62,.bool true)] (H++[⟨5,O.length,bs O⟩]) _ by
     by_cases hp1:256<P
     ·have d1:decide ((256:Int)<(P:Int))=true:=decide_eq_true om;refine PW.g d1 ?_;exact PW.at [62] hrest rfl rfl
     ·have d1:decide ((256:Int)<(P:Int))=false:=decide_eq_false om;have d2:decide ((1048576:Int)<(B.length:Int))=true:=decide_eq_true om;refine PW.g (nq2 d1 d2) ?_;exact PW.at [62] hrest rfl rfl
    refine PW.t ?_;refine PW.e ?_;refine PW.v (.tup [.slice [] 0 true,.int .i64 5]) ?_;rw[←hr];exact fe 5 _
   ·rw[if_neg h1]at hr;have d1:decide ((256:Int)<(P:Int))=false:=decide_eq_false om;have d2:decide ((1048576:Int)<(B.length:Int))=false:=decide_eq_false om;refine PW.g (nq2 d1 d2) ?_;refine PW.us ?_;refine PW.e ?_;refine PW.v (.tup [.msl H.length O.length 0 O.length 1 true,.int .i64 0]) ?_;rw[←hr,←hOb om];refine Fin.base (Fz.tupC ⟨?_,.id (.int _ _),trivial⟩);exact Fz.mslC (e:=5) (xs:=bs O) (qG _) (hp0 _ _ _) (by rw[bO,qM]) (FzC.refl (zo _ _))
end Go.Proofs.YtpjlfoficnpfoaaGreatDoor.Sc
