/-
  Parts of the proof, put together in one text. No condition.
-/
import Derived.Test.YtpjlfoficnpfoaaGreatDoorS22
import Derived.LaidMore
import Derived.MakeChecks
import Derived.LaidHandle
import Derived.FnData
open Bool renaming and_eq_true → qD, true_and → qT, eq_iff_iff → qY, false_and → jA
open Int renaming toNat_natCast → qG
open List renaming length_append → qA, take_of_length_le → qB, getElem?_eq_getElem → qE, append_assoc → qF, replicate → qH, getElem?_eq_some_iff → qI, drop_eq_getElem_cons → qJ, take → qK, not_mem_nil → qL, getElem_mem → qM, mem_cons → qN, drop_length → qP, all_eq_true → qQ, mem_singleton → qU, take_succ_eq_append_getElem → qV, getElem?_map → qW, mem_or_eq_of_mem_set → jB, mem_map → jD, set_append_left → jH, mem_of_getElem? → jI, replicate_succ → jK
open Nat renaming le_refl → qC, mul_one → qO, add_zero → qR, lt_succ_self → qX, strongRecOn → qZ, sub_zero → jE, le_trans → jF, beq → jG, add_mul → jJ
open Option renaming some → qS, map_eq_some_iff → jC
namespace Go.Proofs.YtpjlfoficnpfoaaGreatDoor.Sc
set_option linter.all false
open Pm Ty S3 Go.RowKit
theorem zdN{t:Int}{p:List UInt8}(ht:1≤t∧t≤255)(hp:p.length=0∨zbn p≠0):(zbd t p).2=0:=by
 have he:zhQ p=false:=by
  unfold zhQ;rcases hp with hp|hp
  ·simp[hp]
  ·have:(byt p (p.length - 1)==0)=false:=by unfold zbn at hp;unfold byt;simp;intro h;apply hp;rw[List.getD,h]
   rw[this,Bool.and_false]
 have hs:zbq p=(esc p,0):=by unfold zbq;rw[he];simp
 unfold zbd;rw[if_neg om,hs,if_pos rfl]
theorem zsG{t:Int}{p:List UInt8}(h:(zbd t p).2=0):(zbd t p).1=[0,0,1,UInt8.ofNat t.toNat]++(zbq p).1∧1≤t∧t≤255∧(zbq p).2=0:=by
 unfold zbd at h ⊢;split at h
 ·cases h
 ·rename_i h1;split at h
  ·rename_i h2;rw[if_neg h1,if_pos h2];exact⟨rfl,om,om,h2⟩
  ·rename_i h2;exact absurd h h2
theorem zhJ(t:Int)(p:List UInt8):(zbd t p).1.length≤4+2 * p.length:=by
 have:=zhP p;unfold zbd;split
 ·simp
 ·split
  ·simp;omega
  ·simp
theorem zj1{t:Int}{p:List UInt8}(h:(zbd t p).2=0):4≤(zbd t p).1.length:=by rw[(zsG h).1];simp
def fv(e:List UInt8):Nat:=if e.length=0 then 1 else 4+e.length
theorem zzN(e:List UInt8):fv e≤4+e.length:=by unfold fv;split<;>omega
set_option maxRecDepth 100000 in
theorem zsE(t:Int)(p:List UInt8)(full:Bool)(H:za)(hl:p.length≤1000000)(h0:(zbd t p).2=0):
  CallOk Tryz.prog 92 [.agg [.int .i64 t,.slice (bs p) p.length full]] H (.tup [.msl (H.length+1) (fv (zbq p).1) 0 (zbd t p).1.length 1 true,.int .i64 0])
   (H++[⟨58,0,[.int .i64 t,.slice (bs p) p.length full]⟩,⟨5,fv (zbq p).1,bs (zbd t p).1⟩]):=by
 obtain⟨f1,f2,f3,f4⟩:=zsG h0;have eo:=fun K=>ziT p full K hl;have hlen:=zhP p;rw[f4]at eo;unfold bv at eo;rw[f1];generalize (zbq p).1=e at *;have d1:decide (t<1)=false:=decide_eq_false om;have d2:decide (255<t)=false:=decide_eq_false om;have te:qK e.length (bs e)=bs e:=qB (by rw[zd];omega);refine CallOk.go Tryz.func92 Tryz.ntmps92 Tryz.results92 ?_;refine PW.e ?_;refine PW.g (nq2 d1 d2) ?_;refine PW.us ?_;refine PW.k eo ?_;refine PW.e ?_;refine PW.us ?_;(repeat refine PW.seq ?_);refine PW.view (Vs.place 5) ?_;refine PW.eq rfl (show _=H++[⟨58,0,[.int .i64 t,.slice (bs p) p.length full]⟩,⟨5,0,[]⟩]from qF _ _ _) ?_;(repeat refine PW.seq ?_);refine PW.seqi [H.length+1] [(26,0)] rfl fun K hK=> ?_;by_cases he:e.length=0
 ·have hz:e=[]:=List.eq_nil_of_length_eq_zero he;subst hz;simp(disch:=omega) only[go_sem,↓reduceIte,reduceCtorEq,zd];refine hK _ _ ?_;clear hK K;refine PW.v (.tup [.msl (H.length+1) 1 0 4 1 true,.int .i64 0]) ?_;refine .inl ⟨rfl,?_⟩;simp[fv,bs];omega
 ·simp(disch:=omega) only[go_sem,↓reduceIte,reduceCtorEq,zd,he,te];refine hK _ _ ?_;clear hK K;refine PW.v (.tup [.msl (H.length+1) (e.length+1+1+1+1) 0 (4+e.length) 1 true,.int .i64 0]) ?_;refine .inl ⟨?_,?_⟩
  ·simp[fv,he];omega
  ·simp[fv,he,bs];omega
def fU(u:List UInt8):List UInt8:=(zbd 178 (u++[128])).1
theorem zwv(u:List UInt8):(zbd 178 (u++[128])).2=0:=zdN (by decide) (.inr (by
 unfold zbn;rw[qA];simp))
theorem zww(u:List UInt8):4≤(fU u).length∧(fU u).length≤2 * u.length+6:=by have h1:=zj1 (zwv u);have h2:=zhJ 178 (u++[128]);rw[qA,List.length_singleton]at h2;unfold fU;omega
abbrev BV:=List UInt8×Nat
def more(x:BV)(e:List UInt8):BV:=(x.1++e,(x.1++e).length)
def apU:BV→List (List UInt8)→BV×Int
 | x,[]=>(x,0)
 | x,u::r=>if 256<u.length then(x,5)else apU (more x (fU u)) r
def apS:BV→List (Int×List UInt8)→BV×Int
 | x,[]=>(x,0)
 | x,u::r=>if 1≤u.1∧u.1<5 then(if(zbd u.1 u.2).2=0 then apS (more x (zbd u.1 u.2).1) r else(x,(zbd u.1 u.2).2))else(x,1)
def apP(x:BV)(U:List (List UInt8))(us:List (Int×List UInt8)):BV×Int:=if(apU x U).2=0 then apS (apU x U).1 us else apU x U
def bB(x:BV):Blk:=⟨5,x.2,bs x.1⟩
def bS(id:Nat)(x:BV):PV:=.msl id x.2 0 x.1.length 1 true
def rvA(id:Nat)(r:BV×Int):PV:=if r.2=0 then .tup [bS id r.1,.int .i64 0]else .tup [.slice [] 0 true,.int .i64 r.2]
theorem zwN(t:Int)(H:za):CallOk Tryz.prog 98 [.int .i64 t] H (.bool (decide (1≤t)&&decide (t<5))) H:=by refine CallOk.go Tryz.func98 Tryz.ntmps98 Tryz.results98 ?_;(repeat'(first|refine PW.seq ?_|refine PW.skip ?_|refine PW.block ?_|((first|refine PW.rg rfl fun K hK=> ?_|refine PW.draw mix kr fun K hK=> ?_);simp(disch:=omega) only[go_sem,↓reduceIte,reduceCtorEq])|((first|refine zh ?_ ?_|refine zk ?_ ?_|refine And.intro ?_ ?_)<;>intro h<;>(try simp only[nqb]at h)<;>simp(disch:=omega) only[go_sem,↓reduceIte,reduceCtorEq,h])|(refine hK _ _ ?_;clear hK K)|(refine PW.cond (t:=_) rfl (fun h=> ?_) (fun h=> ?_)<;>(try(cases h;done))<;>(try simp only[nqb]at h))));all_goals((refine PW.ret ⟨_,rfl,?_⟩;first|refine .inl ⟨?_,rfl⟩|refine Fin.base (.id' ?_ (.bool _))|refine Fin.base (.id' ?_ (.int _ _)));(simp_all[slot,jG]<;>first|rfl|omega|(rw[qY];simp;done)|(rw[qY];simp;omega)))
def aH(H:za)(id:Nat)(x:BV)(C:List PV):za:=H.set id (bB x)++[⟨39,0,C⟩]
theorem aH_0(H:za)(id:Nat)(x:BV)(C:List PV)(K:za):(aH H id x C++K)[H.length]? =some ⟨39,0,C⟩:=by unfold aH;rw[qF,List.getElem?_append_right sp];simp
theorem zAd(H:za)(id:Nat)(x:BV)(C:List PV):(aH H id x C)[H.length]? =some ⟨39,0,C⟩:=by have:=aH_0 H id x C [];rwa[List.append_nil]at this
theorem zwA{H:za}{id:Nat}(x:BV)(C:List PV)(h:id<H.length):(aH H id x C)[id]? =some (bB x):=by unfold aH;rw[List.getElem?_append_left (by simpa using h)];simp[h]
theorem zik(H:za)(id:Nat)(x:BV)(C:List PV):(aH H id x C).length=H.length+1:=by simp[aH]
theorem aH_1(H:za)(id:Nat)(x:BV)(C:List PV)(b:Blk)(K:za):(aH H id x C++b::K)[H.length+1]? =some b:=by have:=hp0 (aH H id x C) K b;rwa[zik]at this
theorem zAe(H:za)(id:Nat)(x:BV)(C:List PV)(b X:Blk)(K:za):(aH H id x C++b::K).set (H.length+1) X=aH H id x C++X::K:=by have:=hs0 (aH H id x C) K b X;rwa[zik]at this
theorem zwz{H:za}{id:Nat}{x:BV}{p:Pi}{U:List (List UInt8)}{us:List (Int×List UInt8)}(h:HSc H):HSc (aH H id x (cdc p U us)):=zey (fun b hb y hy=>by
 simp only[qN,qL,or_false]at hb;subst hb;exact zf0 _ _ _ _ y hy) (HSc.set h (zn _ _))
set_option maxHeartbeats 8000000 in
set_option maxRecDepth 100000 in
theorem zyx(id:Nat)(x:BV)(p:Pi)(U:List (List UInt8))(us:List (Int×List UInt8))(H:za)(hid:H[id]? =some (bB x))(hx1:x.2≤x.1.length)(hx2:x.1.length≤1000000)(hU:U.length≤10000)(hu:us.length≤10000)(hup:∀ u∈us,u.2.length≤1000000):
  CallOk Tryz.prog 93 [bS id x,.agg (cdc p U us)] H (rvA id (apP x U us)) (H.set id (bB (apP x U us).1)):=by
 have hi:=(qI.1 hid).1;have hself:H.set id (bB x)=H:=zaO hid;have fin0:∀(y:BV) (e:Int) (K:za),e≠0→Fin H (rvA id (y,e)) (H.set id (bB y)) (.tup [.slice [] 0 true,.int .i64 e]) (aH H id y (cdc p U us)++K):=fun y e K he=>by
  unfold rvA aH;rw[if_neg he,qF];exact Fin.cut rfl sp (fun h=>HSc.set h (zn _ _)) (.id (.tup (zeG fun z hz=>by
   simp only[qN,qL,or_false]at hz;rcases hz with rfl|rfl
   ·exact zj (fun w hw=>by cases hw)
   ·exact .int _ _)))
 refine CallOk.go Tryz.func93 Tryz.ntmps93 Tryz.results93 ?_;have c1:=zfk p U us;have c2:=zfj p U us;have c6:(cdc p U us)[6]? =some (usr U):=rfl;have c7:=zta p U us;have ul:=zvW U;refine PW.g c1 ?_;refine PW.at [0,3] (F1:=[(0,bS id x),(3,.ptr H.length 0 0)]) (H1:=aH H id x (cdc p U us)) ?_ rfl (by unfold aH;rw[hself]);refine PW.f (fun K k=>by simp(disch:=omega) only[go_sem,↓reduceIte,reduceCtorEq,zAd,c2,c6,usr];exact k) ?_;refine PW.l ?_;suffices hl1:∀(k:Nat) (y:BV),k≤U.length→y.2≤y.1.length→y.1.length≤1000000+k * 1000→apU x U=apU y (U.drop k)→PL Tryz.prog _ _ [(0,bS id y),(3,.ptr H.length 0 0),(16,.slice (U.flatMap zh5) U.length false),(17,.int .i64 (U.length:Int)),(18,.int .i64 (k:Int))] (aH H id y (cdc p U us)) _ by exact PL.at [0,3,16,17,18] (hl1 0 x om hx1 om rfl) rfl rfl
 intro k y hk hy1 hy2 hf;induction hd:U.length - k using qZ generalizing k y with
 | _ d ih=>
  refine PL.round ?_;refine PW.e ?_;refine PW.c (fun h=> ?_) (fun h=> ?_)
  ·have hkU:k<U.length:=ot h;have ua:=zp7 U k hkU;have hnext:=fun z h1 h2 h3=>ih (U.length - (k+1)) om (k+1) z om h1 h2 h3 rfl;rw[qJ hkU,apU]at hf;have fb:=zww U[k];have fo:=zwv U[k];generalize U[k]=u at *;refine PW.skip ?_;refine PW.b ?_;refine PW.g (nq2 ua ul) ?_;by_cases h256:256<u.length
   ·rw[if_pos h256]at hf;have d1:decide ((256:Int)<(u.length:Int))=true:=decide_eq_true om;refine PW.g d1 ?_;refine PW.t ?_;refine PW.e ?_;refine PW.v (.tup [.slice [] 0 true,.int .i64 5]) ?_;have:apP x U us=(y,5):=by unfold apP;rw[hf,if_neg sp]
    rw[this];have:=fin0 y 5 [] (by decide);rwa[List.append_nil]at this
   ·rw[if_neg h256]at hf;have d1:decide ((256:Int)<(u.length:Int))=false:=decide_eq_false om;refine PW.g d1 ?_;refine PW.us ?_;have bl:=zd u;have tb:qK u.length (bs u)=bs u:=qB om;refine PW.f (fun K k=>by simp(disch:=omega) only[go_sem,↓reduceIte,reduceCtorEq,bl,tb,zik,jE,qA];exact k) ?_;have hbu:bs (u++[128])=bs u++[.int .u8 128]:=by rw[zF];rfl
    have hlu:(u++[128]).length=u.length+1:=by simp
    refine PW.keep [0,3,8,16,17,18] ?_;refine PW.view (Vs.trim (F1:=[(0,bS id y),(3,.ptr H.length 0 0),(8,.slice (bs (u++[128])) (u++[128]).length false),(16,.slice (U.flatMap zh5) U.length false),(17,.int .i64 (U.length:Int)),(18,.int .i64 (k:Int))]) (H1:=aH H id y (cdc p U us)) zwz (by show H.length≤_;rw[zik];omega) rfl ?_) ?_
    ·rw[zik];refine⟨.id (.msl om),.id (.ptr om),?_,.id (zj ?_),.id (.int _ _),.id (.int _ _),trivial⟩
     ·rw[hlu];refine Fz.mslC (e:=5) (xs:=bs (u++[128])) (qC _) ?_ (by rw[zd,hlu,qO]) (FzC.refl (zn _ _));rw[hbu];have:=hp0 (aH H id y (cdc p U us)) [] ⟨5,u.length+1,bs u++[.int .u8 128]⟩;rwa[zik]at this
     ·intro z hz;obtain⟨w,_,hz⟩:=List.mem_flatMap.1 hz;simp only[zh5,qN,qL,or_false]at hz;rw[hz];exact zj (zn _ _)
    have fm:=fun K=>ziO 178 (u++[128]) false K om;rw[fo]at fm;unfold bv at fm;change ∀ K,CallOk _ _ _ K (.tup [.slice (bs (fU u)) (fU u).length false,_]) K at fm;generalize u++[128]=u' at *;obtain⟨e,he⟩:∃ e,e=fU u:=⟨_,rfl⟩;rw[←he]at fm hf fb;have hnext:=hnext (more y e) (qC _) (by simp only[more,qA];rw[jJ];omega) hf;have hid':=zwA y (cdc p U us) hi;have hs':∀ z,(aH H id y (cdc p U us)).set id z=H.set id z++[⟨39,0,cdc p U us⟩]:=fun z=>by unfold aH;rw[jH _ _ (by simpa using hi),List.set_set]
    have te:qK e.length (bs e)=bs e:=qB (by rw[zd];omega);have be:=zd e;have by':=zd y.1;refine PW.k fm ?_;refine PW.e ?_;refine PW.us ?_;refine PW.f (fun K k=>by simp(disch:=omega) only[go_sem,↓reduceIte,reduceCtorEq,bS,hid',bB,te,be,by',hs',qA];exact k) ?_;refine PW.e ?_;refine PL.at [0,3,16,17,18] hnext ?_ ?_
    ·simp only[bS,more,qA];rfl
    ·simp only[aH,bB,more,qA,zF]
  ·have hkU:k=U.length:=ofF h;refine PW.exit ?_;rw[hkU,qP,apU]at hf;have hy3:y.1.length≤11000000:=by rw[hkU]at hy2;omega
   have hap:apP x U us=apS y us:=by unfold apP;rw[hf,if_pos rfl]
   rw[hap];clear ih hid hself hf;have b2:=zi4 us;refine PW.f (fun K k=>by simp(disch:=omega) only[go_sem,↓reduceIte,reduceCtorEq,zAd,c2,c7];exact k) ?_;refine PW.l ?_;suffices hl2:∀(j:Nat) (z:BV),j≤us.length→z.2≤z.1.length→z.1.length≤11000000+j * 2000004→apS y us=apS z (us.drop j)→PL Tryz.prog _ _ [(0,bS id z),(47,.slice (uq us) us.length false),(48,.int .i64 (us.length:Int)),(49,.int .i64 (j:Int))] (aH H id z (cdc p U us)) _ by exact PL.at [0,47,48,49] (hl2 0 y om hy1 om rfl) rfl rfl
   clear hy1 hy3 hy2 hap;intro j z hj hz1 hz2 hg;induction hd2:us.length - j using qZ generalizing j z with
   | _ d2 ih2=>
    refine PL.round ?_;refine PW.e ?_;refine PW.c (fun h=> ?_) (fun h=> ?_)
    ·have hju:j<us.length:=ot h;have u2:=zp8 us j hju;have hl6:=hup us[j] (qM hju);have hnext:=fun z h1 h2 h3=>ih2 (us.length - (j+1)) om (j+1) z om h1 h2 h3 rfl;rw[qJ hju,apS]at hg;generalize us[j]=u at *;unfold uq1 at u2;refine PW.skip ?_;refine PW.b ?_;refine PW.f (fun K k=>by simp(disch:=omega) only[go_sem,↓reduceIte,reduceCtorEq,u2,b2,zik,aH_1,zAe];exact k) ?_;have so:=fun K=>zwN u.1 K;have hp0':=hp0 (aH H id z (cdc p U us)) [] ⟨58,0,[.int .i64 u.1,.slice (bs u.2) u.2.length false]⟩;rw[zik]at hp0';by_cases ht:1≤u.1∧u.1<5;rotate_left
     ·rw[if_neg ht]at hg;have hsb:(decide (1≤u.1)&&decide (u.1<5))=false:=by
       by_cases h1:1≤u.1
       ·have h5:¬ u.1<5:=fun h=>ht ⟨h1,h⟩;simp[h5]
       ·simp[h1]
      rw[hsb]at so;refine PW.f (fun K k=>by simp(disch:=omega) only[go_sem,↓reduceIte,reduceCtorEq,hp0'];refine VCx.call (so _) rfl ?_;simp(disch:=omega) only[go_sem,↓reduceIte,reduceCtorEq];exact k) ?_;refine PW.t ?_;refine PW.e ?_;refine PW.v (.tup [.slice [] 0 true,.int .i64 1]) ?_;rw[hg];exact fin0 z 1 _ (by decide)
     rw[if_pos ht]at hg;have hsb:(decide (1≤u.1)&&decide (u.1<5))=true:=by simp[ht.1,ht.2]
     rw[hsb]at so;refine PW.f (fun K k=>by simp(disch:=omega) only[go_sem,↓reduceIte,reduceCtorEq,hp0'];refine VCx.call (so _) rfl ?_;simp(disch:=omega) only[go_sem,↓reduceIte,reduceCtorEq];exact k) ?_;refine PW.us ?_;have fm:=fun K=>ziO u.1 u.2 false K hl6;have fb:=zhJ u.1 u.2;unfold bv at fm;by_cases he0:(zbd u.1 u.2).2=0;rotate_left
     ·rw[if_neg he0]at hg;have hb0:((zbd u.1 u.2).2 !=0)=true:=by simp[he0]
      generalize (zbd u.1 u.2).2=ee at *;refine PW.f (fun K k=>by simp(disch:=omega) only[go_sem,↓reduceIte,reduceCtorEq,hp0'];refine VCx.call (fm _) rfl ?_;simp(disch:=omega) only[go_sem,↓reduceIte,reduceCtorEq];exact k) ?_;refine PW.g hb0 ?_;refine PW.t ?_;refine PW.e ?_;refine PW.v (.tup [.slice [] 0 true,.int .i64 ee]) ?_;rw[hg];exact fin0 z ee _ he0
     rw[if_pos he0]at hg;rw[he0]at fm;have fp:=zj1 he0;obtain⟨e,he⟩:∃ e,e=(zbd u.1 u.2).1:=⟨_,rfl⟩;rw[←he]at fm hg fb fp;have hnext:=hnext (more z e) (qC _) (by simp only[more,qA];rw[jJ];omega) hg;have hz3:z.1.length≤30000000000:=om;have te:qK e.length (bs e)=bs e:=qB (by rw[zd];omega);have be:=zd e;have by':=zd z.1;refine PW.f (fun K k=>by simp(disch:=omega) only[go_sem,↓reduceIte,reduceCtorEq,hp0'];refine VCx.call (fm _) rfl ?_;simp(disch:=omega) only[go_sem,↓reduceIte,reduceCtorEq];exact k) ?_;refine PW.e ?_;refine PW.us ?_;refine PW.keep [0,13,47,48,49] ?_;refine PW.view (Vs.trim (F1:=[(0,bS id z),(13,.slice (bs e) e.length false),(47,.slice (uq us) us.length false),(48,.int .i64 (us.length:Int)),(49,.int .i64 (j:Int))]) (H1:=aH H id z (cdc p U us)) zwz (by show H.length≤_;rw[zik];omega) rfl ?_) ?_
     ·rw[zik];exact⟨.id (.msl om),.id (zj (zn _ _)),.id (zj (znp _ _)),.id (.int _ _),.id (.int _ _),trivial⟩
     have hid':=zwA z (cdc p U us) hi;have hs':∀ w,(aH H id z (cdc p U us)).set id w=H.set id w++[⟨39,0,cdc p U us⟩]:=fun w=>by unfold aH;rw[jH _ _ (by simpa using hi),List.set_set]
     refine PW.f (fun K k=>by simp(disch:=omega) only[go_sem,↓reduceIte,reduceCtorEq,bS,hid',bB,te,be,by',hs',qA];exact k) ?_;refine PW.e ?_;refine PL.at [0,47,48,49] hnext ?_ ?_
     ·simp only[bS,more,qA];rfl
     ·simp only[aH,bB,more,qA,zF]
    ·have hju:j=us.length:=ofF h;refine PW.exit ?_;rw[hju,qP,apS]at hg;rw[hg];refine PW.e ?_;refine PW.v (.tup [bS id z,.int .i64 0]) ?_;unfold rvA aH;rw[if_pos rfl];exact Fin.cut rfl sp (fun h=>HSc.set h (zn _ _)) (.id (.tup (zeG fun w hw=>by
      simp only[qN,qL,or_false]at hw;rcases hw with rfl|rfl
      ·exact .msl (by simpa using hi)
      ·exact .int _ _)))
def hdU(x:It):Int×List UInt8×Int:=if x.k=1 then zkY x.s else if x.k=2 then zkZ x.gc x.gb x.gt else if x.k=3 then zjp x.p else(183,[],0)
def okI(x:It):Bool:=decide (1≤x.k)&&(decide (x.k≤4)&&(decide (0≤x.pad)&&decide (x.pad≤1048576)))
def hdB(x:It):List UInt8:=(zbd (hdU x).1 (hdU x).2.1).1
def hdV(x:It):BV:=(hdB x,fv (zbq (hdU x).2.1).1)
def itB(x:It):List UInt8×Int:=if okI x then(if(hdU x).2.2=0 then(if x.k=3 then(if(apP (hdV x) x.U x.us).2=0 then((apP (hdV x) x.U x.us).1.1,0)else([],(apP (hdV x) x.U x.us).2))else(hdB x,0))else([],(hdU x).2.2))else([],1)
def zq4(r:List UInt8×Int):PV:=.tup [.slice (bs r.1) r.1.length false,.int .i64 r.2]
theorem zhu(L:List Bool):zbn (pk (L++[true]))≠0:=(zmD L).2.1
theorem zjU{x:It}(h:(hdU x).2.2=0):(zbd (hdU x).1 (hdU x).2.1).2=0∧(hdU x).2.1.length≤200:=by
 unfold hdU at h ⊢;split
 ·rename_i h1;rw[if_pos h1]at h;unfold zkY at h ⊢;split
  ·refine⟨zdN ⟨by simp,by simp⟩ (.inr (zhu _)),?_⟩;show(pk (zkV x.s++[true])).length≤_;rw[zaj];have h1:=zgv x.s.ia dIn;have h2:=zgv x.s.ie dIt;simp[zkV,zN];omega
  ·rename_i h2;rw[if_neg h2]at h;cases h
 ·split
  ·rename_i h1 h2;rw[if_neg h1,if_pos h2]at h;unfold zkZ at h ⊢;split
   ·refine⟨zdN ⟨by simp,by simp⟩ (.inr (zhu _)),?_⟩;show(pk (zdp x.gc x.gb x.gt++[true])).length≤_;rw[zaj];simp[zdp,zN]
   ·rename_i h3;rw[if_neg h3]at h;cases h
  ·split
   ·rename_i h1 h2 h3;rw[if_neg h1,if_neg h2,if_pos h3]at h;unfold zjp at h ⊢;split
    ·refine⟨zdN ⟨by simp,by simp⟩ (.inr (zhu _)),?_⟩;show(pk (ziL x.p++[true])).length≤_;rw[zaj];simp[ziL,zN]
    ·rename_i h4;rw[if_neg h4]at h;cases h
   ·exact⟨zdN (by decide) (.inl rfl),by simp⟩
structure Lt(x:It):Prop where
 ok:ItOk x
 U:x.U.length≤10000
 us:x.us.length≤10000
 up:∀ u∈x.us,u.2.length≤1000000
set_option maxHeartbeats 8000000 in
set_option maxRecDepth 100000 in
theorem zxO(x:It)(H:za)(hx:Lt x):CallOk Tryz.prog 44 [.agg (itc x)] H (zq4 (itB x)) H:=by
 have hs:=hx.ok.s;have i1:=zlB x;have i2:=ze7 x hs;have i3:=zdI x;have i4:=zjQ x hs;have i5:=zwl x hs;have i6:=zzH x hs;have i7:=zoe x hs;have i8:=zwm x hs;generalize hr:itB x=r;unfold itB at hr;refine CallOk.go Tryz.func44 Tryz.ntmps44 Tryz.results44 ?_;refine PW.g i1 ?_;cases hok:okI x with
 | false=>
  rw[hok,if_neg (by decide)]at hr;suffices hrest:PW Tryz.prog _ _ [(24,.bool true)] (H++[⟨43,0,itc x⟩]) _ by unfold okI at hok;(repeat refine PW.seq ?_);refine PW.rg rfl fun K hK=> ?_;simp(disch:=omega) only[go_sem,↓reduceIte,reduceCtorEq,i3,i4];(repeat'((first|refine zh ?_ ?_|refine zk ?_ ?_|refine zU ?_ ?_|refine VOh_cond ?_ ?_|refine zT ?_ ?_|refine And.intro ?_ ?_)<;>intro h<;>(try simp only[nqb]at h)<;>simp(disch:=omega) only[go_sem,↓reduceIte,reduceCtorEq,i3,i4,h]));all_goals(refine hK _ _ ?_;clear hK K;refine PW.at [24] hrest ?_ rfl;simp[kp,slot,jG];try(simp only[Bool.and_eq_false_iff,decide_eq_false_iff_not]at hok;omega))
  refine PW.t ?_;refine PW.e ?_;refine PW.v (.tup [.slice [] 0 true,.int .i64 1]) ?_;rw[←hr];exact Fin.base (Fz.tupC ⟨Fz.sliceC trivial (fun e=>by cases e),.id (.int _ _),trivial⟩)
 | true=>
  rw[hok,if_pos rfl]at hr;unfold okI at hok;simp only[qD,decide_eq_true_eq]at hok;obtain⟨k1,k2,k3,k4⟩:=hok;have d1:decide (x.k<1)=false:=decide_eq_false om;have d2:decide (4<x.k)=false:=decide_eq_false om;have d3:decide (x.pad<0)=false:=decide_eq_false om;have d4:decide (1048576<x.pad)=false:=decide_eq_false om;refine PW.g (nq2 i3 (nq2 i4 (nq2 d1 (nq2 d2 (nq2 d3 d4))))) ?_;refine PW.us ?_;refine PW.e ?_;refine PW.e ?_;refine PW.g i3 ?_;suffices hrest:∀ f,PW Tryz.prog _ _ [(1,.ptr H.length 0 0),(4,.ptr (H.length+1) 0 0),(5,.int .i64 (hdU x).2.2)] (H++[⟨43,0,itc x⟩,⟨58,0,[.int .i64 (hdU x).1,.slice (bs (hdU x).2.1) (hdU x).2.1.length f]⟩]) _ by
   have hk:x.k=1∨x.k=2∨x.k=3∨x.k=4:=om;rcases hk with hk|hk|hk|hk
   ·have hu:hdU x=zkY x.s:=by unfold hdU;rw[if_pos hk]
    rw[hu]at hrest;have po:=fun K=>zul x.s K hs;have e1:(x.k==1)=true:=by simp[hk]
    refine PW.b ?_;refine PW.g e1 ?_;refine PW.t ?_;refine PW.f (fun K k=>by simp(disch:=omega) only[go_sem,↓reduceIte,reduceCtorEq,i2,i5];refine VCx.call (po _) rfl ?_;simp(disch:=omega) only[go_sem,↓reduceIte,reduceCtorEq,uv];exact k) ?_;exact PW.at [1,4,5] (hrest false) rfl rfl
   ·have hu:hdU x=zkZ x.gc x.gb x.gt:=by unfold hdU;rw[if_neg om,if_pos hk]
    rw[hu]at hrest;have po:=fun K=>zum x.gc x.gb x.gt K hx.ok.gt;have e1:(x.k==1)=false:=by simp[hk]
    have e2:(x.k==2)=true:=by simp[hk]
    refine PW.b ?_;refine PW.g e1 ?_;refine PW.u ?_;refine PW.g e2 ?_;refine PW.t ?_;refine PW.f (fun K k=>by simp(disch:=omega) only[go_sem,↓reduceIte,reduceCtorEq,i2,i6];refine VCx.call (po _) rfl ?_;simp(disch:=omega) only[go_sem,↓reduceIte,reduceCtorEq,uv];exact k) ?_;exact PW.at [1,4,5] (hrest false) rfl rfl
   ·have hu:hdU x=zjp x.p:=by unfold hdU;rw[if_neg om,if_neg om,if_pos hk]
    rw[hu]at hrest;have po:=fun K=>zun x.p K;have e1:(x.k==1)=false:=by simp[hk]
    have e2:(x.k==2)=false:=by simp[hk]
    have e3:(x.k==3)=true:=by simp[hk]
    refine PW.b ?_;refine PW.g e1 ?_;refine PW.u ?_;refine PW.g e2 ?_;refine PW.u ?_;refine PW.g e3 ?_;refine PW.t ?_;refine PW.f (fun K k=>by simp(disch:=omega) only[go_sem,↓reduceIte,reduceCtorEq,i2,i8];refine VCx.call (po _) rfl ?_;simp(disch:=omega) only[go_sem,↓reduceIte,reduceCtorEq,uv];exact k) ?_;exact PW.at [1,4,5] (hrest false) rfl rfl
   ·have hu:hdU x=(183,[],0):=by unfold hdU;rw[if_neg om,if_neg om,if_neg om]
    rw[hu]at hrest;have e1:(x.k==1)=false:=by simp[hk]
    have e2:(x.k==2)=false:=by simp[hk]
    have e3:(x.k==3)=false:=by simp[hk]
    have e4:(x.k==4)=true:=by simp[hk]
    refine PW.b ?_;refine PW.g e1 ?_;refine PW.u ?_;refine PW.g e2 ?_;refine PW.u ?_;refine PW.g e3 ?_;refine PW.u ?_;refine PW.g e4 ?_;refine PW.t ?_;refine PW.e ?_;exact PW.at [1,4,5] (hrest true) rfl rfl
  intro f;by_cases he:(hdU x).2.2=0;rotate_left
  ·rw[if_neg he]at hr;have be:((hdU x).2.2 !=0)=true:=by simp[he]
   refine PW.g be ?_;refine PW.t ?_;refine PW.e ?_;refine PW.v (.tup [.slice [] 0 true,.int .i64 (hdU x).2.2]) ?_;rw[←hr];exact Fin.base (Fz.tupC ⟨Fz.sliceC trivial (fun e=>by cases e),.id (.int _ _),trivial⟩)
  rw[if_pos he]at hr;obtain⟨hf,hl⟩:=zjU he;have be:((hdU x).2.2 !=0)=false:=by simp[he]
  have fm:=fun K=>zsE (hdU x).1 (hdU x).2.1 f K om hf;have hbl:(hdB x).length≤1000:=by have:=zhJ (hdU x).1 (hdU x).2.1;unfold hdB;omega
  have hvl:(hdV x).2≤(hdV x).1.length:=by unfold hdV hdB;rw[(zsG hf).1];have:=zzN (zbq (hdU x).2.1).1;simp;omega
  refine PW.g be ?_;refine PW.us ?_;refine PW.k fm ?_;refine PW.e ?_;refine PW.us ?_;have hf1:(zbd (hdU x).1 (hdU x).2.1).1=hdB x:=rfl;rw[hf1];obtain⟨M,hM⟩:∃ M,M=H++[⟨43,0,itc x⟩,⟨58,0,[.int .i64 (hdU x).1,.slice (bs (hdU x).2.1) (hdU x).2.1.length f]⟩,⟨58,0,[.int .i64 (hdU x).1,.slice (bs (hdU x).2.1) (hdU x).2.1.length f]⟩,bB (hdV x)]:=⟨_,rfl⟩;have m0:M[H.length]? =some ⟨43,0,itc x⟩:=by rw[hM];exact hp0 _ _ _
  have m3:M[H.length+3]? =some (bB (hdV x)):=by rw[hM];exact hp3 _ _ _ _ _ _
  refine PW.at [1,6] (F1:=[(1,.ptr H.length 0 0),(6,bS (H.length+3) (hdV x))]) (H1:=M) ?_ rfl (by rw[hM];rfl);by_cases hk:x.k=3
  ·rw[if_pos hk]at hr;have e3:(x.k==3)=true:=by simp[hk]
   have ap:=zyx (H.length+3) (hdV x) x.p x.U x.us M m3 hvl (by show(hdB x).length≤_;omega) hx.U hx.us hx.up;have hMs:∀ y,M.set (H.length+3) (bB y)=H++[⟨43,0,itc x⟩,⟨58,0,[.int .i64 (hdU x).1,.slice (bs (hdU x).2.1) (hdU x).2.1.length f]⟩,⟨58,0,[.int .i64 (hdU x).1,.slice (bs (hdU x).2.1) (hdU x).2.1.length f]⟩,bB y]:=fun y=>by rw[hM,aps];rfl
   rw[hMs]at ap;refine PW.g (nq2 m0 (nq2 i3 e3)) ?_;refine PW.t ?_;by_cases h0:(apP (hdV x) x.U x.us).2=0
   ·rw[if_pos h0]at hr;unfold rvA at ap;rw[if_pos h0]at ap;generalize (apP (hdV x) x.U x.us).1=y at *;refine PW.f (fun K k=>by simp(disch:=omega) only[go_sem,↓reduceIte,reduceCtorEq,m0,i2,i7];refine VCx.call (ap) rfl ?_;simp(disch:=omega) only[go_sem,↓reduceIte,reduceCtorEq];exact k) ?_;refine PW.v (.tup [bS (H.length+3) y,.int .i64 0]) ?_;rw[←hr];refine Fin.base (Fz.tupC ⟨?_,.id (.int _ _),trivial⟩);exact Fz.mslC (e:=5) (xs:=bs y.1) om (hp3 _ _ _ _ _ _) (by rw[zd,qO]) (FzC.refl (zn _ _))
   ·rw[if_neg h0]at hr;unfold rvA at ap;rw[if_neg h0]at ap;generalize (apP (hdV x) x.U x.us).2=ee at *;refine PW.f (fun K k=>by simp(disch:=omega) only[go_sem,↓reduceIte,reduceCtorEq,m0,i2,i7];refine VCx.call (ap) rfl ?_;simp(disch:=omega) only[go_sem,↓reduceIte,reduceCtorEq];exact k) ?_;refine PW.v (.tup [.slice [] 0 true,.int .i64 ee]) ?_;rw[←hr];exact Fin.base (Fz.tupC ⟨Fz.sliceC trivial (fun e=>by cases e),.id (.int _ _),trivial⟩)
  ·rw[if_neg hk]at hr;have e3:(x.k==3)=false:=by simp[hk]
   refine PW.g (nq2 m0 (nq2 i3 e3)) ?_;refine PW.us ?_;refine PW.e ?_;refine PW.v (.tup [bS (H.length+3) (hdV x),.int .i64 0]) ?_;rw[←hr,hM];refine Fin.base (Fz.tupC ⟨?_,.id (.int _ _),trivial⟩);exact Fz.mslC (e:=5) (xs:=bs (hdB x)) om (hp3 _ _ _ _ _ _) (by rw[zd,qO];rfl) (FzC.refl (zn _ _))
abbrev Un:=Int×List UInt8
theorem zoO:∀(U:List (List UInt8)) (y:BV),(apU y U).1.1.length≤y.1.length+U.length * 600
 | [],y=>by simp[apU]
 | u::r,y=>by
  unfold apU;split
  ·simp
  ·have h:=zoO r (more y (fU u));have hb:=zww u;simp only[more,qA,List.length_cons]at h ⊢;omega
theorem zoP:∀(us:List Un) (y:BV),(∀ u∈us,u.2.length≤1000000)→(apS y us).1.1.length≤y.1.length+us.length * 2000004
 | [],y,_=>by simp[apS]
 | u::r,y,hp=>by
  unfold apS;split
  ·split
   ·have h:=zoP r (more y (zbd u.1 u.2).1) (fun w hw=>hp w (List.mem_cons_of_mem _ hw));have hb:=zhJ u.1 u.2;have hu:=hp u (List.mem_cons_self ..);simp only[more,qA,List.length_cons]at h ⊢;omega
   ·simp
  ·simp
theorem zu1{x:It}(hx:Lt x):(itB x).1.length≤30000000000:=by
 have hU:=hx.U;have hus:=hx.us;unfold itB;split
 ·split
  ·rename_i he;have hb:(hdB x).length≤1000:=by obtain⟨hf,hl⟩:=zjU he;have:=zhJ (hdU x).1 (hdU x).2.1;unfold hdB;omega
   split
   ·split
    ·have h1:=zoO x.U (hdV x);have h2:=zoP x.us (apU (hdV x) x.U).1 hx.up;have hv:(hdV x).1.length≤1000:=hb;unfold apP;split
     ·show(apS (apU (hdV x) x.U).1 x.us).1.1.length≤_;omega
     ·show(apU (hdV x) x.U).1.1.length≤_;omega
    ·simp
   ·show(hdB x).length≤_;omega
  ·simp
 ·simp
theorem zof{x:It}(h:(itB x).2=0):0≤x.pad∧x.pad≤1048576∧4≤(itB x).1.length:=by
 unfold itB at h ⊢;cases hok:okI x with
 | false=>rw[hok,if_neg (by decide)]at h;cases h
 | true=>
  rw[hok,if_pos rfl]at h;unfold okI at hok;simp only[qD,decide_eq_true_eq]at hok;refine⟨hok.2.2.1,hok.2.2.2,?_⟩;rw[if_pos rfl];by_cases he:(hdU x).2.2=0;rotate_left
  ·rw[if_neg he]at h;exact absurd h he
  rw[if_pos he]at h ⊢;have hb:4≤(hdB x).length:=zj1 (zjU he).1;by_cases hk:x.k=3;rotate_left
  ·rw[if_neg hk];exact hb
  rw[if_pos hk]at h ⊢;by_cases h0:(apP (hdV x) x.U x.us).2=0;rotate_left
  ·rw[if_neg h0]at h;exact absurd h h0
  rw[if_pos h0];have mU:∀(U:List (List UInt8)) (y:BV),y.1.length≤(apU y U).1.1.length:=by
   intro U;induction U with
   | nil=>intro y;exact qC _
   | cons u r ih=>
    intro y;unfold apU;split
    ·exact qC _
    ·refine jF ?_ (ih _);simp[more]
  have mS:∀(us:List Un) (y:BV),y.1.length≤(apS y us).1.1.length:=by
   intro us;induction us with
   | nil=>intro y;exact qC _
   | cons u r ih=>
    intro y;unfold apS;split
    ·split
     ·refine jF ?_ (ih _);simp[more]
     ·exact qC _
    ·exact qC _
  have h1:=mU x.U (hdV x);have h2:=mS x.us (apU (hdV x) x.U).1;have hv:(hdV x).1.length=(hdB x).length:=rfl;unfold apP;split
  ·show 4≤(apS (apU (hdV x) x.U).1 x.us).1.1.length;omega
  ·show 4≤(apU (hdV x) x.U).1.1.length;omega
def pce(x:It):List UInt8:=(itB x).1++qH x.pad.toNat 0
def byS(l:List It):List UInt8:=l.flatMap pce
def erL:List It→Int
 | []=>0
 | x::r=>if(itB x).2=0 then erL r else(itB x).2
def piL:List It→Nat
 | []=>0
 | x::r=>(if x.k=3 then 1 else 0)+piL r
def zsH(l:List It):List UInt8×Int:=if erL l=0 then(if 256<piL l∨1048576<(byS l).length then([],5)else(byS l,0))else([],erL l)
theorem ztd(l:List It)(x:It):byS (l++[x])=byS l++pce x:=by simp[byS]
theorem zlg:∀(l:List It) (x:It),piL (l++[x])=piL l+(if x.k=3 then 1 else 0)
 | [],x=>by simp[piL]
 | y::r,x=>by rw[List.cons_append,piL,piL,zlg r x];omega
theorem ztc{l:List It}{k:Nat}(h:k<l.length):byS (l.take (k+1))=byS (l.take k)++pce l[k]:=by rw[qV h,ztd]
theorem zrL{l:List It}{k:Nat}(h:k<l.length):piL (l.take (k+1))=piL (l.take k)+(if l[k].k=3 then 1 else 0):=by rw[qV h,zlg]
theorem zue(n:Nat):zaZ n [.int .u8 0]=bs (qH n 0):=by
 rw[ztf];induction n with
 | zero=>rfl
 | succ n ih=>rw[jK,←ih];simp[zaZ,jK]
structure Lts(l:List It):Prop where
 n:l.length≤1000000
 i:∀ x∈l,Lt x
theorem Lts.s{l:List It}(h:Lts l):∀ x∈l,SqOk x.s:=fun x hx=>(h.i x hx).ok.s
theorem zuG{x:It}(hx:Lt x)(h:(itB x).2=0):(pce x).length=(itB x).1.length+x.pad.toNat∧(pce x).length≤30001048576:=by have h1:=zu1 hx;have h2:=zof h;unfold pce;rw[qA,List.length_replicate];omega
set_option maxHeartbeats 8000000 in
set_option maxRecDepth 100000 in
theorem zvb(l:List It)(f:Bool)(H:za)(hl:Lts l):CallOk Tryz.prog 19 [.slice (itL l) l.length f] H (zq4 (zsH l)) H:=by
 have hn:=hl.n;have ln:=zbl l hl.s;have fe:∀(e:Int) (K:za),Fin H (zq4 ([],e)) H (.tup [.slice [] 0 true,.int .i64 e]) (H++K):=fun e K=>Fin.base (Fz.tupC ⟨Fz.sliceC trivial (fun e=>by cases e),.id (.int _ _),trivial⟩);generalize hr:zsH l=r;unfold zsH at hr;refine CallOk.go Tryz.func19 Tryz.ntmps19 Tryz.results19 ?_;refine PW.e ?_;refine PW.e ?_;refine PW.view (Vs.ghost 4 5 1 rfl) ?_;refine PW.e ?_;refine PW.e ?_;refine PW.l ?_;suffices hloop:∀(k:Nat) (O:List UInt8),k≤l.length→erL l=erL (l.drop k)→(byS (l.take k)).length≤k * 30001048576→O.length≤1048576→((byS (l.take k)).length≤1048576→O=byS (l.take k))→piL (l.take k)≤k→
   PL Tryz.prog _ _ [(0,.slice (itL l) l.length f),(4,.msl H.length O.length 0 O.length 1 true),(5,.int .i64 (piL (l.take k):Int)),(6,.int .i64 ((byS (l.take k)).length:Int)),(11,.int .i64 (l.length:Int)),(12,.int .i64 (k:Int))] (H++[⟨5,O.length,bs O⟩]) _ by
  exact PL.at [0,4,5,6,11,12] (hloop 0 [] om rfl (by simp[byS]) sp (fun _=>by simp[byS]) (by simp[piL])) rfl rfl
 intro k O hk he hS hO hOb hP;induction hd:l.length - k using qZ generalizing k O with
 | _ d ih=>
  have bO:=zd O;refine PL.round ?_;refine PW.e ?_;refine PW.c (fun h=> ?_) (fun h=> ?_)
  ·have hkl:k<l.length:=ot h;have ia:=zmR l hl.s k hkl;have i0:=zaK l hl.s k 0 hkl om;have ip:=zaK l hl.s k 147 hkl om;have hx:=hl.i l[k] (qM hkl);rw[zdI,qR]at i0;rw[zjQ _ hx.ok.s]at ip;have hbt:=ztc hkl;have hpt:=zrL hkl;rw[qJ hkl,erL]at he;have hnext:=fun O h1 h2 h3 h4 h5=>ih (l.length - (k+1)) om (k+1) O om h1 h2 h3 h4 h5 rfl;generalize l[k]=x at *;have ib:=fun K=>zxO x K hx;unfold zq4 at ib;refine PW.skip ?_;refine PW.b ?_;refine PW.e ?_;by_cases h0:(itB x).2=0;rotate_left
   ·rw[if_neg h0]at he;rw[if_neg (by rw[he];exact h0),he]at hr;have b0:((itB x).2 !=0)=true:=by simp[h0]
    refine PW.m (nq2 ia ln) ib ?_;refine PW.g b0 ?_;refine PW.t ?_;refine PW.e ?_;refine PW.v (.tup [.slice [] 0 true,.int .i64 (itB x).2]) ?_;rw[←hr];exact fe _ _
   rw[if_pos h0]at he;have b0:((itB x).2 !=0)=false:=by simp[h0]
   obtain⟨pl1,pl2⟩:=zuG hx h0;obtain⟨pp1,pp2,pp3⟩:=zof h0;have hbl:(byS (l.take (k+1))).length=(byS (l.take k)).length+(pce x).length:=by rw[hbt,qA]
   have hpce:pce x=(itB x).1++qH x.pad.toNat 0:=rfl;refine PW.m (nq2 ia ln) ib ?_;refine PW.g b0 ?_;refine PW.us ?_;obtain⟨N,hN⟩:∃ N:Nat,x.pad=(N:Int):=⟨x.pad.toNat,om⟩;rw[hN]at ip hpce pl1 pp1 pp2;rw[qG]at hpce pl1;generalize hbb:(itB x).1=b at *;generalize hSS:(byS (l.take k)).length=S at *;generalize hPP:piL (l.take k)=P at *;refine PW.to [0,4,5,6,8,7,11,12] [(0,.slice (itL l) l.length f),(4,.msl H.length O.length 0 O.length 1 true),(5,.int .i64 (piL (l.take (k+1)):Int)),(6,.int .i64 (S:Int)),(8,.slice (bs b) b.length false),(7,.int .i64 (k:Int)),(11,.int .i64 (l.length:Int)),(12,.int .i64 (k:Int))] (H++[⟨5,O.length,bs O⟩]) ?_ ?_
   ·by_cases hk3:x.k=3
    ·have e3:(x.k==3)=true:=by simp[hk3]
     rw[if_pos hk3]at hpt;refine PW.g (nq2 ln (nq2 i0 e3)) ?_;refine PW.t ?_;refine PW.e ?_;refine⟨?_,rfl⟩;rw[hpt];rfl
    ·have e3:(x.k==3)=false:=by simp[hk3]
     rw[if_neg hk3]at hpt;refine PW.g (nq2 ln (nq2 i0 e3)) ?_;refine PW.u ?_;refine PW.skip ⟨?_,rfl⟩;rw[hpt];rfl
   ·refine PW.g (nq2 ln ip) ?_;have hS2:(byS (l.take (k+1))).length=S+(b.length+N):=by rw[hbl,pl1]
    have eS:(S:Int)+((b.length:Int)+(N:Int))=((byS (l.take (k+1))).length:Int):=by rw[hS2];omega
    have hS3:(byS (l.take (k+1))).length≤(k+1) * 30001048576:=by rw[hS2,jJ];omega
    have hP2:piL (l.take (k+1))≤k+1:=by rw[hpt];split<;>omega
    rw[eS];generalize (byS (l.take (k+1))).length=S' at *;refine PW.e ?_;by_cases hM:S'≤1048576
    ·have dM:decide ((S':Int)≤1048576)=true:=decide_eq_true om;have hOe:=hOb om;have hOl:O.length=S:=by rw[hOe];exact hSS
     refine PW.c (fun h=> ?_) (fun h=> ?_);rotate_left
     ·rw[dM]at h;cases h
     have be:=zd b;have te:qK b.length (bs b)=bs b:=qB om;refine PW.f (fun K k=>by simp(disch:=omega) only[go_sem,↓reduceIte,reduceCtorEq,te,be,bO,qA];exact k) ?_;have hO2:O++pce x=byS (l.take (k+1)):=by rw[hbt,hOe]
     have hO3:(O++pce x).length=S':=by rw[qA,pl1];omega
     have hcel:bs (O++pce x)=bs O++(bs b++zaZ N [.int .u8 0]):=by rw[hpce,zF,zF,zue]
     have hfin:=hnext (O++pce x) he hS3 om (fun _=>hO2) hP2;rw[hO3,hcel]at hfin;have eO:O.length+(b.length+N)=S':=om;by_cases hN0:N=0
     ·subst hN0;refine PW.f (fun K k=>by simp(disch:=omega) only[go_sem,↓reduceIte,reduceCtorEq,ln,ip,be,bO,qA];exact k) ?_;refine PW.e ?_;refine PL.at [0,4,5,6,11,12] hfin ?_ ?_
      ·rw[←eO];rfl
      ·rw[←eO];simp[zaZ]
     ·have rl:(qH N [PV.int .u8 0]).flatten.length=N:=by simp
      refine PW.f (fun K k=>by simp(disch:=omega) only[go_sem,↓reduceIte,reduceCtorEq,ln,ip,be,bO,qA,hN0,rl];exact k) ?_;refine PW.e ?_;refine PL.at [0,4,5,6,11,12] hfin ?_ ?_
      ·rw[←eO,←Nat.add_assoc];rfl
      ·rw[←eO,←Nat.add_assoc];simp[zaZ]
    ·have dM:decide ((S':Int)≤1048576)=false:=decide_eq_false om;refine PW.c (fun h=> ?_) (fun h=> ?_)
     ·rw[dM]at h;cases h
     refine PW.skip ?_;refine PW.e ?_;exact PL.at [0,4,5,6,11,12] (hnext O he hS3 hO (fun h=>absurd h hM) hP2) rfl rfl
  ·have hkl:k=l.length:=ofF h;subst hkl;rw[List.take_length]at hS hOb hP ⊢;rw[qP,erL]at he;rw[if_pos he]at hr;refine PW.exit ?_;generalize byS l=B at *;generalize piL l=P at *;by_cases h1:256<P∨1048576<B.length
   ·rw[if_pos h1]at hr;suffices hrest:PW Tryz.prog _ _ [(62,.bool true)] (H++[⟨5,O.length,bs O⟩]) _ by
     by_cases hp1:256<P
     ·have d1:decide ((256:Int)<(P:Int))=true:=decide_eq_true om;refine PW.g d1 ?_;exact PW.at [62] hrest rfl rfl
     ·have d1:decide ((256:Int)<(P:Int))=false:=decide_eq_false om;have d2:decide ((1048576:Int)<(B.length:Int))=true:=decide_eq_true om;refine PW.g (nq2 d1 d2) ?_;exact PW.at [62] hrest rfl rfl
    refine PW.t ?_;refine PW.e ?_;refine PW.v (.tup [.slice [] 0 true,.int .i64 5]) ?_;rw[←hr];exact fe 5 _
   ·rw[if_neg h1]at hr;have d1:decide ((256:Int)<(P:Int))=false:=decide_eq_false om;have d2:decide ((1048576:Int)<(B.length:Int))=false:=decide_eq_false om;refine PW.g (nq2 d1 d2) ?_;refine PW.us ?_;refine PW.e ?_;refine PW.v (.tup [.msl H.length O.length 0 O.length 1 true,.int .i64 0]) ?_;rw[←hr,←hOb om];refine Fin.base (Fz.tupC ⟨?_,.id (.int _ _),trivial⟩);exact Fz.mslC (e:=5) (xs:=bs O) (qC _) (hp0 _ _ _) (by rw[bO,qO]) (FzC.refl (zn _ _))
abbrev MpE:=List (Int×Ent)
def mpC(m:MpE):List PV:=m.map fun x=>.tup [.int .i64 x.1,.agg (zo x.2)]
def mfi(k:Int):MpE→Nat→Option (Nat×Ent)
 | [],_=>none
 | x::r,i=>if k=x.1 then some (i,x.2)else mfi k r (i+1)
def mg(k:Int):MpE→Option Ent
 | []=>none
 | x::r=>if k=x.1 then some x.2 else mg k r
def mu(k:Int)(e:Ent):MpE→MpE
 | []=>[(k,e)]
 | x::r=>if k=x.1 then(k,e)::r else x::mu k e r
theorem zeZ(k:Int):∀(m:MpE) (i:Nat),zbx (.int .i64) (.int .i64 k) (mpC m) i=some ((mfi k m i).map fun x=>(x.1,.agg (zo x.2)))
 | [],i=>rfl
 | x::r,i=>by
  have ih:=zeZ k r (i+1);show(match zce (.int .i64) (.int .i64 k) (.int .i64 x.1)with|some true=>some (some (i,PV.agg (zo x.2)))|some false=>zbx (.int .i64) (.int .i64 k) (mpC r) (i+1)|none=>none)=_;by_cases h:k=x.1
  ·have:zce (.int .i64) (.int .i64 k) (.int .i64 x.1)=some true:=by simp[zce,h]
   rw[this,mfi,if_pos h];rfl
  ·have:zce (.int .i64) (.int .i64 k) (.int .i64 x.1)=some false:=by simp[zce,h]
   rw[this,mfi,if_neg h];exact ih
theorem zr4(k:Int):∀(m:MpE) (i:Nat),(mfi k m i).map (·.2)=mg k m
 | [],i=>rfl
 | x::r,i=>by
  rw[mfi,mg];split
  ·rfl
  ·exact zr4 k r (i+1)
theorem zhz(k:Int)(e:Ent):∀(m:MpE) (i p:Nat) (x:Ent),mfi k m i=some (p,x)→i≤p∧(mpC m).set (p - i) (.tup [.int .i64 k,.agg (zo e)])=mpC (mu k e m)
 | [],i,p,x,h=>by cases h
 | y::r,i,p,x,h=>by
  rw[mfi]at h;rw[mu];split at h
  ·rename_i hk;injection h with h;injection h with h1 h2;subst h1;rw[if_pos hk,Nat.sub_self];exact⟨qC _,rfl⟩
  ·rename_i hk;obtain⟨h1,h2⟩:=zhz k e r (i+1) p x h;rw[if_neg hk];refine⟨om,?_⟩;rw[show p - i=(p - (i+1))+1 from om];show(PV.tup [.int .i64 y.1,.agg (zo y.2)]::mpC r).set _ _= .tup [.int .i64 y.1,.agg (zo y.2)]::mpC (mu k e r);rw[List.set_cons_succ,h2]
theorem zhA(k:Int)(e:Ent):∀(m:MpE) (i:Nat),mfi k m i=none→mpC m++[.tup [.int .i64 k,.agg (zo e)]]=mpC (mu k e m)
 | [],i,h=>rfl
 | y::r,i,h=>by
  rw[mfi]at h;rw[mu];split at h
  ·cases h
  ·rename_i hk;rw[if_neg hk];show PV.tup [.int .i64 y.1,.agg (zo y.2)]::(mpC r++_)= .tup [.int .i64 y.1,.agg (zo y.2)]::mpC (mu k e r);rw[zhA k e r (i+1) h]
theorem zr3(k:Int)(e:Ent)(k':Int):∀ m:MpE,mg k' (mu k e m)=if k'=k then some e else mg k' m
 | []=>by
  rfl
 | y::r=>by
  have ih:=zr3 k e k' r;rw[mu];by_cases h:k=y.1
  ·rw[if_pos h,mg,mg];by_cases h2:k'=k
   ·rw[if_pos h2,if_pos h2]
   ·rw[if_neg h2,if_neg h2,if_neg om]
  ·rw[if_neg h,mg,mg,ih];by_cases h2:k'=y.1
   ·rw[if_pos h2,if_neg om];simp[h2]
   ·rw[if_neg h2,if_neg h2]
theorem zr0(n:Nat)(m:MpE):∀ x∈mpC m,Scoped n x:=fun x hx=>by
 obtain⟨y,_,rfl⟩:=jD.1 hx;exact .tup (asc fun z hz=>by
  simp only[qN,qL,or_false]at hz;rcases hz with rfl|rfl
  ·exact .int _ _
  ·exact zw fun w hw=>zaL _ [y.2] w (by simpa[enB]using hw))
def mN(S:List Ent):Nat→MpE
 | 0=>[]
 | k+1=>match S[k]? with|some e=>mu e.1.l e (mu e.1.f e (mN S k))|none=>mN S k
theorem zwh(S:List Ent)(i:Int):∀ k,k≤S.length→mg i (mN S k)=byI (S.take k) i
 | 0,_=>rfl
 | k+1,h=>by
  have e:=qE (show k<S.length from om);rw[mN,e,List.take_add_one,e];dsimp only;rw[Option.toList_some,zlR,zr3,zr3,zwh S i k om];by_cases h1:i=S[k].1.l
  ·rw[if_pos h1,if_pos (.inr h1.symm)]
  ·rw[if_neg h1];by_cases h2:i=S[k].1.f
   ·rw[if_pos h2,if_pos (.inl h2.symm)]
   ·rw[if_neg h2,if_neg om]
theorem zpo(es:List Ent)(L:List It)(j:Nat)(hj:j<L.length):zhk es (L.drop j) j=(zlf es j L[j]&&zhk es (L.drop (j+1)) (j+1)):=by rw[qJ hj];rfl
def zen:List PV:=.int .i64 0:: .int .i64 0:: .int .i64 0:: .int .i64 0:: .int .i64 0:: .int .i64 0::(sqc sq0++pic pz0E)
 where pz0E:Pi:=⟨0,0,0,false,false,false⟩
theorem zpH(e:Ent):(zo e).all PV.cell=true:=by simp[zo,zbf,PV.cell,pic]
def wlB(L:List It):Bool:=decide ((zsH L).2=0)&&ztE L
set_option maxRecDepth 100000 in
theorem zpU:zrT Tryz.prog 71=some (.agg zen):=kr
set_option maxHeartbeats 16000000 in
set_option maxRecDepth 100000 in
theorem znl(L:List It)(fl:Bool)(hl:Lts L)(hc:∀ x∈L,CdOk (zcM x))(hn:L.length≤800000)(H:za):CallOk Tryz.prog 10 [.slice (itL L) L.length fl] H (.bool (wlB L)) H:=by
 have hL:=hl.s;have z1:zen.all PV.cell=true:=by decide
 have z2:zen.length=147:=by decide
 have fin0:∀(b:Bool),Fin H (.bool b) H (.bool b) H:=fun b=>Fin.now;have fin:∀(b:Bool) (K:za),Fin H (.bool b) H (.bool b) (H++K):=fun b K=>Fin.base (.id (.bool _));have fo:=fun K=>zvb L fl K hl;have oo:=fun K=>zxr L fl hL hn K;have so:=fun K=>znC L fl hL hn K;have hsq:=fun(j:Nat) (e:Ent) (he:(zaa L)[j]? =some e)=>znB hL he;have hlen:=zjb hL;have hsl:∀ e∈zaa L,SqL e.2.1:=fun e he=>by obtain⟨j,hj⟩:=List.getElem?_of_mem he;exact(hsq j e hj).toL
 have no:=fun K=>zuL L (zaa L) fl hL hn om hsl (esI L) K;unfold wlB ztE;generalize zsH L=R at fo ⊢;obtain⟨bytes,er⟩:=R;unfold zq4 at fo;refine CallOk.go Tryz.func10 Tryz.ntmps10 Tryz.results10 ?_;refine PW.e ?_;refine PW.k fo ?_;by_cases h0:er=0;rotate_left
 ·have d0:(er !=0)=true:=by simpa using h0
  rw[decide_eq_false h0,jA];refine PW.g d0 ?_;refine PW.t ?_;refine PW.e ?_;refine PW.v (.bool false) ?_;exact fin0 _
 have d0:(er !=0)=false:=by simp[h0]
 rw[decide_eq_true h0,qT];cases ho:zhv L with
 | false=>
  rw[ho]at oo;rw[jA];refine PW.m d0 oo ?_;refine PW.t ?_;refine PW.e ?_;refine PW.v (.bool false) ?_;exact fin0 _
 | true=>
 rw[ho]at oo;rw[qT];refine PW.m d0 oo ?_;refine PW.us ?_;refine PW.k so ?_;clear fo oo so;generalize zaa L=S at *;have ln:=zdO hsl;have lnL:=zbl L hL;refine PW.e ?_;refine PW.e ?_;refine PW.l ?_;suffices hl1:∀ k:Nat,k≤S.length→PL Tryz.prog _ _ [(0,.slice (itL L) L.length fl),(5,.slice (S.flatMap zo) S.length false),(6,.mp H.length 0),(27,.slice (S.flatMap zo) S.length false),(28,.int .i64 (S.length:Int)),(29,.int .i64 (k:Int))] (H++[⟨67,0,mpC (mN S k)⟩]) _ by exact PL.at [0,5,6,27,28,29] (hl1 0 om) rfl rfl
 refine cnt S.length (fun k hk ih=> ?_) ?_
 ·have ct:=zcA hk;have ia:qK 147 (List.drop (k * 147) (S.flatMap zo))=zo S[k]:=zbR zo 147 S k hk fun e he=>zac e (hsl e he);have hse:=hsl _ (qM hk);rw[mN,qE hk]at ih;dsimp only at ih;generalize S[k]=e at *;generalize mN S k=m at *;have x1:=zac e hse;have x2:(zo e)[0]? =some (.int .i64 e.1.f):=rfl;have x3:(zo e)[1]? =some (.int .i64 e.1.l):=rfl;have x11:(zo e).all PV.cell=true:=by simp[zo,zbf,PV.cell,pic]
  have x12:qK 147 (zo e)=zo e:=qB om;refine PL.round ?_;refine PW.g ct ?_;refine PW.t ?_;refine PW.skip ?_;refine PW.b ?_;refine PW.g (nq2 ln (nq2 ia (nq2 x1 (nq2 x11 x12)))) ?_;suffices hm:PW Tryz.prog _ _ [(0,.slice (itL L) L.length fl),(5,.slice (S.flatMap zo) S.length false),(6,.mp H.length 0),(8,.ptr (H.length+1) 0 0),(27,.slice (S.flatMap zo) S.length false),(28,.int .i64 (S.length:Int)),(29,.int .i64 (k:Int))] (H++[⟨67,0,mpC (mu e.1.f e m)⟩,⟨71,0,zo e⟩]) _ by
   have hp:=zeZ e.1.f m 0;cases hf:mfi e.1.f m 0 with
   | none=>
    rw[hf]at hp;have hc:=zhA e.1.f e m 0 hf;refine PW.f (fun K k=>by simp(disch:=omega) only[go_sem,↓reduceIte,reduceCtorEq,hp,zb6,zab,zbv,x1,x2,x12];exact k) ?_;exact PW.at [0,5,6,8,27,28,29] hm rfl (by rw[←hc])
   | some y=>rw[hf]at hp;have hc:=(zhz e.1.f e m 0 y.1 y.2 hf).2;rw[jE]at hc;refine PW.f (fun K k=>by simp(disch:=omega) only[go_sem,↓reduceIte,reduceCtorEq,hp,zb6,zab,zbv,x1,x2,x12];exact k) ?_;exact PW.at [0,5,6,8,27,28,29] hm rfl (by rw[←hc])
  generalize mu e.1.f e m=m1 at *;have hp:=zeZ e.1.l m1 0;suffices hm:PW Tryz.prog _ _ [(0,.slice (itL L) L.length fl),(5,.slice (S.flatMap zo) S.length false),(6,.mp H.length 0),(27,.slice (S.flatMap zo) S.length false),(28,.int .i64 (S.length:Int)),(29,.int .i64 (k:Int))] (H++[⟨67,0,mpC (mu e.1.l e m1)⟩,⟨71,0,zo e⟩]) _ by
   cases hf:mfi e.1.l m1 0 with
   | none=>
    rw[hf]at hp;have hc:=zhA e.1.l e m1 0 hf;refine PW.f (fun K k=>by simp(disch:=omega) only[go_sem,↓reduceIte,reduceCtorEq,hp,zb6,zab,zbv,x1,x3,x12];exact k) ?_;exact PW.at [0,5,6,27,28,29] hm rfl (by rw[←hc])
   | some y=>rw[hf]at hp;have hc:=(zhz e.1.l e m1 0 y.1 y.2 hf).2;rw[jE]at hc;refine PW.f (fun K k=>by simp(disch:=omega) only[go_sem,↓reduceIte,reduceCtorEq,hp,zb6,zab,zbv,x1,x3,x12];exact k) ?_;exact PW.at [0,5,6,27,28,29] hm rfl (by rw[←hc])
  refine PW.e ?_;refine PL.view (Vs.trim (F1:=[(0,.slice (itL L) L.length fl),(5,.slice (S.flatMap zo) S.length false),(6,.mp H.length 0),(27,.slice (S.flatMap zo) S.length false),(28,.int .i64 (S.length:Int)),(29,.int .i64 ((k+1:Nat):Int))]) (H1:=H++[⟨67,0,mpC (mu e.1.l e m1)⟩]) (fun hh=>zey (fun b hb x hx=>by obtain rfl:=qU.1 hb;exact zr0 _ _ x hx) hh) sp (by rw[qF];rfl) ?_) ih;exact⟨.id (zj (zcL _ _)),.id (zj fun x hx=>zaL _ S x hx),.id (.mp (by rw[qA];exact qX _)),.id (zj fun x hx=>zaL _ S x hx),.id (.int _ _),.id (.int _ _),trivial⟩
 ·refine PL.round ?_;refine PW.e ?_;refine PW.u ?_;refine PW.exit ?_;have hmN:=zwh S;have hgm:=fun i:Int=>(hmN i S.length (qC _)).trans (by rw[List.take_length]);generalize mN S S.length=m at *;refine PW.e ?_;refine PW.l ?_;suffices hl2:∀ k:Nat,k≤L.length→zhk S (L.drop k) k=zhk S L 0→PL Tryz.prog _ _ [(0,.slice (itL L) L.length fl),(5,.slice (S.flatMap zo) S.length false),(6,.mp H.length 0),(45,.int .i64 (L.length:Int)),(46,.int .i64 (k:Int))] (H++[⟨67,0,mpC m⟩]) _ by exact PL.at [0,5,6,45,46] (hl2 0 om rfl) rfl rfl
  refine cnt L.length (fun k hk ih hf=> ?_) (fun hf=> ?_)
  ·have ct:=zcA hk;have ek:=zaK L hL k 0 hk om;rw[zdI,qR]at ek;have hck:=hc _ (qM hk);have ec:=ze8 L hL k 139 8 hk om;rw[zoe _ (hL _ (qM hk))]at ec;have ec:qK 8 (List.drop (k * 148+139) (itL L))=cdE (zcM L[k]):=ec;rw[zpo S L k hk]at hf;unfold zlf at hf;have hB:byI S (k:Int)=mg (k:Int) m:=(hgm k).symm;rw[hB]at hf;generalize L[k]=x at *;refine PL.round ?_;refine PW.g ct ?_;refine PW.t ?_;refine PW.skip ?_;refine PW.b ?_;refine PW.e ?_;by_cases k3:x.k=3;rotate_left
   ·have d3:(x.k !=3)=true:=by simpa using k3
    rw[decide_eq_false k3,Bool.not_false,Bool.true_or,qT]at hf;refine PW.g (nq2 lnL (nq2 ek d3)) ?_;refine PW.t ?_;refine PW.exit ?_;refine PW.e ?_;exact PL.at [0,5,6,45,46] (ih hf) rfl rfl
   have d3:(x.k !=3)=false:=by simp[k3]
   rw[decide_eq_true k3,Bool.not_true,Bool.false_or]at hf;have hp:=zeZ (k:Int) m 0;have hq:=zr4 (k:Int) m 0;refine PW.g (nq2 lnL (nq2 ek d3)) ?_;refine PW.us ?_;cases hg:mfi (k:Int) m 0 with
   | none=>
    rw[hg]at hp hq;rw[←hq]at hf;refine PW.f (fun K k=>by simp(disch:=omega) only[go_sem,↓reduceIte,reduceCtorEq,hp,zab,zbv,zpU,z1,z2];exact k) ?_;(repeat refine PW.seq ?_);refine PW.drawg mix kr fun K hK=> ?_;simp(disch:=omega) only[go_sem,↓reduceIte,reduceCtorEq];refine hK _ _ ?_;clear hK K;refine PW.t ?_;refine PW.e ?_;refine PW.v (.bool false) ?_;rw[←hf];exact fin _ _
   | some y=>
    rw[hg]at hp hq;rw[←hq]at hf;obtain⟨⟨je,hje⟩,_⟩:=zh0 (hB.trans hq.symm);have hye:=hsl _ (jI hje);have sqe:=hsq _ _ hje;have y1:=zac y.2 hye;have y2:=zpH y.2;have y3:qK 147 (zo y.2)=zo y.2:=qB om;have y4:=zsS y.2 hye;have y5:(zo y.2)[0]? =some (.int .i64 y.2.1.f):=rfl;have so:=fun K=>zw6 y.2.2.1 (zcM x) (decide ((k:Int)≠y.2.1.f)) sqe hck K;have y6:((k:Int) !=y.2.1.f)=decide ((k:Int)≠y.2.1.f):=by rw[bne,qY];simp
    change (zh7 y.2.2.1 (zcM x) (decide ((k:Int)≠y.2.1.f))&&zhk S (L.drop (k+1)) (k+1))=_ at hf;generalize decide ((k:Int)≠y.2.1.f)=tt at *;generalize y.2.2.1=sq at *;generalize zcM x=cx at *;have hp:zbx (.int .i64) (.int .i64 k) (mpC m) 0=some (some (y.1,.agg (zo y.2))):=hp;generalize zo y.2=ye at *;refine PW.f (fun K k=>by simp(disch:=omega) only[go_sem,↓reduceIte,reduceCtorEq,hp,zab,zbv,zpU,z1,z2,y1,y2,y3];exact k) ?_;(repeat refine PW.seq ?_);refine PW.drawg mix kr fun K hK=> ?_;simp(disch:=omega) only[go_sem,↓reduceIte,reduceCtorEq,lnL,ec,y4,y5,y6,y1];refine VCz.call (fun _=>so _) rfl ?_;refine sqz ?_;refine hK _ _ ?_;clear hK K;cases hs:zh7 sq cx tt with
    | false=>
     rw[hs,jA]at hf;refine PW.t ?_;refine PW.e ?_;refine PW.v (.bool false) ?_;rw[←hf];exact fin _ _
    | true=>rw[hs,qT]at hf;refine PW.us ?_;refine PW.e ?_;refine PL.view (Vs.trim (F1:=[(0,.slice (itL L) L.length fl),(5,.slice (S.flatMap zo) S.length false),(6,.mp H.length 0),(45,.int .i64 (L.length:Int)),(46,.int .i64 ((k+1:Nat):Int))]) (H1:=H++[⟨67,0,mpC m⟩]) (fun hh=>zey (fun b hb x hx=>by obtain rfl:=qU.1 hb;exact zr0 _ _ x hx) hh) sp (by rw[qF];rfl) ?_) (ih hf);exact⟨.id (zj (zcL _ _)),.id (zj fun x hx=>zaL _ S x hx),.id (.mp (by rw[qA];exact qX _)),.id (.int _ _),.id (.int _ _),trivial⟩
  ·refine PL.round ?_;refine PW.e ?_;refine PW.u ?_;refine PW.exit ?_;refine PW.k no ?_;refine PW.v (.bool (zpx L S)) ?_;rw[qP]at hf;rw[←hf];exact fin _ _
end Go.Proofs.YtpjlfoficnpfoaaGreatDoor.Sc
namespace Go.Proofs.YtpjlfoficnpfoaaGreatDoor.Sc
set_option linter.all false
open Pm Ty Go.RowKit
theorem zlP{l:List It}(hok:∀ x∈l,ItOk x)(h:ltB l=true):∀ x∈l,CdOk (zcM x):=fun x hx=>by unfold ltB at h;rw[qD]at h;have:=qQ.1 h.2 x hx;unfold ltI at this;simp only[qD,decide_eq_true_eq]at this;exact⟨by have:=this.1.2.2;show x.us.length≤_;omega,fun u hu=>⟨(hok x hx).ut u hu,by have:=of_decide_eq_true (qQ.1 this.2.2 u hu);omega⟩⟩
end Go.Proofs.YtpjlfoficnpfoaaGreatDoor.Sc
namespace Go.Proofs.YtpjlfoficnpfoaaGreatDoor.Sc
set_option linter.all false
open Pm Ty S3 Go.RowKit
theorem zzG{l:List It}(hok:∀ x∈l,ItOk x)(h:ltB l=true):Lts l∧l.length≤60:=by
 unfold ltB at h;rw[qD,decide_eq_true_eq]at h;refine⟨⟨om,fun x hx=> ?_⟩,h.1⟩;have:=qQ.1 h.2 x hx;unfold ltI at this;simp only[qD,decide_eq_true_eq]at this;obtain⟨⟨_,h1,h2⟩,_,h4⟩:=this;exact⟨hok x hx,om,om,fun u hu=>by
  have:=of_decide_eq_true (qQ.1 h4 u hu);omega⟩
def usC(l:List Bool):List PV:=l.map PV.bool
theorem ztJ(l:List Bool):(usC l).length=l.length:=by simp[usC]
theorem zl6{l:List Bool}{i:Nat}{b:Bool}(h:l[i]? =some b):(usC l)[i]? =some (.bool b):=by simp[usC,h]
theorem zno(l:List Bool)(i:Nat)(b:Bool):(usC l).set i (.bool b)=usC (l.set i b):=by simp[usC]
theorem zwO(n:Nat)(l:List Bool):∀ x∈usC l,Scoped n x:=fun x hx=>by obtain⟨b,_,rfl⟩:=jD.1 hx;exact .bool b
theorem ztI(n:Nat):(qH n [PV.bool false]).flatten=usC (qH n false):=by simp[usC]
set_option maxHeartbeats 16000000 in
set_option maxRecDepth 100000 in
theorem zpA(l:List It)(f:Bool)(H:za)(hok:∀ x∈l,ItOk x):CallOk Tryz.prog 6 [.slice (itL l) l.length f] H (.bool true) H:=by
 have hs:∀ x∈l,SqOk x.s:=fun x hx=>(hok x hx).s;have lo:=fun K=>zn9 l f K hs;have ln:=zbl l hs;have fin:∀(b:Bool) (K:za),Fin H (.bool b) H (.bool b) (H++K):=fun b K=>Fin.base (.id (.bool _));refine CallOk.go Tryz.func6 Tryz.ntmps6 Tryz.results6 ?_;refine PW.e ?_;cases hlt:ltB l with
 | false=>
  rw[hlt]at lo;refine PW.k lo ?_;refine PW.t ?_;refine PW.k ziX ?_;(refine PW.ret ⟨_,rfl,?_⟩;first|refine .inl ⟨?_,rfl⟩|refine Fin.base (.id' ?_ (.bool _))|refine Fin.base (.id' ?_ (.int _ _)));rfl
 | true=>
 rw[hlt]at lo;obtain⟨hlts,h60⟩:=zzG hok hlt;have hcd:=zlP hok hlt;have wo:=fun K=>znl l f hlts hcd om K;cases hw:wlB l with
 | false=>
  rw[hw]at wo;refine PW.m2 trivial lo wo ?_;refine PW.t ?_;refine PW.k ziX ?_;(refine PW.ret ⟨_,rfl,?_⟩;first|refine .inl ⟨?_,rfl⟩|refine Fin.base (.id' ?_ (.bool _))|refine Fin.base (.id' ?_ (.int _ _)));rfl
 | true=>
 rw[hw]at wo;refine PW.m2 trivial lo wo ?_;refine PW.us ?_;clear lo wo;unfold wlB at hw;have hW:=(zkz l).1 ((qD _ _).mp hw).2;have so:=fun K=>zgb l f hs hcd om K;have hsh:=fun(p:Nat) (hp:p<(zam l).length)=>zim hW hp;have hus:=fun(i:Nat) (hi:i<l.length)=>zp1 hW hi;have hln:=fun i=>zgo l.length (zam l) i;have lD:=zeQ (zam l);have lN:(zam l).length≤l.length:=by rw[zc1];exact zjb hs
 generalize zam l=D at *;refine PW.k so ?_;have hU0:(qH l.length [PV.bool false]).flatten=usC (usN l.length D 0):=ztI _;refine PW.g hU0 ?_;refine PW.e ?_;refine PW.l ?_;suffices hl1:∀ j:Nat,j≤D.length→PL Tryz.prog _ _ [(0,.slice (itL l) l.length f),(3,.slice (shL D) D.length false),(4,.msl H.length 0 0 l.length 1 true),(5,.int .i64 (j:Int))] (H++[⟨4,0,usC (usN l.length D j)⟩]) _ by exact PL.at [0,3,4,5] (hl1 0 om) rfl rfl
 refine cnt D.length (fun j hj ih=> ?_) ?_
 ·have ct:=zcA hj;have ea:=zqR D j hj;obtain⟨a1,a2,a3,a4,a5,a6⟩:=hsh j hj;have b1:=zl6 a5;have b2:=zl6 a6;have bl:=(ztJ _).trans (hln j);rw[usN,qE hj]at ih;dsimp only at ih;rw[←zno,←zno]at ih;have hUs:=fun n=>zwO n (usN l.length D j);generalize usC (usN l.length D j)=U at *;generalize D[j]=x at *;obtain⟨F,hF⟩:∃ F:Nat,x.f=(F:Int):=⟨x.f.toNat,om⟩;obtain⟨G,hG⟩:∃ G:Nat,x.l=(G:Int):=⟨x.l.toNat,om⟩;have x1:(shc x)[8]? =some (.bool true):=by rw[←a1];rfl
  have x2:(shc x)[5]? =some (.int .i64 (F:Int)):=by rw[←hF];rfl
  have x3:(shc x)[6]? =some (.int .i64 (G:Int)):=by rw[←hG];rfl
  have x4:=zjf x;have x5:=zkR x;have x6:qK 11 (shc x)=shc x:=rfl;rw[hF,hG]at a3;rw[hG]at a4 b2 ih;rw[hF]at b1 ih;rw[qG]at b1 b2;rw[qG,qG]at ih;have d1:decide ((F:Int)<0)=false:=decide_eq_false om;have d2:decide ((G:Int)<(F:Int))=false:=decide_eq_false om;have d3:decide ((l.length:Int)≤(G:Int))=false:=decide_eq_false om;generalize shc x=X at *;refine PL.round ?_;refine PW.g ct ?_;refine PW.t ?_;refine PW.skip ?_;refine PW.b ?_;refine PW.g (nq2 lD (nq2 ea (nq2 x4 (nq2 x5 x6)))) ?_;refine PW.g (nq2 x1 (nq2 x2 (nq2 x3 (nq2 x4 (nq2 d1 (nq2 d2 (nq2 d3 (nq2 b1 (nq2 b2 bl))))))))) ?_;refine PW.us ?_;(repeat refine PW.seq ?_);refine PW.drawi [H.length,H.length+1] [(4,[0]),(6,[1]),(68,[0]),(69,[1]),(71,[0]),(72,[1]),(74,[0]),(75,[0])] [] [] mix kr (by simp<;>omega) fun K hK=> ?_;simp(maxSteps:=3000000) (disch:=omega) only[go_sem,↓reduceIte,reduceCtorEq,x1,x2,x3,x4,bl,List.length_set];refine hK _ _ ?_;clear hK K;refine PW.e ?_;refine PL.view (Vs.trim (F1:=[(0,.slice (itL l) l.length f),(3,.slice (shL D) D.length false),(4,.msl H.length 0 0 l.length 1 true),(5,.int .i64 ((j+1:Nat):Int))]) (H1:=H++[⟨4,0,(U.set F (.bool true)).set G (.bool true)⟩]) (fun hh=>zey (fun b hb x hx=>by
   obtain rfl:=qU.1 hb;rcases jB hx with hx|rfl
   ·rcases jB hx with hx|rfl
    ·exact hUs _ _ hx
    ·exact .bool _
   ·exact .bool _) hh) sp (by rw[qF];rfl) ?_) ih
  exact⟨.id (zj (zcL _ _)),.id (zj (zjg _ _)),.id (.msl (by rw[qA];exact qX _)),.id (.int _ _),trivial⟩
 ·refine PL.round ?_;refine PW.f (fun K k=>by simp(maxSteps:=3000000) (disch:=omega) only[go_sem,↓reduceIte,reduceCtorEq,ze3 D.length];exact k) ?_;refine PW.u ?_;refine PW.exit ?_;generalize usN l.length D D.length=W at *;refine PW.e ?_;refine PW.l ?_;suffices hl2:∀ j:Nat,j≤l.length→PL Tryz.prog _ _ [(0,.slice (itL l) l.length f),(4,.msl H.length 0 0 l.length 1 true),(7,.int .i64 (j:Int))] (H++[⟨4,0,usC W⟩]) _ by exact PL.at [0,4,7] (hl2 0 om) rfl rfl
  refine cnt l.length (fun j hj ih=> ?_) ?_
  ·have ct:=zcA hj;have b1:=zl6 (hus j hj);have ek:=zaK l hs j 0 hj om;rw[zdI,qR]at ek;have d1:(decide (l[j].k=3)==(l[j].k==3))=true:=by
    by_cases h3:l[j].k=3
    ·simp[h3]
    ·simp[h3]
   generalize l[j]=x at *;generalize usC W=U at *;refine PL.round ?_;refine PW.g ct ?_;refine PW.t ?_;refine PW.skip ?_;refine PW.b ?_;(repeat refine PW.seq ?_);refine PW.draw mix kr fun K hK=> ?_;simp(maxSteps:=3000000) (disch:=omega) only[go_sem,↓reduceIte,reduceCtorEq,b1,ek,ln,d1];refine hK _ _ ?_;clear hK K;refine PW.us ?_;refine PW.e ?_;exact PL.at [0,4,7] ih rfl rfl
  ·refine PL.round ?_;refine PW.f (fun K k=>by simp(maxSteps:=3000000) (disch:=omega) only[go_sem,↓reduceIte,reduceCtorEq,ze3 l.length];exact k) ?_;refine PW.u ?_;refine PW.exit ?_;refine PW.k ziX ?_;(refine PW.ret ⟨_,rfl,?_⟩;first|refine .inl ⟨?_,rfl⟩|refine Fin.base (.id' ?_ (.bool _))|refine Fin.base (.id' ?_ (.int _ _)));rfl
end Go.Proofs.YtpjlfoficnpfoaaGreatDoor.Sc
namespace Go.Proofs.YtpjlfoficnpfoaaGreatDoor.Pm
set_option linter.all false
open Go.ChangeShapes Go.WideShapes Go.ChangeAt Go.RowKit
variable {P:Program} {W:World}
theorem zkI{t e:TypeId}{n fuel:Nat}{k:IntKind}{cs:List Value}{z:List Int}{p:List MemPlace}(ht:P.underlying t=some (.array n e))(he:P.underlying e=some (.int k))(hc:P.cellsOf e=1)
  (h:DataW.trod (fun _=>()) P W 0 (fun _=>true) false fuel t cs=some (.agg (z.map fun x=>.lit (.int k x)),p)):∀(j:Nat) (x:Int),z[j]? =some x→cs[j]? =some (.int k x):=by
 obtain⟨xs,m,rfl,hx,hlen,hn,hel⟩:=DataW.trod_array ht h;intro j x hj;simp only[Prod.mk.injEq,DataW.agg.injEq]at hx;have hx1:=congrArg (fun l=>l[j]?) hx.1;simp only[qW,hj,Option.map_some]at hx1;cases hy:xs[j]? with
 | none=>rw[hy]at hx1;cases hx1
 | some y=>
  rw[hy]at hx1;simp only[Option.map_some,qS.injEq]at hx1;have hjn:j<n:=by rw[←hn];exact(qI.1 hy).1
  have hd:=hel j hjn;rw[hy,hc,qO]at hd;obtain⟨r,e1,e2,_⟩:=DataW.trod_int he hd;rw[e2]at hx1;simp only[DataW.lit.injEq,Lit.int.injEq,true_and]at hx1;subst hx1;have:=congrArg (fun l=>l[0]?) e1;simpa using this
theorem ze5:∀{l:List (String×DataW Unit)} {ps:List MemPlace},DataW.LaidVars P W l ps→∀ x∈l,∃ g t cs fuel p,P.globalNamed x.1=some g∧(P.globals[g]?).map (·.type)=some t∧W.var? P x.1=some cs∧DataW.trod (fun _=>()) P W 0 (fun _=>true) false fuel t cs.toList=some (x.2,p)
 | [],_,_,x,hx=>by cases hx
 | (n,d)::r,ps,h,x,hx=>by
  obtain⟨g,t,cs,fuel,p,q,h1,h2,h3,h4,h5,_⟩:=h;rcases qN.1 hx with rfl|hx
  ·exact⟨g,t,cs,fuel,p,h1,h2,h3,h4⟩
  ·exact ze5 h5 x hx
theorem zlE{l:List (String×DataW Unit)}{nm:String}{g n:Nat}{t e:TypeId}{k:IntKind}{z:List Int}(h:laidMet P l W)(hm:(nm,DataW.agg (z.map fun x=>.lit (.int k x)))∈l)(hg:P.globalNamed nm=some g)(ht:(P.globals[g]?).map (·.type)=some t)
  (hu:P.underlying t=some (.array n e)) (he:P.underlying e=some (.int k)) (hc:P.cellsOf e=1):∀(j:Nat) (x:Int),z[j]? =some x→(Ctx.start W).M g j=some (.int k x):=fun j x hj=>by
 obtain⟨ps,hv,_⟩:=h;obtain⟨g',t',cs,fuel,p,h1,h2,h3,h4⟩:=ze5 hv _ hm;obtain rfl:=qS.inj (hg.symm.trans h1);obtain rfl:=qS.inj (ht.symm.trans h2);have h5:=zkI hu he hc h4 j x hj;show W.cell? ⟨g,j,none⟩=_;rw[World.var?_cell hg h3 j,←h5];simp
theorem zoj{l:List (String×DataW Unit)}(h:laidMetH Tryz.prog l W)(hl:(l.all fun x=>x.2.handleName?.isNone)=true)
  (h1 : ("cutroom/quant.alternateScan", Rows.laid_cutroom_quant_alternateScan) ∈ l)
  (h2 : ("cutroom/quant.defaultIntra", Rows.laid_cutroom_quant_defaultIntra) ∈ l)
  :Glob (Ctx.start W).M:=by
 rw[MakeChecks.laidMetH_plain _ _ _ hl]at h;intro g l hg;unfold zxU at hg;split at hg
 ·rename_i e;subst e;obtain rfl:=qS.inj hg;intro j x hj;unfold zzM at hj;rw[qW,jC]at hj;obtain⟨y,hy,rfl⟩:=hj;exact zlE (t:=146) h (k:=.i64) h1 kr kr Tryz.underlying146 Tryz.underlying3 kr j y hy
 split at hg
 ·rename_i e;subst e;obtain rfl:=qS.inj hg;intro j x hj;unfold zsA at hj;rw[qW,jC]at hj;obtain⟨y,hy,rfl⟩:=hj;exact zlE (t:=27) h (k:=.u8) h2 kr kr Tryz.underlying27 Tryz.underlying5 kr j y hy
 cases hg
end Go.Proofs.YtpjlfoficnpfoaaGreatDoor.Pm
namespace Go.Proofs.YtpjlfoficnpfoaaGreatDoor.Sc
set_option linter.all false
open Pm Ty S3 Go.RowKit
def gsL(L:List It)(n:Nat):List PV:=(List.range n).map fun i=>PV.int .i64 (grA L (i+1))
theorem zjV(L:List It)(n:Nat):(gsL L n).length=n:=by simp[gsL]
theorem zxV(L:List It){n i:Nat}(h:i<n):(gsL L n)[i]? =some (.int .i64 (grA L (i+1))):=by simp[gsL,List.getElem?_range h]
theorem zsv(m:Nat)(L:List It)(n:Nat):∀ x∈gsL L n,Scoped m x:=fun x hx=>by obtain⟨b,_,rfl⟩:=jD.1 hx;exact .int _ _
theorem zsu(L:List It)(n:Nat):gsL L (n+1)=gsL L n++[.int .i64 (grA L (n+1))]:=by simp[gsL,List.range_succ]
set_option maxHeartbeats 16000000 in
set_option maxRecDepth 100000 in
theorem zu4(L:List It)(fl:Bool)(hL:∀ x∈L,SqOk x.s)(hn:L.length≤800000)(H:za):CallOk Tryz.prog 18 [.slice (itL L) L.length fl] H (.slice (gsL L L.length) L.length false) H:=by
 have ln:=zbl L hL;refine CallOk.go Tryz.func18 Tryz.ntmps18 Tryz.results18 ?_;refine PW.e ?_;refine PW.e ?_;refine PW.view (Vs.ghost 3 3 1 rfl) ?_;refine PW.e ?_;refine PW.e ?_;refine PW.l ?_;suffices hl1:∀ j:Nat,j≤L.length→PL Tryz.prog _ _ [(0,.slice (itL L) L.length fl),(3,.msl H.length (gsL L j).length 0 j 1 true),(4,.int .i64 (grA L j)),(5,.int .i64 (j:Int))] (H++[⟨3,(gsL L j).length,gsL L j⟩]) _ by exact PL.at [0,3,4,5] (hl1 0 om) rfl rfl
 refine cnt L.length (fun j hj ih=> ?_) ?_
 ·have ct:=zcA hj;have ek:=zaK L hL j 0 hj om;rw[zdI,qR]at ek;have gl:=zjV L j;have hg:grA L (j+1)=grS (grA L j) j L[j]:=by rw[grA,qE hj]
  rw[zsu,hg]at ih;unfold grS at ih;generalize gsL L j=U at *;generalize grA L j=g at *;generalize L[j]=x at *;refine PL.round ?_;refine PW.g ct ?_;refine PW.t ?_;refine PW.skip ?_;refine PW.b ?_;by_cases h2:x.k=2
  ·rw[if_neg om,if_pos h2]at ih;have d1:(x.k==2)=true:=by simp[h2]
   have d2:(x.k==4)=false:=by simp[h2]
   refine PW.g (nq2 ek (nq2 ln d1)) ?_;refine PW.t ?_;refine PW.e ?_;refine PW.g (nq2 ek (nq2 ln d2)) ?_;refine PW.us ?_;refine PW.g gl ?_;refine PW.e ?_;exact PL.at [0,3,4,5] ih (by simp[kp,slot,jG,gl]) sp
  rw[if_neg h2]at ih;have d1:(x.k==2)=false:=by simp[h2]
  refine PW.g (nq2 ek (nq2 ln d1)) ?_;refine PW.us ?_;by_cases h4:x.k=4
  ·rw[if_pos h4]at ih;have d2:(x.k==4)=true:=by simp[h4]
   refine PW.g (nq2 ek (nq2 ln d2)) ?_;refine PW.t ?_;refine PW.e ?_;refine PW.g gl ?_;refine PW.e ?_;exact PL.at [0,3,4,5] ih (by simp[kp,slot,jG,gl]) sp
  ·rw[if_neg h4]at ih;have d2:(x.k==4)=false:=by simp[h4]
   refine PW.g (nq2 ek (nq2 ln d2)) ?_;refine PW.us ?_;refine PW.g gl ?_;refine PW.e ?_;exact PL.at [0,3,4,5] ih (by simp[kp,slot,jG,gl]) sp
 ·refine PL.round ?_;refine PW.f (fun K k=>by simp(disch:=omega) only[go_sem,↓reduceIte,reduceCtorEq,ze3 L.length];exact k) ?_;refine PW.u ?_;refine PW.exit ?_;have gl:=zjV L L.length;have gs:=zsv H.length L L.length;generalize gsL L L.length=U at *;refine PW.e ?_;refine PW.v (.msl H.length U.length 0 L.length 1 true) ?_;refine Fin.base ?_;exact Fz.mslC (e:=3) (xs:=U) (qC _) (hp0 _ _ _) (by rw[gl,qO]) (FzC.refl gs)
theorem zvw(L:List It)(D:List Sho){k:Nat}{z:Sho}(h:D[k]? =some z)(g:Int):zej L D (k+1) g=zej L D k g+(if grA L (z.f.toNat+1)=g then 1 else 0):=by unfold zej;rw[List.range_succ,List.countP_append];congr 1;rw[List.countP_singleton,h];simp
set_option maxHeartbeats 16000000 in
set_option maxRecDepth 100000 in
theorem zsj(l:List It)(f:Bool)(H:za)(hok:∀ x∈l,ItOk x):CallOk Tryz.prog 7 [.slice (itL l) l.length f] H (.bool true) H:=by
 have hs:∀ x∈l,SqOk x.s:=fun x hx=>(hok x hx).s;have lo:=fun K=>zn9 l f K hs;have ln:=zbl l hs;have fin:∀(b:Bool) (K:za),Fin H (.bool b) H (.bool b) (H++K):=fun b K=>Fin.base (.id (.bool _));refine CallOk.go Tryz.func7 Tryz.ntmps7 Tryz.results7 ?_;refine PW.e ?_;cases hlt:ltB l with
 | false=>
  rw[hlt]at lo;refine PW.k lo ?_;refine PW.t ?_;refine PW.k ziX ?_;(refine PW.ret ⟨_,rfl,?_⟩;first|refine .inl ⟨?_,rfl⟩|refine Fin.base (.id' ?_ (.bool _))|refine Fin.base (.id' ?_ (.int _ _)));rfl
 | true=>
 rw[hlt]at lo;obtain⟨hlts,h60⟩:=zzG hok hlt;have hcd:=zlP hok hlt;have wo:=fun K=>znl l f hlts hcd om K;cases hw:wlB l with
 | false=>
  rw[hw]at wo;refine PW.m2 trivial lo wo ?_;refine PW.t ?_;refine PW.k ziX ?_;(refine PW.ret ⟨_,rfl,?_⟩;first|refine .inl ⟨?_,rfl⟩|refine Fin.base (.id' ?_ (.bool _))|refine Fin.base (.id' ?_ (.int _ _)));rfl
 | true=>
 rw[hw]at wo;refine PW.m2 trivial lo wo ?_;refine PW.us ?_;clear lo wo;unfold wlB at hw;have hW:=(zkz l).1 ((qD _ _).mp hw).2;have so:=fun K=>zgb l f hs hcd om K;have hsh:=fun(p:Nat) (hp:p<(zam l).length)=>zim hW hp;have hdp:=fun(p:Nat) (hp:p<(zam l).length)=>zp2 hW hp;have go:=fun K=>zu4 l f hs om K;have lD:=zeQ (zam l);have lN:(zam l).length≤l.length:=by rw[zc1];exact zjb hs
 generalize zam l=D at *;have gl:=zjV l l.length;have gat:=fun(i:Nat) (h:i<l.length)=>zxV l h;have gsc:=fun n=>zsv n l l.length;generalize gsL l l.length=G at *;refine PW.k go ?_;refine PW.k so ?_;refine PW.e ?_;have sD:∀ n,Scoped n (.slice (shL D) D.length false):=fun n=>zj (zjg _ _);have sg:∀(k:Nat) (hk:k<D.length),(shL D)[k * 11+5]? =(shc D[k])[5]? :=fun k hk=>zcv shc 11 D k 5 hk (fun _ _=>rfl) om;refine PW.l ?_;suffices hl1:∀ j:Nat,j≤D.length→PL Tryz.prog _ _ [(0,.slice (itL l) l.length f),(3,.slice G l.length false),(4,.slice (shL D) D.length false),(5,.int .i64 (j:Int))] H _ by exact PL.at [0,3,4,5] (hl1 0 om) rfl rfl
 refine cnt D.length (fun j hj ih=> ?_) ?_
 ·have ct:=zcA hj;have ej:=sg j hj;obtain⟨y,hy,hod⟩:=hdp j hj;obtain⟨_,a2,a3,a4,_⟩:=hsh j hj;obtain⟨F,hF⟩:∃ F:Nat,D[j].f=(F:Int):=⟨D[j].f.toNat,om⟩;rw[hF,qG]at hy hod;have ej:(shL D)[j * 11+5]? =some (.int .i64 (F:Int)):=by rw[ej,←hF];rfl
  have hFl:=(qI.1 hy).1;have gF:=gat F hFl;have eo:=zaK l hs F 141 hFl om;rw[(qI.1 hy).2,zfO y (hs _ (jI hy)) 5]at eo;have eo:(itL l)[F * 148+141]? =some (.int .i64 y.p.od):=eo;rw[hod]at eo;generalize grA l (F+1)=g at *;refine PL.round ?_;refine PW.g ct ?_;refine PW.t ?_;refine PW.skip ?_;refine PW.b ?_;refine PW.e ?_;refine PW.e ?_;refine PW.l ?_;suffices hl2:∀ k:Nat,k≤j→PL Tryz.prog _ _ [(0,.slice (itL l) l.length f),(3,.slice G l.length false),(4,.slice (shL D) D.length false),(5,.int .i64 (j:Int)),(6,.int .i64 (zej l D k g:Int)),(7,.int .i64 (k:Int))] H _ by exact PL.at [0,3,4,5,6,7] (hl2 0 om) rfl rfl
  refine cnt j (fun k hk ih2=> ?_) ?_
  ·have ck:=zcA hk;have hkD:k<D.length:=om;have ek:=sg k hkD;obtain⟨_,c2,c3,c4,_⟩:=hsh k hkD;obtain⟨Z,hZ⟩:∃ Z:Nat,D[k].f=(Z:Int):=⟨D[k].f.toNat,om⟩;have ek:(shL D)[k * 11+5]? =some (.int .i64 (Z:Int)):=by rw[ek,←hZ];rfl
   have gZ:=gat Z om;have hc:=zvw l D (qE hkD) g;rw[hZ,qG]at hc;have hcl:zej l D k g≤k:=by unfold zej;exact jF (List.countP_le_length ..) sp
   rw[hc]at ih2;generalize grA l (Z+1)=gz at *;generalize zej l D k g=n at *;refine PL.round ?_;refine PW.g ck ?_;refine PW.t ?_;refine PW.skip ?_;refine PW.b ?_;(repeat refine PW.seq ?_);refine PW.draw mix kr fun K hK=> ?_;simp(disch:=omega) only[go_sem,↓reduceIte,reduceCtorEq,ej,ek,gF,gZ,lD,gl];refine hK _ _ ?_;clear hK K;by_cases hg:gz=g
   ·rw[if_pos hg]at ih2;have d1:(gz==g)=true:=by simp[hg]
    rw[d1];refine PW.t ?_;refine PW.e ?_;refine PW.e ?_;exact PL.at [0,3,4,5,6,7] ih2 rfl rfl
   ·rw[if_neg hg,qR]at ih2;have d1:(gz==g)=false:=by simp[hg]
    rw[d1];refine PW.us ?_;refine PW.e ?_;exact PL.at [0,3,4,5,6,7] ih2 rfl rfl
  ·refine PL.round ?_;refine PW.f (fun K k=>by simp(disch:=omega) only[go_sem,↓reduceIte,reduceCtorEq,ze3 j];exact k) ?_;refine PW.u ?_;refine PW.exit ?_;generalize zej l D j g=n at *;have d1:((n:Int) !=(n:Int))=false:=by simp
   refine PW.g (nq2 ej (nq2 eo (nq2 lD (nq2 ln d1)))) ?_;refine PW.us ?_;refine PW.e ?_;exact PL.at [0,3,4,5] ih rfl rfl
 ·refine PL.round ?_;refine PW.f (fun K k=>by simp(disch:=omega) only[go_sem,↓reduceIte,reduceCtorEq,ze3 D.length];exact k) ?_;refine PW.u ?_;refine PW.exit ?_;refine PW.k ziX ?_;(refine PW.ret ⟨_,rfl,?_⟩;first|refine .inl ⟨?_,rfl⟩|refine Fin.base (.id' ?_ (.bool _))|refine Fin.base (.id' ?_ (.int _ _)));rfl
end Go.Proofs.YtpjlfoficnpfoaaGreatDoor.Sc
