/-
  Parts of the proof, put together in one text. No condition.
-/
import Derived.Test.YtpjlfoficnpfoaaGreatDoorV10
open Bool renaming eq_iff_iff → qC
open List renaming getElem?_append_right → qD, set_append_right → qE, take → qF, drop → qG, length_set → qH
open Nat renaming reduceAdd → qA, reduceLeDiff → qB, strongRecOn → qI, sub_self → qJ
namespace Go.Proofs.YtpjlfoficnpfoaaGreatDoor.Sc
set_option linter.all false
open Pm Ty Go.RowKit
def vqB(q:Int):Bool:=decide (1≤q)&&decide (q≤31)
def zft(s:St):Bool:=(win s.da 4095&&(win s.db 4095&&win s.dc 4095))&&(vqB s.q&&(vrg s.va s.vb&&vrg s.vc s.vd))
theorem ztD(q:Int)(H:za):CallOk Tryz.prog 128 [.int .i64 q] H (.bool (vqB q)) H:=by refine CallOk.go Tryz.func128 Tryz.ntmps128 Tryz.results128 ?_;(repeat'(first|refine PW.seq ?_|refine PW.skip ?_|refine PW.block ?_|((first|refine PW.rg rfl fun K hK=> ?_|refine PW.draw mix kr fun K hK=> ?_);simp(disch:=omega) only[go_sem,↓reduceIte,reduceCtorEq])|((first|refine zh ?_ ?_|refine ze ?_ ?_|refine And.intro ?_ ?_)<;>intro h<;>(try simp only[nqb]at h)<;>simp(disch:=omega) only[go_sem,↓reduceIte,reduceCtorEq,h])|(refine hK _ _ ?_;clear hK K)|(refine PW.cond (t:=_) rfl (fun h=> ?_) (fun h=> ?_)<;>(try(cases h;done))<;>(try simp only[nqb]at h))));all_goals((refine PW.ret ⟨_,rfl,?_⟩;first|refine .inl ⟨?_,rfl⟩|refine Fin.base (.id' ?_ (.bool _))|refine Fin.base (.id' ?_ (.int _ _)));(simp_all[vqB,slot,Nat.beq]<;>first|rfl|omega|(rw[qC];simp;done)|(rw[qC];simp;omega)))
theorem zrW(s:St)(H:za):CallOk Tryz.prog 179 [.agg (stc s)] H (.bool (zft s)) H:=by generalize hr:zft s=r;obtain⟨q,da,db,dc,va,vb,vc,vd⟩:=s;have w1:=fun x K=>zfs x 4095 K om;have v1:=fun x y K=>zuo x y K;have q1:=fun K=>ztD q K;refine CallOk.body (F0:=[(0,.agg [.int .i64 q,.int .i64 da,.int .i64 db,.int .i64 dc,.int .i64 va,.int .i64 vb,.int .i64 vc,.int .i64 vd])]) Tryz.func179 rfl Tryz.ntmps179 Tryz.results179 rfl kr rfl ?_;(repeat'(first|refine PW.seq ?_|refine PW.skip ?_|refine PW.block ?_|refine PW.loop ?_|refine PL.round ?_|refine PW.exit ?_|((first|refine PW.rg rfl fun K hK=> ?_|refine PW.draw mix kr fun K hK=> ?_);simp(disch:=omega) only[go_sem,↓reduceIte,reduceCtorEq])|((first|refine zh ?_ ?_|refine ze ?_ ?_|refine And.intro ?_ ?_)<;>intro h<;>(try simp only[nqb]at h)<;>simp(disch:=omega) only[go_sem,↓reduceIte,reduceCtorEq,h])|((first|refine VCx.call (w1 _ _) rfl ?_|refine VCx.call (v1 _ _ _) rfl ?_|refine VCx.call (q1 _) rfl ?_|refine VCy.call (w1 _ _) rfl ?_|refine VCy.call (v1 _ _ _) rfl ?_|refine VCy.call (q1 _) rfl ?_);simp(disch:=omega) only[go_sem,↓reduceIte,reduceCtorEq])|(refine hK _ _ ?_;clear hK K)|(refine PW.cond (t:=_) rfl (fun h=> ?_) (fun h=> ?_)<;>(try(cases h;done))<;>(try simp only[nqb]at h))));all_goals((refine PW.ret ⟨_,rfl,?_⟩;first|refine .inl ⟨?_,rfl⟩|refine Fin.base (.id' ?_ (.bool _))|refine Fin.base (.id' ?_ (.int _ _)));subst hr;clear w1 v1 q1;(simp_all[zft,slot,Nat.beq]<;>first|rfl|omega|(rw[qC];simp;done)|(rw[qC];simp;omega)))
theorem zrV(s:St)(H:za):CallOk Tryz.prog 193 [.agg (stc s)] H (.bool (zft s)) H:=by generalize hr:zft s=r;obtain⟨q,da,db,dc,va,vb,vc,vd⟩:=s;have w1:=fun x K=>ziM x K;have v1:=fun x y K=>ziO x y K;refine CallOk.body (F0:=[(0,.agg [.int .i64 q,.int .i64 da,.int .i64 db,.int .i64 dc,.int .i64 va,.int .i64 vb,.int .i64 vc,.int .i64 vd])]) Tryz.func193 rfl Tryz.ntmps193 Tryz.results193 rfl kr rfl ?_;(repeat'(first|refine PW.seq ?_|refine PW.skip ?_|refine PW.block ?_|refine PW.loop ?_|refine PL.round ?_|refine PW.exit ?_|((first|refine PW.rg rfl fun K hK=> ?_|refine PW.draw mix kr fun K hK=> ?_);simp(disch:=omega) only[go_sem,↓reduceIte,reduceCtorEq])|((first|refine zh ?_ ?_|refine ze ?_ ?_|refine And.intro ?_ ?_)<;>intro h<;>(try simp only[nqb]at h)<;>simp(disch:=omega) only[go_sem,↓reduceIte,reduceCtorEq,h])|((first|refine VCx.call (w1 _ _) rfl ?_|refine VCx.call (v1 _ _ _) rfl ?_|refine VCy.call (w1 _ _) rfl ?_|refine VCy.call (v1 _ _ _) rfl ?_);simp(disch:=omega) only[go_sem,↓reduceIte,reduceCtorEq])|(refine hK _ _ ?_;clear hK K)|(refine PW.cond (t:=_) rfl (fun h=> ?_) (fun h=> ?_)<;>(try(cases h;done))<;>(try simp only[nqb]at h))));all_goals((refine PW.ret ⟨_,rfl,?_⟩;first|refine .inl ⟨?_,rfl⟩|refine Fin.base (.id' ?_ (.bool _))|refine Fin.base (.id' ?_ (.int _ _)));subst hr;clear w1 v1;(simp_all[zft,vqB,slot,Nat.beq]<;>first|rfl|omega|(rw[qC];simp;done)|(rw[qC];simp;omega)))
def aft(s:St)(k:Int):St:=⟨s.q,if k=1 then s.da else 0,if k=1 then s.db else 0,if k=1 then s.dc else 0,if k=2 then s.va else 0,if k=2 then s.vb else 0,if k=2 then s.vc else 0,if k=2 then s.vd else 0⟩
theorem zv1(s:St)(k:Int)(H:za):CallOk Tryz.prog 185 [.agg (stc s),.int .i64 k] H (.agg (stc (aft s k))) H:=by
 have hsc:=zcU (aft s k);obtain⟨q,da,db,dc,va,vb,vc,vd⟩:=s;have e0:stc (aft ⟨q,da,db,dc,va,vb,vc,vd⟩ k)=[.int .i64 q,.int .i64 (if k=1 then da else 0),.int .i64 (if k=1 then db else 0),.int .i64 (if k=1 then dc else 0),.int .i64 (if k=2 then va else 0),.int .i64 (if k=2 then vb else 0),.int .i64 (if k=2 then vc else 0),.int .i64 (if k=2 then vd else 0)]:=rfl;rw[e0]at hsc ⊢;clear e0;refine CallOk.body (F0:=[(0,.agg [.int .i64 q,.int .i64 da,.int .i64 db,.int .i64 dc,.int .i64 va,.int .i64 vb,.int .i64 vc,.int .i64 vd]),(1,.int .i64 k)]) Tryz.func185 rfl Tryz.ntmps185 Tryz.results185 rfl kr rfl ?_;by_cases h1:k=1<;>by_cases h2:k=2
 ·omega
 ·have b1:(k !=1)=false:=by simp[h1]
  have b2:(k !=2)=true:=by simp[h2]
  simp only[if_pos h1,if_neg h2]at hsc ⊢;(repeat'(first|refine PW.seq ?_|refine PW.skip ?_|refine PW.block ?_|((first|refine PW.rg rfl fun K hK=> ?_|refine PW.draw mix kr fun K hK=> ?_);simp(disch:=omega) only[go_sem,↓reduceIte,reduceCtorEq,b1,b2])|((first|refine zh ?_ ?_|refine ze ?_ ?_|refine And.intro ?_ ?_)<;>intro h<;>(try simp only[nqb]at h)<;>simp(disch:=omega) only[go_sem,↓reduceIte,reduceCtorEq,b1,b2,h])|(refine hK _ _ ?_;clear hK K)|(refine PW.cond (t:=_) rfl (fun h=> ?_) (fun h=> ?_)<;>(try(cases h;done))<;>(try simp only[nqb]at h))));refine PW.v (.agg [.int .i64 q,.int .i64 da,.int .i64 db,.int .i64 dc,.int .i64 0,.int .i64 0,.int .i64 0,.int .i64 0]) ?_;exact Fin.base (.id (hsc _))
 ·have b1:(k !=1)=true:=by simp[h1]
  have b2:(k !=2)=false:=by simp[h2]
  simp only[if_neg h1,if_pos h2]at hsc ⊢;(repeat'(first|refine PW.seq ?_|refine PW.skip ?_|refine PW.block ?_|((first|refine PW.rg rfl fun K hK=> ?_|refine PW.draw mix kr fun K hK=> ?_);simp(disch:=omega) only[go_sem,↓reduceIte,reduceCtorEq,b1,b2])|((first|refine zh ?_ ?_|refine ze ?_ ?_|refine And.intro ?_ ?_)<;>intro h<;>(try simp only[nqb]at h)<;>simp(disch:=omega) only[go_sem,↓reduceIte,reduceCtorEq,b1,b2,h])|(refine hK _ _ ?_;clear hK K)|(refine PW.cond (t:=_) rfl (fun h=> ?_) (fun h=> ?_)<;>(try(cases h;done))<;>(try simp only[nqb]at h))));refine PW.v (.agg [.int .i64 q,.int .i64 0,.int .i64 0,.int .i64 0,.int .i64 va,.int .i64 vb,.int .i64 vc,.int .i64 vd]) ?_;exact Fin.base (.id (hsc _))
 ·have b1:(k !=1)=true:=by simp[h1]
  have b2:(k !=2)=true:=by simp[h2]
  simp only[if_neg h1,if_neg h2]at hsc ⊢;(repeat'(first|refine PW.seq ?_|refine PW.skip ?_|refine PW.block ?_|((first|refine PW.rg rfl fun K hK=> ?_|refine PW.draw mix kr fun K hK=> ?_);simp(disch:=omega) only[go_sem,↓reduceIte,reduceCtorEq,b1,b2])|((first|refine zh ?_ ?_|refine ze ?_ ?_|refine And.intro ?_ ?_)<;>intro h<;>(try simp only[nqb]at h)<;>simp(disch:=omega) only[go_sem,↓reduceIte,reduceCtorEq,b1,b2,h])|(refine hK _ _ ?_;clear hK K)|(refine PW.cond (t:=_) rfl (fun h=> ?_) (fun h=> ?_)<;>(try(cases h;done))<;>(try simp only[nqb]at h))));refine PW.v (.agg [.int .i64 q,.int .i64 0,.int .i64 0,.int .i64 0,.int .i64 0,.int .i64 0,.int .i64 0,.int .i64 0]) ?_;exact Fin.base (.id (hsc _))
theorem zvS(n:Nat)(H:za)(h:n<6):CallOk Tryz.prog 263 [.int .i64 (n:Int)] H (.int .i64 ((n - 3:Nat):Int)) H:=by refine CallOk.go Tryz.func263 Tryz.ntmps263 Tryz.results263 ?_;have h6:n=0∨n=1∨n=2∨n=3∨n=4∨n=5:=om;rcases h6 with rfl|rfl|rfl|rfl|rfl|rfl<;>(repeat'(first|refine PW.seq ?_|refine PW.skip ?_|refine PW.block ?_|((first|refine PW.rg rfl fun K hK=> ?_|refine PW.draw mix kr fun K hK=> ?_);simp(disch:=omega) only[go_sem,↓reduceIte,reduceCtorEq])|((first|refine zh ?_ ?_|refine ze ?_ ?_|refine And.intro ?_ ?_)<;>intro h<;>(try simp only[nqb]at h)<;>simp(disch:=omega) only[go_sem,↓reduceIte,reduceCtorEq,h])|(refine hK _ _ ?_;clear hK K)|(refine PW.cond (t:=_) rfl (fun h=> ?_) (fun h=> ?_)<;>(try(cases h;done))<;>(try simp only[nqb]at h))));all_goals((refine PW.ret ⟨_,rfl,?_⟩;first|refine .inl ⟨?_,rfl⟩|refine Fin.base (.id' ?_ (.bool _))|refine Fin.base (.id' ?_ (.int _ _)));rfl)
theorem zqm(n:Nat)(H:za)(h:n<6):CallOk Tryz.prog 303 [.int .i64 (n:Int)] H (.int .i64 ((n - 3:Nat):Int)) H:=by refine CallOk.go Tryz.func303 Tryz.ntmps303 Tryz.results303 ?_;have h6:n=0∨n=1∨n=2∨n=3∨n=4∨n=5:=om;rcases h6 with rfl|rfl|rfl|rfl|rfl|rfl<;>(repeat'(first|refine PW.seq ?_|refine PW.skip ?_|refine PW.block ?_|((first|refine PW.rg rfl fun K hK=> ?_|refine PW.draw mix kr fun K hK=> ?_);simp(disch:=omega) only[go_sem,↓reduceIte,reduceCtorEq])|((first|refine zh ?_ ?_|refine ze ?_ ?_|refine And.intro ?_ ?_)<;>intro h<;>(try simp only[nqb]at h)<;>simp(disch:=omega) only[go_sem,↓reduceIte,reduceCtorEq,h])|(refine hK _ _ ?_;clear hK K)|(refine PW.cond (t:=_) rfl (fun h=> ?_) (fun h=> ?_)<;>(try(cases h;done))<;>(try simp only[nqb]at h))));all_goals((refine PW.ret ⟨_,rfl,?_⟩;first|refine .inl ⟨?_,rfl⟩|refine Fin.base (.id' ?_ (.bool _))|refine Fin.base (.id' ?_ (.int _ _)));rfl)
theorem zrX(m:Mb)(i:Nat)(H:za)(hi:H[i]? =some (mB m)):CallOk Tryz.prog 259 [.ptr i 0 0] H (.int .i64 (if m.fp then 2 else 1)) H:=by refine CallOk.go Tryz.func259 Tryz.ntmps259 Tryz.results259 ?_;(repeat'(first|refine PW.seq ?_|refine PW.skip ?_|refine PW.block ?_|((first|refine PW.rg rfl fun K hK=> ?_|refine PW.draw mix kr fun K hK=> ?_);simp(disch:=omega) only[go_sem,↓reduceIte,reduceCtorEq,hi,mB,mbc])|((first|refine zh ?_ ?_|refine ze ?_ ?_|refine And.intro ?_ ?_)<;>intro h<;>(try simp only[nqb]at h)<;>simp(disch:=omega) only[go_sem,↓reduceIte,reduceCtorEq,hi,mB,mbc,h])|(refine hK _ _ ?_;clear hK K)|(refine PW.cond (t:=_) rfl (fun h=> ?_) (fun h=> ?_)<;>(try(cases h;done))<;>(try simp only[nqb]at h))));all_goals((refine PW.ret ⟨_,rfl,?_⟩;first|refine .inl ⟨?_,rfl⟩|refine Fin.base (.id' ?_ (.bool _))|refine Fin.base (.id' ?_ (.int _ _)));simp_all[slot,Nat.beq])
section
variable (H:za) (i j:Nat) (M:List Bool) (x0 x1 x3:Blk) (c:Cx) (m:Mb) (s:St)
end
end Go.Proofs.YtpjlfoficnpfoaaGreatDoor.Sc
namespace Go.Proofs.YtpjlfoficnpfoaaGreatDoor.Sc
set_option linter.all false
open Pm Ty Go.RowKit
def vXm(m:Mb)(d k:Nat):Int:=if d=0 then(if k=0 then m.va else m.vc)else(if k=0 then m.ve else m.vg)
def vYm(m:Mb)(d k:Nat):Int:=if d=0 then(if k=0 then m.vb else m.vd)else(if k=0 then m.vf else m.vh)
def usd(m:Mb)(d:Nat):Bool:=if d=0 then m.ua else m.ub
def sXs(s:St)(d:Nat):Int:=if d=0 then s.va else s.vc
def sYs(s:St)(d:Nat):Int:=if d=0 then s.vb else s.vd
def zbg(s:St)(d:Nat)(x y:Int):St:=if d=0 then⟨s.q,s.da,s.db,s.dc,x,y,s.vc,s.vd⟩else⟨s.q,s.da,s.db,s.dc,s.va,s.vb,x,y⟩
def nvM(m:Mb):Nat:=if m.fp then 2 else 1
def vrM(m:Mb):Prop:=∀ d k,(-63≤vXm m d k∧vXm m d k≤63)∧(-63≤vYm m d k∧vYm m d k≤63)
def vrS(s:St):Prop:=∀ d,(-63≤sXs s d∧sXs s d≤63)∧(-63≤sYs s d∧sYs s d≤63)
theorem ztV(m:Mb):nvM m≤2∧1≤nvM m:=by unfold nvM;split<;>omega
section
variable (H:za) (i j:Nat) (M:List Bool) (x0 x1 x3:Blk) (c:Cx) (m:Mb) (s:St) (K:za)
end
end Go.Proofs.YtpjlfoficnpfoaaGreatDoor.Sc
namespace Go.Proofs.YtpjlfoficnpfoaaGreatDoor.Sc
set_option linter.all false
open Pm Ty Go.RowKit
def dcS(s:St)(k:Nat):Int:=if k=0 then s.da else if k=1 then s.db else s.dc
def zcW(s:St)(k:Nat)(x:Int):St:=if k=0 then⟨s.q,x,s.db,s.dc,s.va,s.vb,s.vc,s.vd⟩else if k=1 then⟨s.q,s.da,x,s.dc,s.va,s.vb,s.vc,s.vd⟩else⟨s.q,s.da,s.db,x,s.va,s.vb,s.vc,s.vd⟩
def lrM(m:Mb):Prop:=∀ q,q<384→win (zk6 m.lv q) 4095=true
def dcR(s:St):Prop:=∀ k,-4095≤dcS s k∧dcS s k≤4095
theorem znk{s:St}(h:dcR s)(k:Nat){x:Int}(hx: -4095≤x∧x≤4095):dcR (zcW s k x):=fun e=>by
 have h0: -4095≤s.da∧s.da≤4095:=h 0;have h1: -4095≤s.db∧s.db≤4095:=h 1;have h2: -4095≤s.dc∧s.dc≤4095:=h 2;unfold zcW;split
 ·unfold dcS;dsimp only;split;exact hx;split;exact h1;exact h2
 ·split
  ·unfold dcS;dsimp only;split;exact h0;split;exact hx;exact h2
  ·unfold dcS;dsimp only;split;exact h0;split;exact h1;exact hx
def zSt:St:=⟨0,0,0,0,0,0,0,0⟩
structure Fmd(c:Cx)(m:Mb):Prop where
 k:m.k=0∨m.k=1∨m.k=2
 v:vrM m
 l:lrM m
 d: -30≤m.dl∧m.dl≤30
 z:m.k=0→m.dl=0∧hlM m=false
 i:m.k=1→cdl m=[true,true,true,true,true,true]
 n:hlM m=false→m.dl=0
theorem ztC{x y:Int}(h:vrg x y=true):(-63≤x∧x≤63)∧(-63≤y∧y≤63):=by simp only[vrg,Bool.and_eq_true]at h;exact⟨zeG h.1,zeG h.2⟩
theorem zmy{s:St}(h:zft s=true):(1≤s.q∧s.q≤31)∧vrS s∧dcR s:=by
 simp only[zft,Bool.and_eq_true,vqB,decide_eq_true_eq]at h;obtain⟨⟨h1,h2,h3⟩,h4,h5,h6⟩:=h;refine⟨h4,fun d=> ?_,fun k=> ?_⟩
 ·unfold sXs sYs;split
  ·exact ztC h5
  ·exact ztC h6
 ·unfold dcS;split
  ·exact zeG h1
  ·split
   ·exact zeG h2
   ·exact zeG h3
def SameQ(s t:St):Prop:=t.q=s.q∧t.da=s.da∧t.db=s.db∧t.dc=s.dc
theorem SameQ.trans{a b c:St}(h:SameQ a b)(k:SameQ b c):SameQ a c:=⟨k.1.trans h.1,k.2.1.trans h.2.1,k.2.2.1.trans h.2.2.1,k.2.2.2.trans h.2.2.2⟩
theorem zlc{s t:St}(h:SameQ s t)(k:dcR s):dcR t:=fun e=>by have:=k e;unfold dcS at this ⊢;rw[h.2.1,h.2.2.1,h.2.2.2];exact this
section
variable (H:za) (i j:Nat) (A B:Blk) (K:za)
end
theorem zbf{n:Nat}{xs:List PV}(h:∀ x∈xs,Scoped n x):∀(j:Nat) (x:PV),xs[j]? =some x→Scoped n x:=fun j x hx=>h x (List.mem_of_getElem? hx)
theorem zdT(c:Cx):(cxc c).all PV.cell=true:=rfl
theorem zko(s:St):(stc s).all PV.cell=true:=rfl
theorem zdI(m:Mb):(mbc m).all PV.cell=true:=by have hall:=zaR m.lv;simp[mbc,PV.cell];exact fun x hx=>List.all_eq_true.1 hall x hx
end Go.Proofs.YtpjlfoficnpfoaaGreatDoor.Sc
namespace Go.Proofs.YtpjlfoficnpfoaaGreatDoor.Sc
set_option linter.all false
open Pm Ty Go.RowKit
def tkF(q:List UInt8)(n a:Nat):Rr Bool:=if a<n then .ok (decide (zN q a=1)) (a+1)else .er 3 a
def tkD(q:List UInt8)(n:Nat)(pr:Int)(most:Nat)(a:Nat):Rr Int:=(tkS q n a).bind fun d a1=>if win (pr+d) most then .ok (pr+d) a1 else .er 2 a1
def zej(m:Mb)(d k:Nat)(x:Int):Mb:=if d=0 then(if k=0 then{ m with sa:=x }else{ m with sb:=x })else(if k=0 then{ m with sc:=x }else{ m with sd:=x })
def zaJ(m:Mb)(d k:Nat)(x y:Int):Mb:=if d=0 then(if k=0 then{ m with va:=x,vb:=y }else{ m with vc:=x,vd:=y })else(if k=0 then{ m with ve:=x,vf:=y }else{ m with vg:=x,vh:=y })
def zbR(m:Mb)(n:Nat)(b:Bool):Mb:=if n=0 then{ m with ca:=b }else if n=1 then{ m with cb:=b }else if n=2 then{ m with cc:=b }else if n=3 then{ m with cd:=b }else if n=4 then{ m with ce:=b }else{ m with cf:=b }
def za3(m:Mb)(n:Nat)(l:List Int):Mb:={ m with lv:=m.lv.take (n * 64)++l++m.lv.drop (n * 64+64) }
def inMb:Mb:=⟨1,false,false,false,false,0,0,0,0,0,0,0,0,0,0,0,0,0,true,true,true,true,true,true,zl384⟩
def zn8(v:Nat):Mb:=⟨2,decide (v≤2)||decide (5≤v),decide (3≤v),false,false,0,0,0,0,0,0,0,0,0,0,0,0,0,false,false,false,false,false,false,zl384⟩
def zbW(c:Cx)(q:List UInt8)(n a:Nat):Rr (Mb×Bool):=if c.t=1 then .ok (inMb,true) a else(tkU q n a).bind fun v a1=>if(if c.t=2 then 3 else 7)<v then .er 2 a1 else if v=(if c.t=2 then 3 else 7)then .ok (inMb,true) a1 else if v=0 then .ok (zMb,false) a1 else .ok (zn8 v,decide (v%2=0)) a1
def zcT(c:Cx)(q:List UInt8)(n:Nat)(m:Mb)(s:St)(d k a:Nat):Rr (Mb×St):=
 (if m.fp||fcx c then(tkF q n a).bind fun b a1=>.ok (zej m d k (b.toNat:Int)) a1 else .ok m a).bind fun m a1=>
 (tkD q n (sXs s d) 63 a1).bind fun x a2=>(tkD q n (sYs s d) 63 a2).bind fun y a3=>.ok (zaJ m d k x y,zbg s d x y) a3
def zbO(c:Cx)(q:List UInt8)(n d:Nat):Nat→Nat→Mb→St→Nat→Rr (Mb×St)
 | 0,_,m,s,a=>.ok (m,s) a
 | r+1,k,m,s,a=>(zcT c q n m s d k a).bind fun x a1=>zbO c q n d r (k+1) x.1 x.2 a1
def zeN(c:Cx)(q:List UInt8)(n:Nat)(m:Mb)(s:St)(d a:Nat):Rr (Mb×St):=if usd m d then zbO c q n d (nvM m) 0 m s a else .ok (m,s) a
def zbu(c:Cx)(q:List UInt8)(n:Nat):Nat→Nat→Mb→St→Nat→Rr (Mb×St)
 | 0,_,m,s,a=>.ok (m,s) a
 | r+1,d,m,s,a=>(zeN c q n m s d a).bind fun x a1=>zbu c q n r (d+1) x.1 x.2 a1
def zbD(c:Cx)(q:List UInt8)(n:Nat)(m:Mb)(s:St)(a:Nat):Rr (Mb×St):=if m.k=2 then(if bcx c then(tkF q n a).bind fun b a1=>.ok { m with fp:=b } a1 else .ok m a).bind fun m a1=>zbu c q n 2 0 m s a1 else .ok (m,s) a
def zbP(c:Cx)(q:List UInt8)(n:Nat)(hl:Bool)(m:Mb)(s:St)(a:Nat):Rr (Mb×St):=if hl then(if bcx c then(tkF q n a).bind fun b a1=>.ok { m with fd:=b } a1 else .ok m a).bind fun m a1=>(tkS q n a1).bind fun d a2=>if vqB (s.q+d)then .ok ({ m with dl:=d },{ s with q:=s.q+d }) a2 else .er 2 a2 else .ok (m,s) a
def zdv(q:List UInt8)(n:Nat):Nat→Mb→Nat→Rr Mb
 | 0,m,a=>if zlm m then .ok m a else .er 2 a
 | r+1,m,a=>(tkF q n a).bind fun b a1=>zdv q n r (zbR m (5 - r) b) a1
def zbE(q:List UInt8)(n:Nat)(hl:Bool)(m:Mb)(a:Nat):Rr Mb:=if decide (m.k=2)&&hl then zdv q n 6 m a else .ok m a
def zaS(q:List UInt8)(n:Nat):Nat→Mb→St→Nat→Rr (Mb×St)
 | 0,m,s,a=>.ok (m,s) a
 | r+1,m,s,a=>if zdR (cdl m) (5 - r)then
   (if m.k=2 then(zdo q n 0 a).bind fun l a1=>if l=z64 then .er 2 a1 else zaS q n r (za3 m (5 - r) l) s a1
    else(tkD q n (dcS s (5 - r - 3)) 4095 a).bind fun d a1=>(zdo q n 1 a1).bind fun l a2=>zaS q n r (za3 m (5 - r) (l.set 0 d)) (zcW s (5 - r - 3) d) a2)else zaS q n r m s a
def zkg(c:Cx)(q:List UInt8)(n:Nat)(hl:Bool)(m:Mb)(s:St)(a:Nat):Rr (Mb×St):=(zbD c q n m s a).bind fun y a2=>(zbP c q n hl y.1 y.2 a2).bind fun z a3=>(zbE q n hl z.1 a3).bind fun m a4=>(zaS q n 6 m z.2 a4).bind fun w a5=>.ok (w.1,aft w.2 w.1.k) a5
def mtk(c:Cx)(s:St)(q:List UInt8)(n a:Nat):Rr (Mb×St):=(zbW c q n a).bind fun x a1=>zkg c q n x.2 x.1 s a1
theorem zdi{q:List UInt8}{n a a1:Nat}{b:Bool}(h:tkF q n a= .ok b a1):a1=a+1∧a<n∧b=decide (zN q a=1):=by
 unfold tkF at h;split at h
 ·injection h with h1 h2;exact⟨h2.symm,by assumption,h1.symm⟩
 ·cases h
theorem zf8{q:List UInt8}{n a e a1:Nat}(h:tkF q n a= .er e a1):a1=a∧e=3∧n≤a:=by
 unfold tkF at h;split at h
 ·cases h
 ·injection h with h1 h2;omega
theorem zgQ{q:List UInt8}{n a a1 most:Nat}{pr v:Int}(h:tkD q n pr most a= .ok v a1)(ha:a≤n):(-(most:Int)≤v∧v≤most)∧a≤a1∧a1≤n:=by
 unfold tkD at h;cases hs:tkS q n a with
 | er e a2=>rw[hs]at h;cases h
 | ok d a2=>
  rw[hs,Rr.bind_ok]at h;have b:=zcn hs ha;split at h
  ·rename_i hw;injection h with h1 h2;subst h1 h2;exact⟨zeG hw,om,b.2.2⟩
  ·cases h
theorem zpb{q:List UInt8}{n a a1 e most:Nat}{pr:Int}(h:tkD q n pr most a= .er e a1)(ha:a≤n):a≤a1∧a1≤n∧e≤3:=by
 unfold tkD at h;cases hs:tkS q n a with
 | er e2 a2=>
  rw[hs]at h;have:=zeL hs;injection h with h1 h2;omega
 | ok d a2=>
  rw[hs,Rr.bind_ok]at h;have b:=zcn hs ha;split at h
  ·cases h
  ·injection h with h1 h2;omega
def tC(s:St)(w:Nat)(c:Cx)(mi:Nat)(hl:Bool):List PV:=[.int .i64 s.q,.int .i64 s.da,.int .i64 s.db,.int .i64 s.dc,.int .i64 s.va,.int .i64 s.vb,.int .i64 s.vc,.int .i64 s.vd,.ptr w 0 0,.int .i64 c.t,.int .i64 c.s,.bool c.i,.bool c.n,.ptr mi 0 0,.bool hl]
def tB(s:St)(w:Nat)(c:Cx)(mi:Nat)(hl:Bool):Blk:=⟨276,0,tC s w c mi hl⟩
theorem zA(s:St)(w:Nat)(c:Cx)(mi:Nat)(hl:Bool):(tB s w c mi hl).ver=0:=rfl
theorem zC(s:St)(w:Nat)(c:Cx)(mi:Nat)(hl:Bool):(tB s w c mi hl).cells=tC s w c mi hl:=rfl
theorem zet(s:St)(w:Nat)(c:Cx)(mi:Nat)(hl:Bool):(tB s w c mi hl).e=276:=rfl
theorem zaC(m:Mb):(mB m).ver=0:=rfl
theorem zaG(m:Mb):(mB m).cells=mbc m:=rfl
theorem zbY(m:Mb):(mB m).e=149:=rfl
def tG(H:za)(i:Nat)(p:List UInt8)(n a:Nat)(X:za)(B4 B5:Blk):za:=H.set i (rA p n a)++(X++[B4,B5])
section
variable (H:za) (i:Nat) (p:List UInt8) (n a:Nat) (X:za) (B4 B5:Blk)
theorem zlE(hi:i<H.length):(tG H i p n a X B4 B5)[i]? =some (rA p n a):=by unfold tG;rw[List.getElem?_append_left (by simpa using hi)];simp[hi]
theorem zgV(hi:i<H.length)(a':Nat):(tG H i p n a X B4 B5).set i (rA p n a')=tG H i p n a' X B4 B5:=by unfold tG;rw[List.set_append_left _ _ (by simpa using hi),List.set_set]
theorem zkm(hX:X.length=4):(tG H i p n a X B4 B5)[H.length+4]? =some B4:=by unfold tG;rw[qD sp,qH,show H.length+4 - H.length=4 from om,qD om,hX];rfl
theorem ziY(hX:X.length=4):(tG H i p n a X B4 B5)[H.length+5]? =some B5:=by unfold tG;rw[qD sp,qH,show H.length+5 - H.length=5 from om,qD om,hX];rfl
theorem zgX(hX:X.length=4)(B:Blk):(tG H i p n a X B4 B5).set (H.length+4) B=tG H i p n a X B B5:=by unfold tG;rw[qE _ _ sp,qH,show H.length+4 - H.length=4 from om,qE _ _ om,hX];rfl
theorem zgW(hX:X.length=4)(B:Blk):(tG H i p n a X B4 B5).set (H.length+5) B=tG H i p n a X B4 B:=by unfold tG;rw[qE _ _ sp,qH,show H.length+5 - H.length=5 from om,qE _ _ om,hX];rfl
end
def rvF:Rr Bool→PV
 | .ok b _=>.tup [.bool b,.int .i64 0]
 | .er e _=>.tup [.bool false,.int .i64 ((e:Int)+1)]
section
variable (H:za) (i:Nat) (p:List UInt8) (n a:Nat) (X:za) (B4:Blk) (c:Cx) (s:St) (hl:Bool) (hi:i<H.length) (hX:X.length=4) (ha:a≤n) (hn:n≤8 * p.length) (hp:p.length≤100000000)
include hi hX ha hn hp
theorem zgU(pr:Int)(most:Nat)(hm:most≤4095)(hpr: -4095≤pr∧pr≤4095):CallOk Tryz.prog 264 [.ptr (H.length+5) 0 0,.int .i64 pr,.int .i64 (most:Int)] (tG H i p n a X B4 (tB s i c (H.length+4) hl)) (rvS (tkD p n pr most a)) (tG H i p n (tkD p n pr most a).at X B4 (tB s i c (H.length+4) hl)):=by
 have g5:=fun a=>ziY H i p n a X B4 (tB s i c (H.length+4) hl) hX;have gi:=zlE H i p n a X B4 (tB s i c (H.length+4) hl) hi;have pc8:(tC s i c (H.length+4) hl)[8]? =some (.ptr i 0 0):=rfl;have t:=ziS i p n a _ gi ha hn hp;have wo:=fun x K=>zfs x most K om;rw[zgV _ _ _ _ _ _ _ _ hi]at t;unfold tkD;cases hs:tkS p n a with
 | er e a1=>
  rw[hs]at t;simp only[Rr.bind,rvS,Rr.at]at t ⊢;have he:=(zeL hs).2;have d0:((e:Int)+1 !=0)=true:=by simp;omega
  generalize tG H i p n a1 X B4 (tB s i c (H.length+4) hl)=Hz at *;refine CallOk.go Tryz.func264 Tryz.ntmps264 Tryz.results264 ?_;refine PW.e ?_;refine PW.f (fun K k=>by simp(disch:=omega) only[go_sem,↓reduceIte,reduceCtorEq,g5,zA,zC,pc8];refine VCx.call (t) rfl ?_;simp(disch:=omega) only[go_sem,↓reduceIte,reduceCtorEq,g5,zA,zC,pc8];exact k) ?_;refine PW.g d0 ?_;refine PW.t ?_;refine PW.e ?_;exact PW.ret ⟨_,rfl,Fin.now⟩
 | ok d a1=>
  rw[hs]at t;have b:=(zcn hs ha).1;simp only[Rr.bind,rvS,Rr.at]at t;have wd:=fun K=>wo (pr+d) K;refine CallOk.go Tryz.func264 Tryz.ntmps264 Tryz.results264 ?_;refine PW.e ?_;refine PW.f (fun K k=>by simp(disch:=omega) only[go_sem,↓reduceIte,reduceCtorEq,g5,zA,zC,pc8];refine VCx.call (t) rfl ?_;simp(disch:=omega) only[go_sem,↓reduceIte,reduceCtorEq,g5,zA,zC,pc8];exact k) ?_;refine PW.e ?_;refine PW.us ?_;simp only[Rr.bind];cases hw:win (pr+d) most with
  | true=>
   rw[hw]at wd;(repeat refine PW.seq ?_);refine PW.rg rfl fun K hK=> ?_;simp(disch:=omega) only[go_sem,↓reduceIte,reduceCtorEq];refine VCx.call (wd _) rfl ?_;simp(disch:=omega) only[go_sem,↓reduceIte,reduceCtorEq];refine hK _ _ ?_;clear hK K;refine PW.us ?_;refine PW.e ?_;exact PW.ret ⟨_,rfl,Fin.now⟩
  | false=>rw[hw]at wd;(repeat refine PW.seq ?_);refine PW.rg rfl fun K hK=> ?_;simp(disch:=omega) only[go_sem,↓reduceIte,reduceCtorEq];refine VCx.call (wd _) rfl ?_;simp(disch:=omega) only[go_sem,↓reduceIte,reduceCtorEq];refine hK _ _ ?_;clear hK K;refine PW.t ?_;refine PW.e ?_;exact PW.ret ⟨_,rfl,Fin.now⟩
end
end Go.Proofs.YtpjlfoficnpfoaaGreatDoor.Sc
namespace Go.Proofs.YtpjlfoficnpfoaaGreatDoor.Sc
set_option linter.all false
open Pm Ty Go.RowKit
theorem zhz(m:Mb)(x:Int):(mbc m).set 0 (.int .i64 x)=mbc { m with k:=x }:=rfl
theorem zqz(m:Mb)(x y:Bool):qF 1 (mbc m)++ .bool x:: .bool y::qG 3 (mbc m)=mbc { m with ua:=x,ub:=y }:=rfl
theorem zsR(m:Mb)(b0 b1 b2 b3 b4 b5:Bool):qF 18 (mbc m)++ .bool b0:: .bool b1:: .bool b2:: .bool b3:: .bool b4:: .bool b5::qG 24 (mbc m)=mbc { m with ca:=b0,cb:=b1,cc:=b2,cd:=b3,ce:=b4,cf:=b5 }:=rfl
theorem zba(m:Mb):(⟨149,0,mbc m⟩:Blk)=mB m:=rfl
theorem zb7(s:St)(w:Nat)(c:Cx)(mi:Nat)(hl:Bool):(⟨276,0,tC s w c mi hl⟩:Blk)=tB s w c mi hl:=rfl
theorem ztK(s:St)(w:Nat)(c:Cx)(mi:Nat)(hl b:Bool):(tC s w c mi hl).set 14 (.bool b)=tC s w c mi b:=rfl
theorem zau(s:St)(w:Nat)(c:Cx)(mi:Nat)(hl:Bool):(tC s w c mi hl)[13]? =some (.ptr mi 0 0):=rfl
theorem zcs(s:St)(w:Nat)(c:Cx)(mi:Nat)(hl:Bool):(tC s w c mi hl)[8]? =some (.ptr w 0 0):=rfl
theorem zsd(s:St)(w:Nat)(c:Cx)(mi:Nat)(hl:Bool):(tC s w c mi hl)[9]? =some (.int .i64 c.t):=rfl
theorem zpj(s:St)(w:Nat)(c:Cx)(mi:Nat)(hl:Bool):qF 4 (qG 9 (tC s w c mi hl))=cxc c:=rfl
theorem zkn(s:St)(w:Nat)(c:Cx)(mi:Nat)(hl:Bool):(tC s w c mi hl)[14]? =some (.bool hl):=rfl
theorem zah(s:St)(w:Nat)(c:Cx)(mi:Nat)(hl:Bool):(tC s w c mi hl).length=15:=rfl
theorem ztt(H:za):CallOk Tryz.prog 201 [] H (.agg [.bool true,.bool true,.bool true,.bool true,.bool true,.bool true]) H:=by refine CallOk.go Tryz.func201 Tryz.ntmps201 Tryz.results201 ?_;refine PW.e ?_;refine PW.e ?_;refine PW.v (.agg [.bool true,.bool true,.bool true,.bool true,.bool true,.bool true]) ?_;exact Fin.base (.id (zaB (zok _ [true,true,true,true,true,true])))
section
variable (H:za) (i:Nat) (p:List UInt8) (n a:Nat) (X:za) (c:Cx) (s:St) (hl:Bool) (hX:X.length=4)
include hX
theorem znJ(m:Mb)(hml:m.lv.length=384):CallOk Tryz.prog 255 [.ptr (H.length+5) 0 0] (tG H i p n a X (mB m) (tB s i c (H.length+4) hl)) (.tup []) (tG H i p n a X (mB { m with k:=1,ca:=true,cb:=true,cc:=true,cd:=true,ce:=true,cf:=true }) (tB s i c (H.length+4) true)):=by have g5:=fun B4 B5=>ziY H i p n a X B4 B5 hX;have g4:=fun B4 B5=>zkm H i p n a X B4 B5 hX;have s5:=fun B4 B5 B=>zgW H i p n a X B4 B5 hX B;have s4:=fun B4 B5 B=>zgX H i p n a X B4 B5 hX B;have hlen:=zw m hml;have al:=fun K=>ztt K;refine CallOk.go Tryz.func255 Tryz.ntmps255 Tryz.results255 ?_;refine PW.f (fun K k=>by simp(disch:=omega) only[go_sem,↓reduceIte,reduceCtorEq,g5,g4,s4,s5,zA,zC,zau,zaC,zaG,zbY,zhz,zba,hlen];exact k) ?_;have hlen2:=zw { m with k:=1 } hml;(repeat refine PW.seq ?_);refine PW.draw mix kr fun K hK=> ?_;simp(disch:=omega) only[go_sem,↓reduceIte,reduceCtorEq,g5,g4,s4,s5,zA,zC,zau,zaC,zaG,zbY,zba,hlen2];refine VCy.callP al rfl ?_;simp(disch:=omega) only[go_sem,↓reduceIte,reduceCtorEq,g5,g4,s4,s5,zA,zC,zau,zaC,zaG,zbY,zba,hlen2,zsR,qA];refine hK _ _ ?_;clear hK K;refine PW.f (fun K k=>by simp(disch:=omega) only[go_sem,↓reduceIte,reduceCtorEq,g5,g4,s4,s5,zA,zC,zet,zau,ztK,zah,zb7];exact k) ?_;exact Exists.intro _ (And.intro rfl Fin.now)
end
def ecd:Nat→PV:=fun e=>.int .i64 ((e:Int)+1)
theorem zai:zl384.length=384:=by unfold zl384;exact List.length_replicate
section
variable (H:za) (i:Nat) (p:List UInt8) (n a:Nat) (X:za) (c:Cx) (s:St) (hi:i<H.length) (hX:X.length=4) (ha:a≤n) (hn:n≤8 * p.length) (hp:p.length≤100000000)
include hi hX ha hn hp
theorem zo2:CallOk Tryz.prog 180 [.ptr (H.length+5) 0 0] (tG H i p n a X (mB zMb) (tB s i c (H.length+4) false))
  (match zbW c p n a with| .ok _ _=>.int .i64 0| .er e _=>ecd e)
  (match zbW c p n a with| .ok x a1=>tG H i p n a1 X (mB x.1) (tB s i c (H.length+4) x.2)| .er _ a1=>tG H i p n a1 X (mB zMb) (tB s i c (H.length+4) false)):=by
 have g5:=fun a B4 B5=>ziY H i p n a X B4 B5 hX;have g4:=fun a B4 B5=>zkm H i p n a X B4 B5 hX;have s5:=fun a B4 B5 B=>zgW H i p n a X B4 B5 hX B;have s4:=fun a B4 B5 B=>zgX H i p n a X B4 B5 hX B;have ti:=fun a=>znJ H i p n a X c s false hX zMb zai;have hzl:=zw zMb zai;refine CallOk.go Tryz.func180 Tryz.ntmps180 Tryz.results180 ?_;refine PW.e ?_;by_cases ht1:c.t=1
 ·have q1:(c.t==1)=true:=by simp[ht1]
  refine PW.f (fun K k=>by simp(disch:=omega) only[go_sem,↓reduceIte,reduceCtorEq,g5,zA,zC,zsd,q1];exact k) ?_;refine PW.t ?_;refine PW.k ti ?_;refine PW.e ?_;refine PW.ret ⟨_,rfl,?_⟩;have hk:zbW c p n a= .ok (inMb,true) a:=by unfold zbW;rw[if_pos ht1]
  rw[hk];exact Fin.now
 have q1:(c.t==1)=false:=by simp[ht1]
 have tu:=ziR i p n a _ (zlE H i p n a X (mB zMb) (tB s i c (H.length+4) false) hi) ha hn hp;rw[zgV _ _ _ _ _ _ _ _ hi]at tu;have hk:zbW c p n a=(tkU p n a).bind fun v a1=>if(if c.t=2 then 3 else 7)<v then .er 2 a1 else if v=(if c.t=2 then 3 else 7)then .ok (inMb,true) a1 else if v=0 then .ok (zMb,false) a1 else .ok (zn8 v,decide (v%2=0)) a1:=by unfold zbW;rw[if_neg ht1]
 refine PW.f (fun K k=>by simp(disch:=omega) only[go_sem,↓reduceIte,reduceCtorEq,g5,zA,zC,zsd,q1];exact k) ?_;refine PW.us ?_;cases hu:tkU p n a with
 | er e a1=>
  rw[hu]at tu hk;rw[hk];simp only[rvU,Rr.at,Rr.bind]at tu ⊢;have d0:((e:Int)+1 !=0)=true:=by simp;omega
  have he:=(zf7 hu).2;refine PW.f (fun K k=>by simp(disch:=omega) only[go_sem,↓reduceIte,reduceCtorEq,g5,zA,zC,zcs];refine VCx.call (tu) rfl ?_;simp(disch:=omega) only[go_sem,↓reduceIte,reduceCtorEq,g5,zA,zC,zcs];exact k) ?_;refine PW.g d0 ?_;refine PW.t ?_;refine PW.e ?_;exact PW.ret ⟨_,rfl,Fin.now⟩
 | ok v a1=>
  have hb:=zdh hu ha;rw[hu]at tu hk;rw[hk];simp only[rvU,Rr.at,Rr.bind]at tu ⊢;clear hk hu;refine PW.f (fun K k=>by simp(disch:=omega) only[go_sem,↓reduceIte,reduceCtorEq,g5,zA,zC,zcs];refine VCx.call (tu) rfl ?_;simp(disch:=omega) only[go_sem,↓reduceIte,reduceCtorEq,g5,zA,zC,zcs];exact k) ?_;refine PW.e ?_;refine PW.us ?_;refine PW.e ?_;refine PW.to [0,3,5] [(0,.ptr (H.length+5) 0 0),(3,.int .i64 (v:Int)),(5,.int .i64 ((if c.t=2 then 3 else 7:Nat):Int))] (tG H i p n a1 X (mB zMb) (tB s i c (H.length+4) false)) ?_ ?_
  ·by_cases ht2:c.t=2
   ·have q2:(c.t==2)=true:=by simp[ht2]
    rw[if_pos ht2];refine PW.f (fun K k=>by simp(disch:=omega) only[go_sem,↓reduceIte,reduceCtorEq,g5,zA,zC,zsd,q2];exact k) ?_;refine PW.t ?_;refine PW.e ?_;exact⟨rfl,rfl⟩
   ·have q2:(c.t==2)=false:=by simp[ht2]
    rw[if_neg ht2];refine PW.f (fun K k=>by simp(disch:=omega) only[go_sem,↓reduceIte,reduceCtorEq,g5,zA,zC,zsd,q2];exact k) ?_;refine PW.u ?_;exact PW.skip ⟨rfl,rfl⟩
  have hL:(if c.t=2 then 3 else 7:Nat)≤7:=by split<;>omega
  have hL0:3≤(if c.t=2 then 3 else 7:Nat):=by split<;>omega
  generalize (if c.t=2 then 3 else 7:Nat)=last at *;refine PW.b ?_;by_cases h1:last<v
  ·have d1:decide ((last:Int)<(v:Int))=true:=decide_eq_true om;rw[if_pos h1];refine PW.g d1 ?_;refine PW.t ?_;refine PW.e ?_;exact PW.ret ⟨_,rfl,Fin.now⟩
  have d1:decide ((last:Int)<(v:Int))=false:=decide_eq_false om;rw[if_neg h1];refine PW.g d1 ?_;refine PW.u ?_;by_cases h2:v=last
  ·have d2:((v:Int)==(last:Int))=true:=by simp[h2]
   rw[if_pos h2];refine PW.g d2 ?_;refine PW.t ?_;refine PW.k ti ?_;refine PW.e ?_;exact PW.ret ⟨_,rfl,Fin.now⟩
  have d2:((v:Int)==(last:Int))=false:=by rw[beq_eq_false_iff_ne];omega
  rw[if_neg h2];refine PW.g d2 ?_;refine PW.u ?_;by_cases h3:v=0
  ·have d3:decide ((0:Int)<(v:Int))=false:=decide_eq_false om;rw[if_pos h3];refine PW.g d3 ?_;refine PW.us ?_;refine PW.e ?_;exact PW.ret ⟨_,rfl,Fin.now⟩
  have d3:decide ((0:Int)<(v:Int))=true:=decide_eq_true om;rw[if_neg h3];refine PW.g d3 ?_;refine PW.t ?_;have hv7:v<7:=om;have h6:v=1∨v=2∨v=3∨v=4∨v=5∨v=6:=om;have hm6:mbc { zMb with k:=2 }=mbc { zMb with k:=2 }:=rfl;have hzl2:=zw { zMb with k:=2 } zai;clear h1 h2 h3 d1 d2 d3 hb hL hL0 tu;refine PW.f (fun K k=>by simp(disch:=omega) only[go_sem,↓reduceIte,reduceCtorEq,g5,g4,s4,s5,zA,zC,zau,zaC,zaG,zbY,zhz,zba,hzl];exact k) ?_;rcases h6 with rfl|rfl|rfl|rfl|rfl|rfl;all_goals
   refine PW.f (fun K k=>by simp(disch:=omega) only[go_sem,↓reduceIte,reduceCtorEq,g5,g4,s4,s5,zA,zC,zau,zaC,zaG,zbY,zqz,zba,hzl2,qA];exact k) ?_;refine PW.f (fun K k=>by simp(disch:=omega) only[go_sem,↓reduceIte,reduceCtorEq,g5,s5,zA,zC,zet,ztK,zah,zb7];exact k) ?_;refine PW.e ?_;exact PW.ret ⟨_,rfl,Fin.now⟩
end
end Go.Proofs.YtpjlfoficnpfoaaGreatDoor.Sc
namespace Go.Proofs.YtpjlfoficnpfoaaGreatDoor.Sc
set_option linter.all false
open Pm Ty Go.RowKit
theorem tC_x(s:St)(w:Nat)(c:Cx)(mi:Nat)(hl:Bool)(d:Nat)(hd:d<2):(tC s w c mi hl)[4+d * 2]? =some (.int .i64 (sXs s d)):=by have:d=0∨d=1:=om;rcases this with rfl|rfl<;>rfl
theorem tC_y(s:St)(w:Nat)(c:Cx)(mi:Nat)(hl:Bool)(d:Nat)(hd:d<2):(tC s w c mi hl)[4+d * 2+1]? =some (.int .i64 (sYs s d)):=by have:d=0∨d=1:=om;rcases this with rfl|rfl<;>rfl
theorem zwq(s:St)(w:Nat)(c:Cx)(mi:Nat)(hl:Bool)(d:Nat)(hd:d<2)(x:Int):(tC s w c mi hl).set (4+d * 2) (.int .i64 x)=tC (zbg s d x (sYs s d)) w c mi hl:=by have:d=0∨d=1:=om;rcases this with rfl|rfl<;>rfl
theorem zwp(s:St)(w:Nat)(c:Cx)(mi:Nat)(hl:Bool)(d:Nat)(hd:d<2)(y:Int):(tC s w c mi hl).set (4+d * 2+1) (.int .i64 y)=tC (zbg s d (sXs s d) y) w c mi hl:=by have:d=0∨d=1:=om;rcases this with rfl|rfl<;>rfl
theorem tC_v(s:St)(w:Nat)(c:Cx)(mi:Nat)(hl:Bool)(d:Nat)(hd:d<2):qF 2 (qG (4+d * 2) (tC s w c mi hl))=[.int .i64 (sXs s d),.int .i64 (sYs s d)]:=by have:d=0∨d=1:=om;rcases this with rfl|rfl<;>rfl
theorem zuU(s:St)(d:Nat)(x y z:Int):zbg (zbg s d x y) d x z=zbg s d x z:=by unfold zbg;split<;>rfl
theorem zpx(s:St)(d:Nat)(x y:Int):sXs (zbg s d x y) d=x:=by unfold zbg sXs;split<;>rfl
theorem zpw(s:St)(d:Nat)(x y:Int):sYs (zbg s d x y) d=y:=by unfold zbg sYs;split<;>rfl
theorem zqA(m:Mb)(d k:Nat)(hd:d<2)(hk:k<2)(x:Int):(mbc m).set (13+d * 2+k) (.int .i64 x)=mbc (zej m d k x):=by have h1:d=0∨d=1:=om;have h2:k=0∨k=1:=om;rcases h1 with rfl|rfl<;>rcases h2 with rfl|rfl<;>rfl
theorem zvl(m:Mb)(d k:Nat)(hd:d<2)(hk:k<2)(x y:Int):qF (5+d * 4+k * 2) (mbc m)++ .int .i64 x:: .int .i64 y::qG (5+d * 4+k * 2+(1+1)) (mbc m)=mbc (zaJ m d k x y):=by have h1:d=0∨d=1:=om;have h2:k=0∨k=1:=om;rcases h1 with rfl|rfl<;>rcases h2 with rfl|rfl<;>rfl
theorem zpy(m:Mb)(d k:Nat)(x:Int):(zej m d k x).lv=m.lv:=by unfold zej;split<;>split<;>rfl
theorem zdz(m:Mb)(d k:Nat)(x y:Int):(zaJ m d k x y).lv=m.lv:=by unfold zaJ;split<;>split<;>rfl
def znZ(H:za)(i:Nat)(p:List UInt8)(n:Nat)(X:za)(c:Cx)(hl:Bool)(x:Rr (Mb×St)):PV→za→Prop:=fun v H'=>
 match x with
 | .ok y a=>v= .int .i64 0∧H'=tG H i p n a X (mB y.1) (tB y.2 i c (H.length+4) hl)
 | .er e _=>v=ecd e∧∃ a m s,a≤n∧m.lv.length=384∧H'=tG H i p n a X (mB m) (tB s i c (H.length+4) hl)
section
variable (H:za) (i:Nat) (p:List UInt8) (n:Nat) (X:za) (c:Cx) (hl:Bool) (hi:i<H.length) (hX:X.length=4) (hn:n≤8 * p.length) (hp:p.length≤100000000)
include hi hX hn hp
set_option maxHeartbeats 2000000 in
theorem zr3(m:Mb)(s:St)(d k a:Nat)(hd:d<2)(hk:k<2)(hml:m.lv.length=384)(hs:vrS s)(ha:a≤n):CallEx Tryz.prog 260 [.ptr (H.length+5) 0 0,.int .i64 (d:Int),.int .i64 (k:Int)] (tG H i p n a X (mB m) (tB s i c (H.length+4) hl)) (znZ H i p n X c hl (zcT c p n m s d k a)):=by
 have g5:=fun a B4 B5=>ziY H i p n a X B4 B5 hX;have g4:=fun a B4 B5=>zkm H i p n a X B4 B5 hX;have s5:=fun a B4 B5 B=>zgW H i p n a X B4 B5 hX B;have s4:=fun a B4 B5 B=>zgX H i p n a X B4 B5 hX B;have gi:=fun a B4 B5=>zlE H i p n a X B4 B5 hi;have si:=fun a B4 B5 a'=>zgV H i p n a X B4 B5 hi a';have hlen:=zw m hml;have se:=zuZ c m (H.length+4) _ (g4 a (mB m) (tB s i c (H.length+4) hl));have tx:=fun s=>tC_x s i c (H.length+4) hl d hd;have ty:=fun s=>tC_y s i c (H.length+4) hl d hd;have tsx:=fun s=>zwq s i c (H.length+4) hl d hd;have tsy:=fun s=>zwp s i c (H.length+4) hl d hd;have tv:=fun s=>tC_v s i c (H.length+4) hl d hd;generalize hres:zcT c p n m s d k a=res;unfold zcT at hres;refine CallEx.body (F0:=[(0,.ptr (H.length+5) 0 0),(1,.int .i64 (d:Int)),(2,.int .i64 (k:Int))]) Tryz.func260 rfl Tryz.ntmps260 Tryz.results260 rfl kr rfl ?_;refine PW.e ?_;(repeat refine PW.seq ?_);refine PW.drawt [] [] mix kr fun K hK=> ?_;simp(maxSteps:=3000000) (disch:=omega) only[go_sem,↓reduceIte,reduceCtorEq,g5,zA,zC,zpj,zau,zah,qA,qB];refine VCj.now (se) rfl ?_;simp(maxSteps:=3000000) (disch:=omega) only[go_sem,↓reduceIte,reduceCtorEq];refine hK _ _ ?_;clear hK K;suffices hrest:∀(m:Mb) (a:Nat),m.lv.length=384→a≤n→((tkD p n (sXs s d) 63 a).bind fun x a2=>(tkD p n (sYs s d) 63 a2).bind fun y a3=>.ok (zaJ m d k x y,zbg s d x y) a3)=res→
   PW Tryz.prog _ _ [(0,.ptr (H.length+5) 0 0),(1,.int .i64 (d:Int)),(2,.int .i64 (k:Int))] (tG H i p n a X (mB m) (tB s i c (H.length+4) hl)) _ by
  cases hsel:(m.fp||fcx c)with
  | false=>
   rw[hsel,if_neg (by decide),Rr.bind_ok]at hres;refine PW.us ?_;exact PW.at [0,1,2] (hrest m a hml ha hres) rfl rfl
  | true=>
   rw[hsel,if_pos rfl]at hres;refine PW.t ?_;by_cases han:a<n
   ·have hf:tkF p n a= .ok (decide (zN p a=1)) (a+1):=by unfold tkF;rw[if_pos han]
    rw[hf,Rr.bind_ok,Rr.bind_ok]at hres;have hub:=zbV p a;have t:=zdB i p n a 1 _ (gi a (mB m) (tB s i c (H.length+4) hl)) om hn hp om;rw[si,show vl p a 1=zN p a by simp[vl]]at t;have hbn:((decide (zN p a=1)).toNat:Int)=(zN p a:Int):=by have:zN p a=0∨zN p a=1:=om;rcases this with e|e<;>rw[e]<;>rfl
    rw[hbn]at hres;have hst:=zqA m d k hd hk (zN p a:Int);refine PW.f (fun K k=>by simp(maxSteps:=3000000) (disch:=omega) only[go_sem,↓reduceIte,reduceCtorEq,g5,zA,zC,zcs];refine VCx.call (t) rfl ?_;simp(maxSteps:=3000000) (disch:=omega) only[go_sem,↓reduceIte,reduceCtorEq,g5,zA,zC,zcs];exact k) ?_;refine PW.e ?_;refine PW.us ?_;refine PW.f (fun K k=>by simp(maxSteps:=3000000) (disch:=omega) only[go_sem,↓reduceIte,reduceCtorEq,g5,g4,s4,zA,zC,zau,zaC,zaG,zbY,hlen,hst,zba];exact k) ?_;exact PW.at [0,1,2] (hrest _ (a+1) (by rw[zpy];exact hml) om hres) rfl rfl
   ·have hf:tkF p n a= .er 3 a:=by unfold tkF;rw[if_neg han]
    rw[hf,Rr.bind_er,Rr.bind_er]at hres;have t:=zbG i p n a 1 _ (gi a (mB m) (tB s i c (H.length+4) hl)) om om om om;refine PW.f (fun K k=>by simp(maxSteps:=3000000) (disch:=omega) only[go_sem,↓reduceIte,reduceCtorEq,g5,zA,zC,zcs];refine VCx.call (t) rfl ?_;simp(maxSteps:=3000000) (disch:=omega) only[go_sem,↓reduceIte,reduceCtorEq,g5,zA,zC,zcs];exact k) ?_;refine PW.e ?_;refine PW.t ?_;refine PW.e ?_;refine PW.ret ⟨_,rfl,.inl ?_⟩;rw[←hres];exact⟨rfl,a,m,s,ha,hml,rfl⟩
 clear hres ha hml hlen se;intro m a hml ha hres;have hlen:=zw m hml;have hsd:=hs d;refine PW.f (fun K k=>by simp(maxSteps:=3000000) (disch:=omega) only[go_sem,↓reduceIte,reduceCtorEq,g5,zA];exact k) ?_;have t1:=zgU H i p n a X (mB m) c s hl hi hX ha hn hp (sXs s d) 63 om om;cases h1:tkD p n (sXs s d) 63 a with
 | er e a1=>
  have hb:=zpb h1 ha;rw[h1]at t1 hres;simp only[rvS,Rr.at,Rr.bind]at t1 hres;have d0:((e:Int)+1 !=0)=true:=by simp;omega
  refine PW.f (fun K k=>by simp(maxSteps:=3000000) (disch:=omega) only[go_sem,↓reduceIte,reduceCtorEq,g5,zA,zC,tx,s5,tsx,zet,zb7,zah];refine VCx.call (t1) rfl ?_;simp(maxSteps:=3000000) (disch:=omega) only[go_sem,↓reduceIte,reduceCtorEq,g5,zA,zC,tx,s5,tsx,zet,zb7,zah];exact k) ?_;refine PW.g d0 ?_;refine PW.t ?_;refine PW.e ?_;refine PW.ret ⟨_,rfl,.inl ?_⟩;rw[←hres];exact⟨rfl,a1,m,_,hb.2.1,hml,rfl⟩
 | ok x a1=>
  have hb:=zgQ h1 ha;rw[h1]at t1 hres;simp only[rvS,Rr.at]at t1;rw[Rr.bind_ok]at hres;refine PW.f (fun K k=>by simp(maxSteps:=3000000) (disch:=omega) only[go_sem,↓reduceIte,reduceCtorEq,g5,zA,zC,tx,s5,tsx,zet,zb7,zah];refine VCx.call (t1) rfl ?_;simp(maxSteps:=3000000) (disch:=omega) only[go_sem,↓reduceIte,reduceCtorEq,g5,zA,zC,tx,s5,tsx,zet,zb7,zah];exact k) ?_;refine PW.e ?_;refine PW.us ?_;have t2:=zgU H i p n a1 X (mB m) c (zbg s d x (sYs s d)) hl hi hX hb.2.2 hn hp (sYs s d) 63 om om;have ty2:=ty (zbg s d x (sYs s d));rw[zpw]at ty2;have tsy2:=tsy (zbg s d x (sYs s d));rw[zpx]at tsy2;simp only[zuU]at tsy2;cases h2:tkD p n (sYs s d) 63 a1 with
  | er e a2=>
   have hb2:=zpb h2 hb.2.2;rw[h2]at t2 hres;simp only[rvS,Rr.at,Rr.bind]at t2 hres;have d0:((e:Int)+1 !=0)=true:=by simp;omega
   refine PW.f (fun K k=>by simp(maxSteps:=3000000) (disch:=omega) only[go_sem,↓reduceIte,reduceCtorEq,g5,zA,zC,ty2,s5,tsy2,zet,zb7,zah];refine VCx.call (t2) rfl ?_;simp(maxSteps:=3000000) (disch:=omega) only[go_sem,↓reduceIte,reduceCtorEq,g5,zA,zC,ty2,s5,tsy2,zet,zb7,zah];exact k) ?_;refine PW.g d0 ?_;refine PW.t ?_;refine PW.e ?_;refine PW.ret ⟨_,rfl,.inl ?_⟩;rw[←hres];exact⟨rfl,a2,m,_,hb2.2.1,hml,rfl⟩
  | ok y a2=>have hb2:=zgQ h2 hb.2.2;rw[h2]at t2 hres;simp only[rvS,Rr.at]at t2;rw[Rr.bind_ok]at hres;have tv2:=tv (zbg s d x y);rw[zpx,zpw]at tv2;have hsv:=zvl m d k hd hk x y;refine PW.f (fun K k=>by simp(maxSteps:=3000000) (disch:=omega) only[go_sem,↓reduceIte,reduceCtorEq,g5,zA,zC,ty2,s5,tsy2,zet,zb7,zah];refine VCx.call (t2) rfl ?_;simp(maxSteps:=3000000) (disch:=omega) only[go_sem,↓reduceIte,reduceCtorEq,g5,zA,zC,ty2,s5,tsy2,zet,zb7,zah];exact k) ?_;refine PW.e ?_;refine PW.us ?_;(repeat refine PW.seq ?_);refine PW.drawi [H.length+4] [(81,[0]),(87,[0]),(88,[0]),(89,[0]),(90,[0])] [] [] mix kr (by simp<;>omega) fun K hK=> ?_;simp(maxSteps:=3000000) (disch:=omega) only[go_sem,↓reduceIte,reduceCtorEq,g5,g4,s4,zA,zC,zau,zah,tv2,zaC,zaG,zbY,hlen,hsv,zba];refine hK _ _ ?_;clear hK K;refine PW.e ?_;refine PW.ret ⟨_,rfl,.inl ?_⟩;rw[←hres];exact⟨rfl,rfl⟩
end
end Go.Proofs.YtpjlfoficnpfoaaGreatDoor.Sc
namespace Go.Proofs.YtpjlfoficnpfoaaGreatDoor.Sc
set_option linter.all false
open Pm Ty Go.RowKit
theorem zfv(L:za)(ti i:Nat)(p:List UInt8)(n a:Nat)(c:Cx)(s:St)(mi:Nat)(hl:Bool)(hT:L[ti]? =some (tB s i c mi hl))(hR:L[i]? =some (rA p n a))(ha:a≤n)(hn:n≤8 * p.length)(hp:p.length≤100000000):
  CallOk Tryz.prog 258 [.ptr ti 0 0] L (rvF (tkF p n a)) (L.set i (rA p n (tkF p n a).at)):=by
 have hself:=zO hR;cases hf:tkF p n a with
 | ok b a1=>
  obtain⟨rfl,h2,rfl⟩:=zdi hf;have t:=zdB i p n a 1 _ hR om hn hp om;rw[show vl p a 1=zN p a by simp[vl]]at t;have e1:((zN p a:Int)==1)=decide (zN p a=1):=by rw[qC];simp;omega
  simp only[rvF,Rr.at];generalize L.set i (rA p n (a+1))=Hz at *;refine CallOk.go Tryz.func258 Tryz.ntmps258 Tryz.results258 ?_;refine PW.e ?_;refine PW.f (fun K k=>by simp(maxSteps:=3000000) (disch:=omega) only[go_sem,↓reduceIte,reduceCtorEq,hT,zA,zC,zcs];refine VCx.call (t) rfl ?_;simp(maxSteps:=3000000) (disch:=omega) only[go_sem,↓reduceIte,reduceCtorEq,hT,zA,zC,zcs];exact k) ?_;refine PW.g e1 ?_;exact PW.ret ⟨_,rfl,Fin.now⟩
 | er e a1=>obtain⟨rfl,rfl,h2⟩:=zf8 hf;have t:=zbG i p n a1 1 _ hR om om om om;simp only[rvF,Rr.at,hself];refine CallOk.go Tryz.func258 Tryz.ntmps258 Tryz.results258 ?_;refine PW.e ?_;refine PW.f (fun K k=>by simp(maxSteps:=3000000) (disch:=omega) only[go_sem,↓reduceIte,reduceCtorEq,hT,zA,zC,zcs];refine VCx.call (t) rfl ?_;simp(maxSteps:=3000000) (disch:=omega) only[go_sem,↓reduceIte,reduceCtorEq,hT,zA,zC,zcs];exact k) ?_;refine PW.e ?_;exact PW.ret ⟨_,rfl,Fin.now⟩
theorem zjs(m:Mb)(b:Bool):(mbc m).set 3 (.bool b)=mbc { m with fp:=b }:=rfl
theorem zju(m:Mb)(b:Bool):(mbc m).set 4 (.bool b)=mbc { m with fd:=b }:=rfl
theorem zdn(m:Mb):(mbc m)[0]? =some (.int .i64 m.k):=rfl
theorem zvg(m:Mb):qF 2 (qG 1 (mbc m))=[.bool m.ua,.bool m.ub]:=rfl
def SameU(m m':Mb):Prop:=m'.lv=m.lv∧m'.ua=m.ua∧m'.ub=m.ub∧m'.fp=m.fp∧m'.k=m.k
theorem SameU.refl(m:Mb):SameU m m:=⟨rfl,rfl,rfl,rfl,rfl⟩
theorem SameU.trans{a b c:Mb}(h:SameU a b)(k:SameU b c):SameU a c:=⟨k.1.trans h.1,k.2.1.trans h.2.1,k.2.2.1.trans h.2.2.1,k.2.2.2.1.trans h.2.2.2.1,k.2.2.2.2.trans h.2.2.2.2⟩
theorem zg2(m:Mb)(d k:Nat)(x:Int):SameU m (zej m d k x):=by unfold zej;split<;>split<;>exact⟨rfl,rfl,rfl,rfl,rfl⟩
theorem zg1(m:Mb)(d k:Nat)(x y:Int):SameU m (zaJ m d k x y):=by unfold zaJ;split<;>split<;>exact⟨rfl,rfl,rfl,rfl,rfl⟩
theorem zj2{s:St}(hs:vrS s)(d:Nat){x y:Int}(hx: -63≤x∧x≤63)(hy: -63≤y∧y≤63):vrS (zbg s d x y):=fun e=>by
 have h0:=hs 0;have h1:=hs 1;have he:=hs e;unfold zbg;split
 ·unfold sXs sYs;dsimp only;split
  ·exact⟨hx,hy⟩
  ·exact h1
 ·unfold sXs sYs;dsimp only;split
  ·exact h0
  ·exact⟨hx,hy⟩
theorem zo6{c:Cx}{p:List UInt8}{n:Nat}{m:Mb}{s:St}{d k a:Nat}{y:Mb×St}{a1:Nat}(h:zcT c p n m s d k a= .ok y a1)(ha:a≤n)(hs:vrS s):a1≤n∧SameU m y.1∧vrS y.2:=by
 unfold zcT at h;suffices hr:∀(m':Mb) (a':Nat),SameU m m'→a'≤n→((tkD p n (sXs s d) 63 a').bind fun x a2=>(tkD p n (sYs s d) 63 a2).bind fun y a3=>.ok (zaJ m' d k x y,zbg s d x y) a3)= .ok y a1→a1≤n∧SameU m y.1∧vrS y.2 by
  split at h
  ·cases hf:tkF p n a with
   | er e a2=>rw[hf]at h;cases h
   | ok b a2=>have:=zdi hf;rw[hf,Rr.bind_ok,Rr.bind_ok]at h;exact hr _ _ (zg2 m d k _) om h
  ·rw[Rr.bind_ok]at h;exact hr _ _ (.refl m) ha h
 intro m' a' hm' ha' h;cases h1:tkD p n (sXs s d) 63 a' with
 | er e a2=>rw[h1]at h;cases h
 | ok x a2=>
  have b1:=zgQ h1 ha';rw[h1,Rr.bind_ok]at h;cases h2:tkD p n (sYs s d) 63 a2 with
  | er e a3=>rw[h2]at h;cases h
  | ok z a3=>have b2:=zgQ h2 b1.2.2;rw[h2,Rr.bind_ok]at h;injection h with e1 e2;subst e1 e2;exact⟨b2.2.2,hm'.trans (zg1 _ _ _ _ _),zj2 hs d om om⟩
theorem zo5{c:Cx}{p:List UInt8}{n d:Nat}:∀(r k:Nat) (m:Mb) (s:St) (a:Nat) {y:Mb×St} {a1:Nat},zbO c p n d r k m s a= .ok y a1→a≤n→vrS s→a1≤n∧SameU m y.1∧vrS y.2
 | 0,k,m,s,a,y,a1,h,ha,hs=>by
  simp only[zbO]at h;injection h with e1 e2;subst e1 e2;exact⟨ha,.refl m,hs⟩
 | r+1,k,m,s,a,y,a1,h,ha,hs=>by
  simp only[zbO]at h;cases h1:zcT c p n m s d k a with
  | er e a2=>rw[h1]at h;cases h
  | ok x a2=>obtain⟨b1,b2,b3⟩:=zo6 h1 ha hs;rw[h1,Rr.bind_ok]at h;obtain⟨c1,c2,c3⟩:=zo5 r (k+1) x.1 x.2 a2 h b1 b3;exact⟨c1,b2.trans c2,c3⟩
theorem zuF{c:Cx}{p:List UInt8}{n d:Nat}{m:Mb}{s:St}{a:Nat}{y:Mb×St}{a1:Nat}(h:zeN c p n m s d a= .ok y a1)(ha:a≤n)(hs:vrS s):a1≤n∧SameU m y.1∧vrS y.2:=by
 unfold zeN at h;split at h
 ·exact zo5 _ _ _ _ _ h ha hs
 ·injection h with e1 e2;subst e1 e2;exact⟨ha,.refl m,hs⟩
section
variable (H:za) (i:Nat) (p:List UInt8) (n:Nat) (X:za) (c:Cx) (hl:Bool) (hi:i<H.length) (hX:X.length=4) (hn:n≤8 * p.length) (hp:p.length≤100000000)
include hi hX hn hp
set_option maxHeartbeats 4000000 in
theorem zo0(m:Mb)(s:St)(a:Nat)(hml:m.lv.length=384)(hs:vrS s)(ha:a≤n):CallEx Tryz.prog 181 [.ptr (H.length+5) 0 0] (tG H i p n a X (mB m) (tB s i c (H.length+4) hl)) (znZ H i p n X c hl (zbD c p n m s a)):=by
 have g5:=fun a B4 B5=>ziY H i p n a X B4 B5 hX;have g4:=fun a B4 B5=>zkm H i p n a X B4 B5 hX;have s5:=fun a B4 B5 B=>zgW H i p n a X B4 B5 hX B;have s4:=fun a B4 B5 B=>zgX H i p n a X B4 B5 hX B;have gi:=fun a B4 B5=>zlE H i p n a X B4 B5 hi;have si:=fun a B4 B5 a'=>zgV H i p n a X B4 B5 hi a';have hlen:=zw m hml;have bo:=fun K=>zrv c K;generalize hres:zbD c p n m s a=res;unfold zbD at hres;by_cases hk:m.k=2;rotate_left
 ·rw[if_neg hk]at hres;have d1:decide (m.k=2)=false:=decide_eq_false hk;have d2:(m.k !=2)=true:=by simp[hk]
  refine CallEx.body (F0:=[(0,.ptr (H.length+5) 0 0)]) Tryz.func181 rfl Tryz.ntmps181 Tryz.results181 rfl kr rfl ?_;refine PW.e ?_;refine PW.f (fun K k=>by simp(maxSteps:=3000000) (disch:=omega) only[go_sem,↓reduceIte,reduceCtorEq,g5,g4,zA,zC,zau,zaC,zaG,zdn,d2];exact k) ?_;refine PW.t ?_;refine PW.e ?_;refine PW.ret ⟨_,rfl,.inl ?_⟩;rw[←hres];exact⟨rfl,rfl⟩
 rw[if_pos hk]at hres;have d2:(m.k !=2)=false:=by simp[hk]
 refine CallEx.body (F0:=[(0,.ptr (H.length+5) 0 0)]) Tryz.func181 rfl Tryz.ntmps181 Tryz.results181 rfl kr rfl ?_;refine PW.e ?_;refine PW.f (fun K k=>by simp(maxSteps:=3000000) (disch:=omega) only[go_sem,↓reduceIte,reduceCtorEq,g5,g4,zA,zC,zau,zaC,zaG,zdn,d2];exact k) ?_;refine PW.us ?_;suffices hrest:∀(m:Mb) (a:Nat),m.lv.length=384→a≤n→zbu c p n 2 0 m s a=res→PW Tryz.prog _ _ [(0,.ptr (H.length+5) 0 0)] (tG H i p n a X (mB m) (tB s i c (H.length+4) hl)) _ by
  refine PW.f (fun K k=>by simp(maxSteps:=3000000) (disch:=omega) only[go_sem,↓reduceIte,reduceCtorEq,g5,zA,zC,zpj,zah,qA,qB];refine VCx.call (bo _) rfl ?_;simp(maxSteps:=3000000) (disch:=omega) only[go_sem,↓reduceIte,reduceCtorEq,g5,zA,zC,zpj,zah,qA,qB];exact k) ?_;cases hbv:bcx c with
  | false=>
   rw[hbv,if_neg (by decide),Rr.bind_ok]at hres;refine PW.us ?_;exact PW.at [0] (hrest m a hml ha hres) rfl rfl
  | true=>
   rw[hbv,if_pos rfl]at hres;refine PW.t ?_;(repeat refine PW.seq ?_);refine PW.drawi [i,H.length+4] [(24,[1]),(25,[0]),(29,[1]),(30,[1])] [] [] mix kr (by simp<;>omega) fun K hK=> ?_;simp(maxSteps:=3000000) (disch:=omega) only[go_sem,↓reduceIte,reduceCtorEq,g5,zA,zC,zau];refine VCj.wr1 (gi a (mB m) (tB s i c (H.length+4) hl)) (fun L hL hG=>zfv L (H.length+5) i p n a c s (H.length+4) hl ((hG.out _ (by simp;omega)).trans (g5 _ _ _)) hL ha hn hp) (by simp(maxSteps:=3000000) (disch:=omega) only[go_sem,↓reduceIte,reduceCtorEq]) (.inl rfl) rfl ?_;rw[si];cases hf:tkF p n a with
   | ok b a1=>
    obtain⟨rfl,h2,_⟩:=zdi hf;rw[hf,Rr.bind_ok,Rr.bind_ok]at hres;simp only[rvF,Rr.at];simp(maxSteps:=3000000) (disch:=omega) only[go_sem,↓reduceIte,reduceCtorEq,g4,s4,zaC,zaG,zbY,hlen,zjs,zba];refine hK _ _ ?_;clear hK K;refine PW.e ?_;refine PW.us ?_;exact PW.at [0] (hrest { m with fp:=b } (a+1) hml om hres) rfl rfl
   | er e a1=>obtain⟨rfl,rfl,h2⟩:=zf8 hf;rw[hf,Rr.bind_er,Rr.bind_er]at hres;simp only[rvF,Rr.at];simp(maxSteps:=3000000) (disch:=omega) only[go_sem,↓reduceIte,reduceCtorEq,g4,s4,zaC,zaG,zbY,hlen,zjs,zba];refine hK _ _ ?_;clear hK K;refine PW.e ?_;refine PW.t ?_;refine PW.e ?_;refine PW.ret ⟨_,rfl,.inl ?_⟩;rw[←hres];exact⟨rfl,a1,{ m with fp:=false },s,ha,hml,rfl⟩
 clear hres ha hml hlen;intro m a hml ha hres;have ve:=fun m1 s1 a1=>zrX m1 (H.length+4) _ (g4 a1 (mB m1) (tB s1 i c (H.length+4) hl));have vc:=fun m1 s1 d k a1 hd hk hml hs ha=>zr3 H i p n X c hl hi hX hn hp m1 s1 d k a1 hd hk hml hs ha;have hlen:=zw m hml;refine PW.f (fun K k=>by simp(maxSteps:=3000000) (disch:=omega) only[go_sem,↓reduceIte,reduceCtorEq,g5,g4,zA,zC,zau,zaC,zaG,zvg,hlen,qA,qB];exact k) ?_;refine PW.l ?_;suffices hl1:∀(d:Nat) (m1:Mb) (s1:St) (a1:Nat),d≤2→SameU m m1→vrS s1→a1≤n→zbu c p n (2 - d) d m1 s1 a1=res→PL Tryz.prog _ _ [(0,.ptr (H.length+5) 0 0),(40,.agg [.bool m.ua,.bool m.ub]),(41,.int .i64 (d:Int))] (tG H i p n a1 X (mB m1) (tB s1 i c (H.length+4) hl)) _ by exact PL.at [0,40,41] (hl1 0 m s a om (.refl m) hs ha hres) rfl rfl
 clear hres ha hlen hs;intro d m1 s1 a1 hd hm1 hs1 ha1 hres;induction hdd:2 - d using qI generalizing d m1 s1 a1 with
 | _ dd ih=>
  refine PL.round ?_;refine PW.e ?_;refine PW.c (fun h=> ?_) (fun h=> ?_);rotate_left
  ·have h6:d=2:=ofF h;subst h6;refine PW.exit ?_;simp only[qJ,zbu]at hres;refine PW.e ?_;refine PW.ret ⟨_,rfl,.inl ?_⟩;rw[←hres];exact⟨rfl,rfl⟩
  have h6:d<2:=ot h;obtain⟨n',hn'⟩:∃ n',2 - d=n'+1:=⟨1 - d,om⟩;rw[hn',zbu]at hres;have hnx:=fun m1 s1 a1=>ih (2 - (d+1)) om (d+1) m1 s1 a1 om;rw[show 2 - (d+1)=n' from om]at hnx;have hus:([.bool m.ua,.bool m.ub]:List PV)[d]? =some (.bool (usd m1 d)):=by have:d=0∨d=1:=om;unfold usd;rw[hm1.2.1,hm1.2.2.1];rcases this with rfl|rfl<;>rfl
  have hdr:zeN c p n m1 s1 d a1=if usd m1 d then zbO c p n d (nvM m1) 0 m1 s1 a1 else .ok (m1,s1) a1:=rfl
  rw[hdr]at hres;refine PW.skip ?_;refine PW.b ?_;refine PW.g hus ?_;refine PW.e ?_;cases hu:usd m1 d with
  | false=>
   rw[hu,if_neg (by decide),Rr.bind_ok]at hres;refine PW.t ?_;refine PW.exit ?_;refine PW.e ?_;exact PL.at [0,40,41] (hnx m1 s1 a1 hm1 hs1 ha1 hres rfl) rfl rfl
  | true=>
   rw[hu,if_pos rfl]at hres;refine PW.us ?_;have vo:=ve m1 s1 a1;have env:(if m1.fp then(2:Int)else 1)=((nvM m:Nat):Int):=by unfold nvM;rw[hm1.2.2.2.1];cases m.fp<;>rfl
   have env2:nvM m1=nvM m:=by unfold nvM;rw[hm1.2.2.2.1]
   rw[env]at vo;rw[env2]at hres;refine PW.f (fun K k=>by simp(maxSteps:=3000000) (disch:=omega) only[go_sem,↓reduceIte,reduceCtorEq,g5,zA,zC,zau];refine VCx.call (vo) rfl ?_;simp(maxSteps:=3000000) (disch:=omega) only[go_sem,↓reduceIte,reduceCtorEq,g5,zA,zC,zau];exact k) ?_;refine PW.l ?_;suffices hl2:∀(k:Nat) (m2:Mb) (s2:St) (a2:Nat),k≤nvM m→SameU m m2→vrS s2→a2≤n→((zbO c p n d (nvM m - k) k m2 s2 a2).bind fun x a1=>zbu c p n n' (d+1) x.1 x.2 a1)=res→
     PL Tryz.prog _ _ [(0,.ptr (H.length+5) 0 0),(3,.int .i64 (d:Int)),(40,.agg [.bool m.ua,.bool m.ub]),(41,.int .i64 (d:Int)),(51,.int .i64 (nvM m:Int)),(52,.int .i64 (k:Int))] (tG H i p n a2 X (mB m2) (tB s2 i c (H.length+4) hl)) _ by
    exact PL.at [0,3,40,41,51,52] (hl2 0 m1 s1 a1 om hm1 hs1 ha1 hres) rfl rfl
   clear ih hres hs1 ha1 vo hdr hu hus env env2 hm1;have hnv:=ztV m;intro k m2 s2 a2 hk2 hm2 hs2 ha2 hres;induction hkk:nvM m - k using qI generalizing k m2 s2 a2 with
   | _ kk ih2=>
    refine PL.round ?_;refine PW.e ?_;refine PW.c (fun h=> ?_) (fun h=> ?_);rotate_left
    ·have h7:k=nvM m:=ofF h;subst h7;refine PW.exit ?_;simp only[qJ,zbO,Rr.bind_ok]at hres;refine PW.e ?_;exact PL.at [0,40,41] (hnx m2 s2 a2 hm2 hs2 ha2 hres rfl) rfl rfl
    have h7:k<nvM m:=ot h;obtain⟨n2,hn2⟩:∃ n2,nvM m - k=n2+1:=⟨nvM m - k - 1,om⟩;rw[hn2,zbO,Rr.bind_bind]at hres;have hnx2:=fun m1 s1 a1=>ih2 (nvM m - (k+1)) om (k+1) m1 s1 a1 om;rw[show nvM m - (k+1)=n2 from om]at hnx2;clear ih2;have v1:=vc m2 s2 d k a2 h6 om (by rw[hm2.1];exact hml) hs2 ha2;refine PW.skip ?_;refine PW.b ?_;refine PW.e ?_;(repeat refine PW.seq ?_);refine PW.rg rfl fun K hK=> ?_;simp(maxSteps:=3000000) (disch:=omega) only[go_sem,↓reduceIte,reduceCtorEq];refine VCx.callR v1 rfl fun v H' hR=> ?_;cases hv:zcT c p n m2 s2 d k a2 with
    | er e a3=>
     rw[hv]at hR hres;obtain⟨rfl,a4,m4,s4',h1,h2,rfl⟩:=hR;rw[Rr.bind_er]at hres;have d0:((e:Int)+1 !=0)=true:=by simp;omega
     simp(maxSteps:=3000000) (disch:=omega) only[go_sem,↓reduceIte,reduceCtorEq,ecd];refine hK _ _ ?_;clear hK K;refine PW.g d0 ?_;refine PW.t ?_;refine PW.e ?_;refine PW.ret ⟨_,rfl,.inl ?_⟩;rw[←hres];exact⟨rfl,a4,m4,s4',h1,h2,rfl⟩
    | ok y a3=>obtain⟨b1,b2,b3⟩:=zo6 hv ha2 hs2;rw[hv]at hR hres;obtain⟨rfl,rfl⟩:=hR;rw[Rr.bind_ok]at hres;simp(maxSteps:=3000000) (disch:=omega) only[go_sem,↓reduceIte,reduceCtorEq];refine hK _ _ ?_;clear hK K;refine PW.e ?_;refine PW.us ?_;refine PW.e ?_;exact PL.at [0,3,40,41,51,52] (hnx2 y.1 y.2 a3 (hm2.trans b2) b3 b1 hres rfl) rfl rfl
end
end Go.Proofs.YtpjlfoficnpfoaaGreatDoor.Sc
namespace Go.Proofs.YtpjlfoficnpfoaaGreatDoor.Sc
set_option linter.all false
open Pm Ty Go.RowKit
theorem zjt(m:Mb)(x:Int):(mbc m).set 17 (.int .i64 x)=mbc { m with dl:=x }:=rfl
theorem zt0(m:Mb):(mbc m)[17]? =some (.int .i64 m.dl):=rfl
theorem zuH(s:St)(w:Nat)(c:Cx)(mi:Nat)(hl:Bool):(tC s w c mi hl)[0]? =some (.int .i64 s.q):=rfl
theorem zwr(s:St)(w:Nat)(c:Cx)(mi:Nat)(hl:Bool)(x:Int):(tC s w c mi hl).set 0 (.int .i64 x)=tC { s with q:=x } w c mi hl:=rfl
theorem zqB(m:Mb)(n:Nat)(b:Bool)(hn:n<6):(mbc m).set (18+n) (.bool b)=mbc (zbR m n b):=by have:n=0∨n=1∨n=2∨n=3∨n=4∨n=5:=om;rcases this with rfl|rfl|rfl|rfl|rfl|rfl<;>rfl
theorem zdA(m:Mb)(n:Nat)(b:Bool):(zbR m n b).lv=m.lv:=by
 unfold zbR;repeat' split
 all_goals rfl
theorem zqE(m:Mb):qF 6 (qG 18 (mbc m))=fs (cdl m):=rfl
theorem zw9(a b c d e f:Bool):zji Tryz.prog .eql 145 (.agg [.bool a,.bool b,.bool c,.bool d,.bool e,.bool f]) (.agg [.bool false,.bool false,.bool false,.bool false,.bool false,.bool false])=some (.bool ((a==false)&&((b==false)&&((c==false)&&((d==false)&&((e==false)&&((f==false)&&true))))))):=kr
theorem zxa(m:Mb):zji Tryz.prog .eql 145 (.agg (fs (cdl m))) (.agg [.bool false,.bool false,.bool false,.bool false,.bool false,.bool false])=some (.bool !zlm m):=by have:=zw9 m.ca m.cb m.cc m.cd m.ce m.cf;rw[show fs (cdl m)=[.bool m.ca,.bool m.cb,.bool m.cc,.bool m.cd,.bool m.ce,.bool m.cf]from rfl,this];unfold zlm;cases m.ca<;>cases m.cb<;>cases m.cc<;>cases m.cd<;>cases m.ce<;>cases m.cf<;>rfl
section
variable (H:za) (i:Nat) (p:List UInt8) (n:Nat) (X:za) (c:Cx) (hl:Bool) (hi:i<H.length) (hX:X.length=4) (hn:n≤8 * p.length) (hp:p.length≤100000000)
include hi hX hn hp
set_option maxHeartbeats 4000000 in
theorem zsc(m:Mb)(s:St)(a:Nat)(hml:m.lv.length=384)(hq:1≤s.q∧s.q≤31)(ha:a≤n):CallEx Tryz.prog 182 [.ptr (H.length+5) 0 0] (tG H i p n a X (mB m) (tB s i c (H.length+4) hl)) (znZ H i p n X c hl (zbP c p n hl m s a)):=by
 have g5:=fun a B4 B5=>ziY H i p n a X B4 B5 hX;have g4:=fun a B4 B5=>zkm H i p n a X B4 B5 hX;have s5:=fun a B4 B5 B=>zgW H i p n a X B4 B5 hX B;have s4:=fun a B4 B5 B=>zgX H i p n a X B4 B5 hX B;have gi:=fun a B4 B5=>zlE H i p n a X B4 B5 hi;have si:=fun a B4 B5 a'=>zgV H i p n a X B4 B5 hi a';have hlen:=zw m hml;have bo:=fun K=>zrv c K;have qo:=fun x K=>ztD x K;generalize hres:zbP c p n hl m s a=res;unfold zbP at hres;refine CallEx.body (F0:=[(0,.ptr (H.length+5) 0 0)]) Tryz.func182 rfl Tryz.ntmps182 Tryz.results182 rfl kr rfl ?_;refine PW.e ?_;cases hhl:hl with
 | false=>
  subst hhl;rw[if_neg (by decide)]at hres;refine PW.f (fun K k=>by simp(maxSteps:=3000000) (disch:=omega) only[go_sem,↓reduceIte,reduceCtorEq,g5,zA,zC,zkn];exact k) ?_;refine PW.t ?_;refine PW.e ?_;refine PW.ret ⟨_,rfl,.inl ?_⟩;rw[←hres];exact⟨rfl,rfl⟩
 | true=>
  subst hhl;rw[if_pos rfl]at hres;refine PW.f (fun K k=>by simp(maxSteps:=3000000) (disch:=omega) only[go_sem,↓reduceIte,reduceCtorEq,g5,zA,zC,zkn];exact k) ?_;refine PW.us ?_;suffices hrest:∀(m:Mb) (a:Nat),m.lv.length=384→a≤n→((tkS p n a).bind fun d a2=>if vqB (s.q+d)then .ok ({ m with dl:=d },{ s with q:=s.q+d }) a2 else .er 2 a2)=res→PW Tryz.prog _ _ [(0,.ptr (H.length+5) 0 0)] (tG H i p n a X (mB m) (tB s i c (H.length+4) true)) _ by
   refine PW.f (fun K k=>by simp(maxSteps:=3000000) (disch:=omega) only[go_sem,↓reduceIte,reduceCtorEq,g5,zA,zC,zpj,zah,qA,qB];refine VCx.call (bo _) rfl ?_;simp(maxSteps:=3000000) (disch:=omega) only[go_sem,↓reduceIte,reduceCtorEq,g5,zA,zC,zpj,zah,qA,qB];exact k) ?_;cases hbv:bcx c with
   | false=>
    rw[hbv,if_neg (by decide),Rr.bind_ok]at hres;refine PW.us ?_;exact PW.at [0] (hrest m a hml ha hres) rfl rfl
   | true=>
    rw[hbv,if_pos rfl]at hres;refine PW.t ?_;(repeat refine PW.seq ?_);refine PW.drawi [i,H.length+4] [(17,[1]),(18,[0]),(22,[1]),(23,[1])] [] [] mix kr (by simp<;>omega) fun K hK=> ?_;simp(maxSteps:=3000000) (disch:=omega) only[go_sem,↓reduceIte,reduceCtorEq,g5,zA,zC,zau];refine VCj.wr1 (gi a (mB m) (tB s i c (H.length+4) true)) (fun L hL hG=>zfv L (H.length+5) i p n a c s (H.length+4) true ((hG.out _ (by simp;omega)).trans (g5 _ _ _)) hL ha hn hp) (by simp(maxSteps:=3000000) (disch:=omega) only[go_sem,↓reduceIte,reduceCtorEq]) (.inl rfl) rfl ?_;rw[si];cases hf:tkF p n a with
    | ok b a1=>
     obtain⟨rfl,h2,_⟩:=zdi hf;rw[hf,Rr.bind_ok,Rr.bind_ok]at hres;simp only[rvF,Rr.at];simp(maxSteps:=3000000) (disch:=omega) only[go_sem,↓reduceIte,reduceCtorEq,g4,s4,zaC,zaG,zbY,hlen,zju,zba];refine hK _ _ ?_;clear hK K;refine PW.e ?_;refine PW.us ?_;exact PW.at [0] (hrest { m with fd:=b } (a+1) hml om hres) rfl rfl
    | er e a1=>obtain⟨rfl,rfl,h2⟩:=zf8 hf;rw[hf,Rr.bind_er,Rr.bind_er]at hres;simp only[rvF,Rr.at];simp(maxSteps:=3000000) (disch:=omega) only[go_sem,↓reduceIte,reduceCtorEq,g4,s4,zaC,zaG,zbY,hlen,zju,zba];refine hK _ _ ?_;clear hK K;refine PW.e ?_;refine PW.t ?_;refine PW.e ?_;refine PW.ret ⟨_,rfl,.inl ?_⟩;rw[←hres];exact⟨rfl,a1,{ m with fd:=false },s,ha,hml,rfl⟩
  clear hres ha hml hlen;intro m a hml ha hres;have hlen:=zw m hml;(repeat refine PW.seq ?_);refine PW.drawi [i,H.length+4] [(31,[1]),(35,[0]),(39,[1]),(40,[1])] [] [] mix kr (by simp<;>omega) fun K hK=> ?_;simp(maxSteps:=3000000) (disch:=omega) only[go_sem,↓reduceIte,reduceCtorEq,g5,zA,zC,zau,zcs];refine VCj.wr1 (gi a (mB m) (tB s i c (H.length+4) true)) (fun L hL hG=>ziS i p n a L hL ha hn hp) (by simp(maxSteps:=3000000) (disch:=omega) only[go_sem,↓reduceIte,reduceCtorEq]) (.inl rfl) rfl ?_;rw[si];cases h1:tkS p n a with
  | er e a1=>
   have he:=zeL h1;rw[h1,Rr.bind_er]at hres;simp only[rvS,Rr.at];have d0:((e:Int)+1 !=0)=true:=by simp;omega
   simp(maxSteps:=3000000) (disch:=omega) only[go_sem,↓reduceIte,reduceCtorEq,g4,s4,zaC,zaG,zbY,hlen,zjt,zba];refine hK _ _ ?_;clear hK K;refine PW.g d0 ?_;refine PW.t ?_;refine PW.e ?_;refine PW.ret ⟨_,rfl,.inl ?_⟩;rw[←hres];exact⟨rfl,a1,{ m with dl:=0 },s,om,hml,rfl⟩
  | ok d a1=>
   have hb:=zcn h1 ha;rw[h1,Rr.bind_ok]at hres;simp only[rvS,Rr.at];simp(maxSteps:=3000000) (disch:=omega) only[go_sem,↓reduceIte,reduceCtorEq,g4,s4,zaC,zaG,zbY,hlen,zjt,zba];refine hK _ _ ?_;clear hK K;refine PW.e ?_;refine PW.us ?_;(repeat refine PW.seq ?_);refine PW.drawt [] [] mix kr fun K hK=> ?_;simp(maxSteps:=3000000) (disch:=omega) only[go_sem,↓reduceIte,reduceCtorEq,g5,g4,s5,zA,zC,zet,zau,zuH,zwr,zah,zb7,zaC,zaG,zt0];refine hK _ _ ?_;clear hK K;have qo1:=fun K=>qo (s.q+d) K;cases hv:vqB (s.q+d)with
   | false=>
    rw[hv]at qo1 hres;rw[if_neg (by decide)]at hres;(repeat refine PW.seq ?_);refine PW.rg rfl fun K hK=> ?_;simp(maxSteps:=3000000) (disch:=omega) only[go_sem,↓reduceIte,reduceCtorEq,g5,zA,zC,zuH];refine VCx.call (qo1 _) rfl ?_;simp(maxSteps:=3000000) (disch:=omega) only[go_sem,↓reduceIte,reduceCtorEq];refine hK _ _ ?_;clear hK K;refine PW.t ?_;refine PW.e ?_;refine PW.ret ⟨_,rfl,.inl ?_⟩;rw[←hres];exact⟨rfl,a1,{ m with dl:=d },{ s with q:=s.q+d },hb.2.2,hml,rfl⟩
   | true=>rw[hv]at qo1 hres;rw[if_pos rfl]at hres;(repeat refine PW.seq ?_);refine PW.rg rfl fun K hK=> ?_;simp(maxSteps:=3000000) (disch:=omega) only[go_sem,↓reduceIte,reduceCtorEq,g5,zA,zC,zuH];refine VCx.call (qo1 _) rfl ?_;simp(maxSteps:=3000000) (disch:=omega) only[go_sem,↓reduceIte,reduceCtorEq];refine hK _ _ ?_;clear hK K;refine PW.us ?_;refine PW.e ?_;refine PW.ret ⟨_,rfl,.inl ?_⟩;rw[←hres];exact⟨rfl,rfl⟩
set_option maxHeartbeats 4000000 in
theorem zsb(m:Mb)(s:St)(a:Nat)(hml:m.lv.length=384)(ha:a≤n):CallEx Tryz.prog 183 [.ptr (H.length+5) 0 0] (tG H i p n a X (mB m) (tB s i c (H.length+4) hl)) (znZ H i p n X c hl ((zbE p n hl m a).bind fun m a=>.ok (m,s) a)):=by
 have g5:=fun a B4 B5=>ziY H i p n a X B4 B5 hX;have g4:=fun a B4 B5=>zkm H i p n a X B4 B5 hX;have s5:=fun a B4 B5 B=>zgW H i p n a X B4 B5 hX B;have s4:=fun a B4 B5 B=>zgX H i p n a X B4 B5 hX B;have gi:=fun a B4 B5=>zlE H i p n a X B4 B5 hi;have si:=fun a B4 B5 a'=>zgV H i p n a X B4 B5 hi a';have hlen:=fun(m:Mb) (h:m.lv.length=384)=>zw m h;generalize hres:(zbE p n hl m a).bind (fun m a=>Rr.ok (m,s) a)=res;unfold zbE at hres;refine CallEx.body (F0:=[(0,.ptr (H.length+5) 0 0)]) Tryz.func183 rfl Tryz.ntmps183 Tryz.results183 rfl kr rfl ?_;refine PW.e ?_;by_cases hk:m.k=2;rotate_left
 ·have d2:(m.k !=2)=true:=by simp[hk]
  rw[decide_eq_false hk,Bool.false_and,if_neg (by decide),Rr.bind_ok]at hres;refine PW.f (fun K k=>by simp(maxSteps:=3000000) (disch:=omega) only[go_sem,↓reduceIte,reduceCtorEq,g5,g4,zA,zC,zau,zkn,zaC,zaG,zdn,d2];exact k) ?_;refine PW.t ?_;refine PW.e ?_;refine PW.ret ⟨_,rfl,.inl ?_⟩;rw[←hres];exact⟨rfl,rfl⟩
 have d2:(m.k !=2)=false:=by simp[hk]
 rw[decide_eq_true hk,Bool.true_and]at hres;cases hhl:hl with
 | false=>
  subst hhl;rw[if_neg (by decide),Rr.bind_ok]at hres;refine PW.f (fun K k=>by simp(maxSteps:=3000000) (disch:=omega) only[go_sem,↓reduceIte,reduceCtorEq,g5,g4,zA,zC,zau,zkn,zaC,zaG,zdn,d2];exact k) ?_;refine PW.t ?_;refine PW.e ?_;refine PW.ret ⟨_,rfl,.inl ?_⟩;rw[←hres];exact⟨rfl,rfl⟩
 | true=>
  subst hhl;rw[if_pos rfl]at hres;refine PW.f (fun K k=>by simp(maxSteps:=3000000) (disch:=omega) only[go_sem,↓reduceIte,reduceCtorEq,g5,g4,zA,zC,zau,zkn,zaC,zaG,zdn,d2];exact k) ?_;refine PW.us ?_;refine PW.e ?_;refine PW.l ?_;suffices hl1:∀(k:Nat) (m1:Mb) (a1:Nat),k≤6→m1.lv.length=384→a1≤n→((zdv p n (6 - k) m1 a1).bind fun m a=>Rr.ok (m,s) a)=res→PL Tryz.prog _ _ [(0,.ptr (H.length+5) 0 0),(19,.int .i64 (k:Int))] (tG H i p n a1 X (mB m1) (tB s i c (H.length+4) true)) _ by exact PL.at [0,19] (hl1 0 m a om hml ha hres) rfl rfl
  clear hres hk d2 hml ha;intro k m1 a1 hk6 hml ha hres;induction hd:6 - k using qI generalizing k m1 a1 with
  | _ d ih=>
   refine PL.round ?_;refine PW.e ?_;refine PW.c (fun h=> ?_) (fun h=> ?_);rotate_left
   ·have h6:k=6:=ofF h;subst h6;refine PW.exit ?_;have hlm:=hlen m1 hml;have e6:=zxa m1;simp only[qJ,zdv]at hres;cases hac:zlm m1 with
    | true=>
     rw[hac,if_pos rfl,Rr.bind_ok]at hres;rw[hac]at e6;refine PW.f (fun K k=>by simp(maxSteps:=3000000) (disch:=omega) only[go_sem,↓reduceIte,reduceCtorEq,g5,g4,zA,zC,zau,zaC,zaG,zqE,hlm,↓e6,qA,qB];exact k) ?_;refine PW.us ?_;refine PW.e ?_;refine PW.ret ⟨_,rfl,.inl ?_⟩;rw[←hres];exact⟨rfl,rfl⟩
    | false=>rw[hac,if_neg (by decide),Rr.bind_er]at hres;rw[hac]at e6;refine PW.f (fun K k=>by simp(maxSteps:=3000000) (disch:=omega) only[go_sem,↓reduceIte,reduceCtorEq,g5,g4,zA,zC,zau,zaC,zaG,zqE,hlm,↓e6,qA,qB];exact k) ?_;refine PW.t ?_;refine PW.e ?_;refine PW.ret ⟨_,rfl,.inl ?_⟩;rw[←hres];exact⟨rfl,a1,m1,s,ha,hml,rfl⟩
   have h6:k<6:=ot h;obtain⟨n',hn'⟩:∃ n',6 - k=n'+1:=⟨5 - k,om⟩;have hkn:5 - n'=k:=om;rw[hn',zdv,hkn,Rr.bind_bind]at hres;have hnx:=fun m1 a1=>ih (6 - (k+1)) om (k+1) m1 a1 om;rw[show 6 - (k+1)=n' from om]at hnx;have hlm:=hlen m1 hml;have hst:=fun b=>zqB m1 k b h6;refine PW.skip ?_;refine PW.b ?_;refine PW.e ?_;(repeat refine PW.seq ?_);refine PW.drawi [i,H.length+4] [(26,[1]),(28,[0]),(32,[1]),(33,[1]),(34,[1])] [] [] mix kr (by simp<;>omega) fun K hK=> ?_;simp(maxSteps:=3000000) (disch:=omega) only[go_sem,↓reduceIte,reduceCtorEq,g5,zA,zC,zau];refine VCj.wr1 (gi a1 (mB m1) (tB s i c (H.length+4) true)) (fun L hL hG=>zfv L (H.length+5) i p n a1 c s (H.length+4) true ((hG.out _ (by simp;omega)).trans (g5 _ _ _)) hL ha hn hp) (by simp(maxSteps:=3000000) (disch:=omega) only[go_sem,↓reduceIte,reduceCtorEq]) (.inl rfl) rfl ?_;rw[si];cases hf:tkF p n a1 with
   | ok b a2=>
    obtain⟨rfl,h2,_⟩:=zdi hf;rw[hf,Rr.bind_ok]at hres;simp only[rvF,Rr.at];simp(maxSteps:=3000000) (disch:=omega) only[go_sem,↓reduceIte,reduceCtorEq,g4,s4,zaC,zaG,zbY,hlm,hst,zba];refine hK _ _ ?_;clear hK K;refine PW.e ?_;refine PW.us ?_;refine PW.e ?_;exact PL.at [0,19] (hnx (zbR m1 k b) (a1+1) (by rw[zdA];exact hml) om hres rfl) rfl rfl
   | er e a2=>obtain⟨rfl,rfl,h2⟩:=zf8 hf;rw[hf,Rr.bind_er]at hres;simp only[rvF,Rr.at];simp(maxSteps:=3000000) (disch:=omega) only[go_sem,↓reduceIte,reduceCtorEq,g4,s4,zaC,zaG,zbY,hlm,hst,zba];refine hK _ _ ?_;clear hK K;refine PW.e ?_;refine PW.t ?_;refine PW.e ?_;refine PW.ret ⟨_,rfl,.inl ?_⟩;rw[←hres];exact⟨rfl,a2,zbR m1 k false,s,ha,by rw[zdA];exact hml,rfl⟩
end
end Go.Proofs.YtpjlfoficnpfoaaGreatDoor.Sc
