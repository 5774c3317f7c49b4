/-
  Parts of the proof, put together in one text. No condition.
-/
import Derived.Test.YtpjlfoficnpfoaaGreatDoorV19
open Array renaming toList → qP
open Bool renaming and_eq_true → qT, true_and → qU, false_and → jB
open List renaming getElem?_append_right → qA, length_set → qB, take_of_length_le → qC, length_append → qD, getElem?_eq_some_iff → qE, not_mem_nil → qH, getElem_mem → qI, getElem?_append_left → qJ, mem_cons → qL, mapM_cons → qM, set_append_right → qN, mapM_nil → qO, take → qQ, getElem?_eq_getElem → qR, all_eq_true → qS, take_length → qX, replicate → jA, drop_eq_getElem_cons → jC, set_append_left → jE, getElem?_set_ne → jF
open Nat renaming beq → qV, add_zero → qW, le_refl → qY, strongRecOn → qZ, add_assoc → jD
open Option renaming bind_eq_bind → qF, bind_some → qG, pure_def → qK
namespace Go.Proofs.YtpjlfoficnpfoaaGreatDoor.Sc
set_option linter.all false
open Pm Ty S3 Go.RowKit
theorem zhT(x:It)(H:za)(hx:Lt x):CallOk Tryz.prog 56 [.agg (itc x)] H (zfz (itB x)) H:=by have:=zos x H hx;rwa[zvU]at this
set_option maxHeartbeats 4000000 in
theorem zpr(x:It)(H:za)(hx:Lt x):CallOk Tryz.prog 55 [.agg (itc x)] H (szI x) H:=by
 have hb:=zgt hx;have hs:=hx.ok.s;have i1:=zcG x;have i2:=zbZ x hs;have i4:=zd5 x hs;have i9:qQ 148 (itc x)=itc x:=qC om;have ib:=fun K=>zhT x K hx;have hp:=hx.ok.pad;unfold zfP at hp;have hpd:(itB x).2=0→0≤x.pad∧x.pad≤1048576:=fun h=>⟨(zd7 h).1,(zd7 h).2.1⟩;unfold zfz at ib;generalize hr:szI x=r;unfold szI at hr;generalize (itB x).1=b at *;generalize (itB x).2=e at *;refine CallOk.go Tryz.func55 Tryz.ntmps55 Tryz.results55 ?_;refine PW.g i1 ?_;refine PW.m (nq2 i2 i9) ib ?_;by_cases he:e=0
 ·rw[if_pos he]at hr;have be:(e !=0)=false:=by simp[he]
  have hp2:=hpd he;refine PW.g be ?_;refine PW.us ?_;refine PW.g i4 ?_;refine PW.v (.tup [.int .i64 ((b.length:Int)+x.pad),.int .i64 0]) ?_;rw[←hr];exact Fin.base (.id (.tup (zci fun y hy=>by
   simp only[qL,qH,or_false]at hy;rcases hy with rfl|rfl<;>exact .int _ _)))
 ·rw[if_neg he]at hr;have be:(e !=0)=true:=by simp[he]
  refine PW.g be ?_;refine PW.t ?_;refine PW.e ?_;refine PW.v (.tup [.int .i64 0,.int .i64 e]) ?_;rw[←hr];exact Fin.base (.id (.tup (zci fun y hy=>by
   simp only[qL,qH,or_false]at hy;rcases hy with rfl|rfl<;>exact .int _ _)))
theorem zjF:∀{l:List It},erL l=0→∀ x∈l,(itB x).2=0
 | [],_,x,hx=>by cases hx
 | y::r,h,x,hx=>by
  unfold erL at h;split at h
  ·rename_i h1;rcases qL.1 hx with rfl|hx
   ·exact h1
   ·exact zjF h x hx
  ·rename_i h1;exact absurd h h1
theorem zrn{l:List It}{k:Nat}(h:k<l.length):(byS (l.take (k+1))).length=(byS (l.take k)).length+(pce l[k]).length:=by rw[zhU h,qD]
set_option maxHeartbeats 8000000 in
set_option maxRecDepth 100000 in
theorem zq6(l:List It)(f:Bool)(H:za)(hl:Lts l):CallOk Tryz.prog 26 [.slice (itL l) l.length f] H (zfz (zfe l)) H:=by
 have hn:=hl.n;have ln:=zak l hl.s;have fe:∀(e:Int) (K:za),Fin H (zfz ([],e)) H (.tup [.slice [] 0 true,.int .i64 e]) (H++K):=fun e K=>Fin.base (Fz.tupC ⟨Fz.sliceC trivial (fun e=>by cases e),.id (.int _ _),trivial⟩);have fe0:∀(e:Int),Fin H (zfz ([],e)) H (.tup [.slice [] 0 true,.int .i64 e]) H:=fun e=>by have:=fe e [];rwa[List.append_nil]at this
 generalize hr:zfe l=r;unfold zfe at hr;refine CallOk.go Tryz.func26 Tryz.ntmps26 Tryz.results26 ?_;refine PW.e ?_;refine PW.e ?_;refine PW.e ?_;refine PW.l ?_;suffices hloop:∀(k:Nat),k≤l.length→erL l=erL (l.drop k)→piL (l.take k)≤k→
   PL Tryz.prog _ _ [(0,.slice (itL l) l.length f),(4,.int .i64 (piL (l.take k):Int)),(5,.int .i64 ((min (byS (l.take k)).length 1048577:Nat):Int)),(6,.int .i64 (k:Int))] H _ by
  exact PL.at [0,4,5,6] (hloop 0 om rfl (by simp[piL])) rfl rfl
 intro k hk he hP;induction hd:l.length - k using qZ generalizing k with
 | _ d ih=>
  refine PL.round ?_;refine PW.e ?_;refine PW.c (fun h=> ?_) (fun h=> ?_)
  ·have hkl:k<l.length:=ot h;have ia:=zfO l hl.s k hkl;have i0:=zR l hl.s k 0 hkl om;have hx:=hl.i l[k] (qI hkl);rw[zbK,qW]at i0;have hbt:=zrn hkl;have hpt:=zkJ hkl;rw[jC hkl,erL]at he;have hnext:=fun h1 h2=>ih (l.length - (k+1)) om (k+1) om h1 h2 rfl;generalize l[k]=x at *;have ib:=fun K=>zpr x K hx;unfold szI at ib;refine PW.skip ?_;refine PW.b ?_;by_cases h0:(itB x).2=0;rotate_left
   ·rw[if_neg h0]at he;rw[if_neg (by rw[he];exact h0),he]at hr;have b0:((itB x).2 !=0)=true:=by simp[h0]
    rw[if_neg h0]at ib;refine PW.m (nq2 ia ln) ib ?_;refine PW.g b0 ?_;refine PW.t ?_;refine PW.e ?_;refine PW.v (.tup [.slice [] 0 true,.int .i64 (itB x).2]) ?_;rw[←hr];exact fe0 _
   rw[if_pos h0]at he;rw[if_pos h0]at ib;obtain⟨pl1,pl2⟩:=zjj hx h0;obtain⟨pp1,pp2,pp3⟩:=zd7 h0;have hP2:piL (l.take (k+1))≤k+1:=by rw[hpt];split<;>omega
   have hfin:=hnext he hP2;have hbl:=zgt hx;generalize (itB x).1=b at *;generalize (byS (l.take k)).length=S at *;rw[pl1]at hbt;generalize (byS (l.take (k+1))).length=S' at *;have hS:((min S' 1048577:Nat):Int)=if(1048577:Int)<((min S 1048577:Nat):Int)+((b.length:Int)+x.pad)then 1048577 else((min S 1048577:Nat):Int)+((b.length:Int)+x.pad):=by split<;>omega
   have hmn:min S 1048577≤1048577:=Nat.min_le_right _ _;generalize min S 1048577=T at *;generalize min S' 1048577=T' at *;refine PW.m (nq2 ia ln) ib ?_;refine PW.e ?_;refine PW.us ?_;refine PW.f (fun K k=>by simp(disch:=omega) only[go_sem,↓reduceIte,reduceCtorEq,←hS];exact k) ?_;by_cases hk3:x.k=3
   ·have e3:(x.k==3)=true:=by simp[hk3]
    rw[if_pos hk3]at hpt;rw[hpt]at hfin;refine PW.g (nq2 ln (nq2 i0 e3)) ?_;refine PW.t ?_;refine PW.e ?_;refine PW.e ?_;exact PL.at [0,4,5,6] hfin rfl rfl
   ·have e3:(x.k==3)=false:=by simp[hk3]
    rw[if_neg hk3]at hpt;rw[hpt]at hfin;refine PW.g (nq2 ln (nq2 i0 e3)) ?_;refine PW.us ?_;refine PW.e ?_;exact PL.at [0,4,5,6] hfin rfl rfl
  ·have hkl:k=l.length:=ofF h;subst hkl;rw[qX]at hP ⊢;rw[List.drop_length,erL]at he;rw[if_pos he]at hr;have hall:=zjF he;refine PW.exit ?_;clear ih;by_cases h1:256<piL l∨1048576<(byS l).length
   ·rw[if_pos h1]at hr;generalize (byS l).length=B at *;generalize piL l=P at *;suffices hrest:PW Tryz.prog _ _ [(47,.bool true)] H _ by
     by_cases hp1:256<P
     ·have d1:decide ((256:Int)<(P:Int))=true:=decide_eq_true om;refine PW.g d1 ?_;exact PW.at [47] hrest rfl rfl
     ·have d1:decide ((256:Int)<(P:Int))=false:=decide_eq_false om;have d2:decide ((1048576:Int)<((min B 1048577:Nat):Int))=true:=decide_eq_true om;refine PW.g (nq2 d1 d2) ?_;exact PW.at [47] hrest rfl rfl
    refine PW.t ?_;refine PW.e ?_;refine PW.v (.tup [.slice [] 0 true,.int .i64 5]) ?_;rw[←hr];exact fe0 5
   rw[if_neg h1]at hr;have d1:decide ((256:Int)<(piL l:Int))=false:=decide_eq_false om;have d2:decide ((1048576:Int)<((min (byS l).length 1048577:Nat):Int))=false:=decide_eq_false om;refine PW.g (nq2 d1 d2) ?_;refine PW.us ?_;refine PW.e ?_;refine PW.view (Vs.ghost 9 5 1 rfl) ?_;refine PW.e ?_;refine PW.l ?_;suffices hloop2:∀(k:Nat) (O:List UInt8),k≤l.length→O=byS (l.take k)→
     PL Tryz.prog _ _ [(0,.slice (itL l) l.length f),(9,.msl H.length O.length 0 O.length 1 true),(10,.int .i64 (k:Int))] (H++[⟨5,O.length,bs O⟩]) _ by
    exact PL.at [0,9,10] (hloop2 0 [] om (by simp[byS])) rfl rfl
   intro k O hk hO;induction hd:l.length - k using qZ generalizing k O with
   | _ d ih=>
    have bO:=zc O;have hOl:O.length≤1048576:=by
     have e:byS l=byS (l.take k)++byS (l.drop k):=by unfold byS;rw[←List.flatMap_append,List.take_append_drop]
     have e2:=congrArg List.length e;rw[qD,←hO]at e2;omega
    refine PL.round ?_;refine PW.e ?_;refine PW.c (fun h=> ?_) (fun h=> ?_)
    ·have hkl:k<l.length:=ot h;have ia:=zfO l hl.s k hkl;have ip:=zR l hl.s k 147 hkl om;have hx:=hl.i l[k] (qI hkl);rw[zd5 _ hx.ok.s]at ip;have hbt:=zhU hkl;have h0:=hall l[k] (qI hkl);have hnext:=fun O h1=>ih (l.length - (k+1)) om (k+1) O om h1 rfl;generalize l[k]=x at *;have ib:=fun K=>zhT x K hx;unfold zfz at ib;rw[h0]at ib;obtain⟨pl1,pl2⟩:=zjj hx h0;obtain⟨pp1,pp2,pp3⟩:=zd7 h0;have hpce:pce x=(itB x).1++jA x.pad.toNat 0:=rfl;obtain⟨N,hN⟩:∃ N:Nat,x.pad=(N:Int):=⟨x.pad.toNat,om⟩;rw[hN]at ip hpce pl1 pp1 pp2;rw[Int.toNat_natCast]at hpce pl1;have hbl:=zgt hx;generalize (itB x).1=b at *;have hO3:(O++pce x).length=O.length+(b.length+N):=by rw[qD,pl1]
     have hfin:=hnext (O++pce x) (by rw[hbt,hO]);have hcel:bs (O++pce x)=bs O++(bs b++zaK N [.int .u8 0]):=by rw[hpce,zz,zz,zmL]
     rw[hO3,hcel,←jD]at hfin;have be:=zc b;have te:qQ b.length (bs b)=bs b:=qC om;refine PW.skip ?_;refine PW.b ?_;refine PW.m (nq2 ia ln) ib ?_;by_cases hN0:N=0
     ·subst hN0;(repeat refine PW.seq ?_);refine PW.drawi [H.length] [(9,[0]),(62,[0]),(64,[0]),(70,[0])] [] [] mix kr (by simp<;>omega) fun K hK=> ?_;simp(disch:=omega) only[go_sem,↓reduceIte,reduceCtorEq,ln,ip,te,be,bO,qD];refine hK _ _ ?_;clear hK K;refine PW.e ?_;refine PL.at [0,9,10] hfin rfl ?_;simp[zaK]
     ·have rl:(jA N [PV.int .u8 0]).flatten.length=N:=by simp
      (repeat refine PW.seq ?_);refine PW.drawi [H.length] [(9,[0]),(62,[0]),(64,[0]),(70,[0])] [] [] mix kr (by simp<;>omega) fun K hK=> ?_;simp(disch:=omega) only[go_sem,↓reduceIte,reduceCtorEq,ln,ip,te,be,bO,qD,hN0,rl];refine hK _ _ ?_;clear hK K;refine PW.e ?_;refine PL.at [0,9,10] hfin (by simp[kp,slot,qV,jD]) ?_;simp[zaK,jD]
    ·have hkl:k=l.length:=ofF h;subst hkl;rw[qX]at hO;refine PW.exit ?_;refine PW.e ?_;refine PW.v (.tup [.msl H.length O.length 0 O.length 1 true,.int .i64 0]) ?_;rw[←hr,←hO];refine Fin.base (Fz.tupC ⟨?_,.id (.int _ _),trivial⟩);exact Fz.mslC (e:=5) (xs:=bs O) (qY _) (hp0 _ _ _) (by rw[bO,Nat.mul_one]) (FzC.refl (zo _ _))
abbrev MpE:=List (Int×Ent)
def mpC(m:MpE):List PV:=m.map fun x=>.tup [.int .i64 x.1,.agg (zn x.2)]
def mfi(k:Int):MpE→Nat→Option (Nat×Ent)
 | [],_=>none
 | x::r,i=>if k=x.1 then some (i,x.2)else mfi k r (i+1)
def mg(k:Int):MpE→Option Ent
 | []=>none
 | x::r=>if k=x.1 then some x.2 else mg k r
def mu(k:Int)(e:Ent):MpE→MpE
 | []=>[(k,e)]
 | x::r=>if k=x.1 then(k,e)::r else x::mu k e r
theorem ze6(k:Int):∀(m:MpE) (i:Nat),zcE (.int .i64) (.int .i64 k) (mpC m) i=some ((mfi k m i).map fun x=>(x.1,.agg (zn x.2)))
 | [],i=>rfl
 | x::r,i=>by
  have ih:=ze6 k r (i+1);show(match zdG (.int .i64) (.int .i64 k) (.int .i64 x.1)with|some true=>some (some (i,PV.agg (zn x.2)))|some false=>zcE (.int .i64) (.int .i64 k) (mpC r) (i+1)|none=>none)=_;by_cases h:k=x.1
  ·have:zdG (.int .i64) (.int .i64 k) (.int .i64 x.1)=some true:=by simp[zdG,h]
   rw[this,mfi,if_pos h];rfl
  ·have:zdG (.int .i64) (.int .i64 k) (.int .i64 x.1)=some false:=by simp[zdG,h]
   rw[this,mfi,if_neg h];exact ih
theorem zqy(k:Int):∀(m:MpE) (i:Nat),(mfi k m i).map (·.2)=mg k m
 | [],i=>rfl
 | x::r,i=>by
  rw[mfi,mg];split
  ·rfl
  ·exact zqy k r (i+1)
theorem zhw(k:Int)(e:Ent):∀(m:MpE) (i p:Nat) (x:Ent),mfi k m i=some (p,x)→i≤p∧(mpC m).set (p - i) (.tup [.int .i64 k,.agg (zn e)])=mpC (mu k e m)
 | [],i,p,x,h=>by cases h
 | y::r,i,p,x,h=>by
  rw[mfi]at h;rw[mu];split at h
  ·rename_i hk;injection h with h;injection h with h1 h2;subst h1;rw[if_pos hk,Nat.sub_self];exact⟨qY _,rfl⟩
  ·rename_i hk;obtain⟨h1,h2⟩:=zhw k e r (i+1) p x h;rw[if_neg hk];refine⟨om,?_⟩;rw[show p - i=(p - (i+1))+1 from om];show(PV.tup [.int .i64 y.1,.agg (zn y.2)]::mpC r).set _ _= .tup [.int .i64 y.1,.agg (zn y.2)]::mpC (mu k e r);rw[List.set_cons_succ,h2]
theorem zhx(k:Int)(e:Ent):∀(m:MpE) (i:Nat),mfi k m i=none→mpC m++[.tup [.int .i64 k,.agg (zn e)]]=mpC (mu k e m)
 | [],i,h=>rfl
 | y::r,i,h=>by
  rw[mfi]at h;rw[mu];split at h
  ·cases h
  ·rename_i hk;rw[if_neg hk];show PV.tup [.int .i64 y.1,.agg (zn y.2)]::(mpC r++_)= .tup [.int .i64 y.1,.agg (zn y.2)]::mpC (mu k e r);rw[zhx k e r (i+1) h]
theorem zqx(k:Int)(e:Ent)(k':Int):∀ m:MpE,mg k' (mu k e m)=if k'=k then some e else mg k' m
 | []=>by
  rfl
 | y::r=>by
  have ih:=zqx k e k' r;rw[mu];by_cases h:k=y.1
  ·rw[if_pos h,mg,mg];by_cases h2:k'=k
   ·rw[if_pos h2,if_pos h2]
   ·rw[if_neg h2,if_neg h2,if_neg om]
  ·rw[if_neg h,mg,mg,ih];by_cases h2:k'=y.1
   ·rw[if_pos h2,if_neg om];simp[h2]
   ·rw[if_neg h2,if_neg h2]
theorem zqw(n:Nat)(m:MpE):∀ x∈mpC m,Scoped n x:=fun x hx=>by
 obtain⟨y,_,rfl⟩:=List.mem_map.1 hx;exact .tup (asc fun z hz=>by
  simp only[qL,qH,or_false]at hz;rcases hz with rfl|rfl
  ·exact .int _ _
  ·exact zaB fun w hw=>zbx _ [y.2] w (by simpa[enB]using hw))
def mN(S:List Ent):Nat→MpE
 | 0=>[]
 | k+1=>match S[k]? with|some e=>mu e.1.l e (mu e.1.f e (mN S k))|none=>mN S k
theorem zt1(S:List Ent)(i:Int):∀ k,k≤S.length→mg i (mN S k)=byI (S.take k) i
 | 0,_=>rfl
 | k+1,h=>by
  have e:=qR (show k<S.length from om);rw[mN,e,List.take_add_one,e];dsimp only;rw[Option.toList_some,zhV,zqx,zqx,zt1 S i k om];by_cases h1:i=S[k].1.l
  ·rw[if_pos h1,if_pos (.inr h1.symm)]
  ·rw[if_neg h1];by_cases h2:i=S[k].1.f
   ·rw[if_pos h2,if_pos (.inl h2.symm)]
   ·rw[if_neg h2,if_neg om]
theorem zn6(es:List Ent)(L:List It)(j:Nat)(hj:j<L.length):zhh es (L.drop j) j=(zje es j L[j]&&zhh es (L.drop (j+1)) (j+1)):=by rw[jC hj];rfl
def zen:List PV:=.int .i64 0:: .int .i64 0:: .int .i64 0:: .int .i64 0:: .int .i64 0:: .int .i64 0::(sqc sq0++pic pz0E)
 where pz0E:Pi:=⟨0,0,0,false,false,false⟩
theorem zoo(e:Ent):(zn e).all PV.cell=true:=by simp[zn,zaI,PV.cell,pic]
def wlB(L:List It):Bool:=decide ((zfe L).2=0)&&zoH L
set_option maxRecDepth 100000 in
theorem zoA:zrT Tryz.prog 71=some (.agg zen):=kr
set_option maxHeartbeats 16000000 in
set_option maxRecDepth 100000 in
theorem zrS(L:List It)(fl:Bool)(hl:Lts L)(hc:∀ x∈L,CdOk (zdd x))(hn:L.length≤800000)(H:za):CallOk Tryz.prog 10 [.slice (itL L) L.length fl] H (.bool (wlB L)) H:=by
 have hL:=hl.s;have z1:zen.all PV.cell=true:=by decide
 have z2:zen.length=147:=by decide
 have fin0:∀(b:Bool),Fin H (.bool b) H (.bool b) H:=fun b=>Fin.now;have fin:∀(b:Bool) (K:za),Fin H (.bool b) H (.bool b) (H++K):=fun b K=>Fin.base (.id (.bool _));have fo:=fun K=>zs7 L fl K hl;have oo:=fun K=>zvd L fl hL hn K;have so:=fun K=>zsf L fl hL hn K;have hsq:=fun(j:Nat) (e:Ent) (he:(zaa L)[j]? =some e)=>zse hL he;have hlen:=zpk hL;have hsl:∀ e∈zaa L,SqL e.2.1:=fun e he=>by obtain⟨j,hj⟩:=List.getElem?_of_mem he;exact(hsq j e hj).toL
 have no:=fun K=>zsN L (zaa L) fl hL hn om hsl (esI L) K;unfold wlB zoH;generalize zfe L=R at fo ⊢;obtain⟨bytes,er⟩:=R;unfold zfz at fo;refine CallOk.go Tryz.func10 Tryz.ntmps10 Tryz.results10 ?_;refine PW.e ?_;refine PW.k fo ?_;by_cases h0:er=0;rotate_left
 ·have d0:(er !=0)=true:=by simpa using h0
  rw[decide_eq_false h0,jB];refine PW.g d0 ?_;refine PW.t ?_;refine PW.e ?_;refine PW.v (.bool false) ?_;exact fin0 _
 have d0:(er !=0)=false:=by simp[h0]
 rw[decide_eq_true h0,qU];cases ho:zez L with
 | false=>
  rw[ho]at oo;rw[jB];refine PW.m d0 oo ?_;refine PW.t ?_;refine PW.e ?_;refine PW.v (.bool false) ?_;exact fin0 _
 | true=>
 rw[ho]at oo;rw[qU];refine PW.m d0 oo ?_;refine PW.us ?_;refine PW.k so ?_;clear fo oo so;generalize zaa L=S at *;have ln:=zfU hsl;have lnL:=zak L hL;refine PW.e ?_;refine PW.e ?_;refine PW.l ?_;suffices hl1:∀ k:Nat,k≤S.length→PL Tryz.prog _ _ [(0,.slice (itL L) L.length fl),(5,.slice (S.flatMap zn) S.length false),(6,.mp H.length 0),(27,.slice (S.flatMap zn) S.length false),(28,.int .i64 (S.length:Int)),(29,.int .i64 (k:Int))] (H++[⟨67,0,mpC (mN S k)⟩]) _ by exact PL.at [0,5,6,27,28,29] (hl1 0 om) rfl rfl
 refine cnt S.length (fun k hk ih=> ?_) ?_
 ·have ct:=ze9 hk;have ia:qQ 147 (List.drop (k * 147) (S.flatMap zn))=zn S[k]:=zc8 zn 147 S k hk fun e he=>zam e (hsl e he);have hse:=hsl _ (qI hk);rw[mN,qR hk]at ih;dsimp only at ih;generalize S[k]=e at *;generalize mN S k=m at *;have x1:=zam e hse;have x2:(zn e)[0]? =some (.int .i64 e.1.f):=rfl;have x3:(zn e)[1]? =some (.int .i64 e.1.l):=rfl;have x11:(zn e).all PV.cell=true:=by simp[zn,zaI,PV.cell,pic]
  have x12:qQ 147 (zn e)=zn e:=qC om;refine PL.round ?_;refine PW.g ct ?_;refine PW.t ?_;refine PW.skip ?_;refine PW.b ?_;refine PW.g (nq2 ln (nq2 ia (nq2 x1 (nq2 x11 x12)))) ?_;suffices hm:PW Tryz.prog _ _ [(0,.slice (itL L) L.length fl),(5,.slice (S.flatMap zn) S.length false),(6,.mp H.length 0),(8,.ptr (H.length+1) 0 0),(27,.slice (S.flatMap zn) S.length false),(28,.int .i64 (S.length:Int)),(29,.int .i64 (k:Int))] (H++[⟨67,0,mpC (mu e.1.f e m)⟩,⟨71,0,zn e⟩]) _ by
   have hp:=ze6 e.1.f m 0;cases hf:mfi e.1.f m 0 with
   | none=>
    rw[hf]at hp;have hc:=zhx e.1.f e m 0 hf;refine PW.f (fun K k=>by simp(disch:=omega) only[go_sem,↓reduceIte,reduceCtorEq,hp,zca,zae,zbS,x1,x2,x12];exact k) ?_;exact PW.at [0,5,6,8,27,28,29] hm rfl (by rw[←hc])
   | some y=>rw[hf]at hp;have hc:=(zhw e.1.f e m 0 y.1 y.2 hf).2;rw[Nat.sub_zero]at hc;refine PW.f (fun K k=>by simp(disch:=omega) only[go_sem,↓reduceIte,reduceCtorEq,hp,zca,zae,zbS,x1,x2,x12];exact k) ?_;exact PW.at [0,5,6,8,27,28,29] hm rfl (by rw[←hc])
  generalize mu e.1.f e m=m1 at *;have hp:=ze6 e.1.l m1 0;suffices hm:PW Tryz.prog _ _ [(0,.slice (itL L) L.length fl),(5,.slice (S.flatMap zn) S.length false),(6,.mp H.length 0),(27,.slice (S.flatMap zn) S.length false),(28,.int .i64 (S.length:Int)),(29,.int .i64 (k:Int))] (H++[⟨67,0,mpC (mu e.1.l e m1)⟩,⟨71,0,zn e⟩]) _ by
   cases hf:mfi e.1.l m1 0 with
   | none=>
    rw[hf]at hp;have hc:=zhx e.1.l e m1 0 hf;refine PW.f (fun K k=>by simp(disch:=omega) only[go_sem,↓reduceIte,reduceCtorEq,hp,zca,zae,zbS,x1,x3,x12];exact k) ?_;exact PW.at [0,5,6,27,28,29] hm rfl (by rw[←hc])
   | some y=>rw[hf]at hp;have hc:=(zhw e.1.l e m1 0 y.1 y.2 hf).2;rw[Nat.sub_zero]at hc;refine PW.f (fun K k=>by simp(disch:=omega) only[go_sem,↓reduceIte,reduceCtorEq,hp,zca,zae,zbS,x1,x3,x12];exact k) ?_;exact PW.at [0,5,6,27,28,29] hm rfl (by rw[←hc])
  refine PW.e ?_;refine PL.view (Vs.trim (F1:=[(0,.slice (itL L) L.length fl),(5,.slice (S.flatMap zn) S.length false),(6,.mp H.length 0),(27,.slice (S.flatMap zn) S.length false),(28,.int .i64 (S.length:Int)),(29,.int .i64 ((k+1:Nat):Int))]) (H1:=H++[⟨67,0,mpC (mu e.1.l e m1)⟩]) (fun hh=>zhC (fun b hb x hx=>by obtain rfl:=List.mem_singleton.1 hb;exact zqw _ _ x hx) hh) sp (by rw[List.append_assoc];rfl) ?_) ih;exact⟨.id (zl (zcw _ _)),.id (zl fun x hx=>zbx _ S x hx),.id (.mp (by rw[qD];exact Nat.lt_succ_self _)),.id (zl fun x hx=>zbx _ S x hx),.id (.int _ _),.id (.int _ _),trivial⟩
 ·refine PL.round ?_;refine PW.e ?_;refine PW.u ?_;refine PW.exit ?_;have hmN:=zt1 S;have hgm:=fun i:Int=>(hmN i S.length (qY _)).trans (by rw[qX]);generalize mN S S.length=m at *;refine PW.e ?_;refine PW.l ?_;suffices hl2:∀ k:Nat,k≤L.length→zhh S (L.drop k) k=zhh S L 0→PL Tryz.prog _ _ [(0,.slice (itL L) L.length fl),(5,.slice (S.flatMap zn) S.length false),(6,.mp H.length 0),(45,.int .i64 (L.length:Int)),(46,.int .i64 (k:Int))] (H++[⟨67,0,mpC m⟩]) _ by exact PL.at [0,5,6,45,46] (hl2 0 om rfl) rfl rfl
  refine cnt L.length (fun k hk ih hf=> ?_) (fun hf=> ?_)
  ·have ct:=ze9 hk;have ek:=zR L hL k 0 hk om;rw[zbK,qW]at ek;have hck:=hc _ (qI hk);have ec:=zc6 L hL k 139 8 hk om;rw[zk4 _ (hL _ (qI hk))]at ec;have ec:qQ 8 (List.drop (k * 148+139) (itL L))=cdE (zdd L[k]):=ec;rw[zn6 S L k hk]at hf;unfold zje at hf;have hB:byI S (k:Int)=mg (k:Int) m:=(hgm k).symm;rw[hB]at hf;generalize L[k]=x at *;refine PL.round ?_;refine PW.g ct ?_;refine PW.t ?_;refine PW.skip ?_;refine PW.b ?_;refine PW.e ?_;by_cases k3:x.k=3;rotate_left
   ·have d3:(x.k !=3)=true:=by simpa using k3
    rw[decide_eq_false k3,Bool.not_false,Bool.true_or,qU]at hf;refine PW.g (nq2 lnL (nq2 ek d3)) ?_;refine PW.t ?_;refine PW.exit ?_;refine PW.e ?_;exact PL.at [0,5,6,45,46] (ih hf) rfl rfl
   have d3:(x.k !=3)=false:=by simp[k3]
   rw[decide_eq_true k3,Bool.not_true,Bool.false_or]at hf;have hp:=ze6 (k:Int) m 0;have hq:=zqy (k:Int) m 0;refine PW.g (nq2 lnL (nq2 ek d3)) ?_;refine PW.us ?_;cases hg:mfi (k:Int) m 0 with
   | none=>
    rw[hg]at hp hq;rw[←hq]at hf;refine PW.f (fun K k=>by simp(disch:=omega) only[go_sem,↓reduceIte,reduceCtorEq,hp,zae,zbS,zoA,z1,z2];exact k) ?_;(repeat refine PW.seq ?_);refine PW.drawg mix kr fun K hK=> ?_;simp(disch:=omega) only[go_sem,↓reduceIte,reduceCtorEq];refine hK _ _ ?_;clear hK K;refine PW.t ?_;refine PW.e ?_;refine PW.v (.bool false) ?_;rw[←hf];exact fin _ _
   | some y=>
    rw[hg]at hp hq;rw[←hq]at hf;obtain⟨⟨je,hje⟩,_⟩:=zfm (hB.trans hq.symm);have hye:=hsl _ (List.mem_of_getElem? hje);have sqe:=hsq _ _ hje;have y1:=zam y.2 hye;have y2:=zoo y.2;have y3:qQ 147 (zn y.2)=zn y.2:=qC om;have y4:=zvK y.2 hye;have y5:(zn y.2)[0]? =some (.int .i64 y.2.1.f):=rfl;have so:=fun K=>zuS y.2.2.1 (zdd x) (decide ((k:Int)≠y.2.1.f)) sqe hck K;have y6:((k:Int) !=y.2.1.f)=decide ((k:Int)≠y.2.1.f):=by rw[bne,Bool.eq_iff_iff];simp
    change (zeT y.2.2.1 (zdd x) (decide ((k:Int)≠y.2.1.f))&&zhh S (L.drop (k+1)) (k+1))=_ at hf;generalize decide ((k:Int)≠y.2.1.f)=tt at *;generalize y.2.2.1=sq at *;generalize zdd x=cx at *;have hp:zcE (.int .i64) (.int .i64 k) (mpC m) 0=some (some (y.1,.agg (zn y.2))):=hp;generalize zn y.2=ye at *;refine PW.f (fun K k=>by simp(disch:=omega) only[go_sem,↓reduceIte,reduceCtorEq,hp,zae,zbS,zoA,z1,z2,y1,y2,y3];exact k) ?_;(repeat refine PW.seq ?_);refine PW.drawg mix kr fun K hK=> ?_;simp(disch:=omega) only[go_sem,↓reduceIte,reduceCtorEq,lnL,ec,y4,y5,y6,y1];refine VCz.call (fun _=>so _) rfl ?_;refine sqz ?_;refine hK _ _ ?_;clear hK K;cases hs:zeT sq cx tt with
    | false=>
     rw[hs,jB]at hf;refine PW.t ?_;refine PW.e ?_;refine PW.v (.bool false) ?_;rw[←hf];exact fin _ _
    | true=>rw[hs,qU]at hf;refine PW.us ?_;refine PW.e ?_;refine PL.view (Vs.trim (F1:=[(0,.slice (itL L) L.length fl),(5,.slice (S.flatMap zn) S.length false),(6,.mp H.length 0),(45,.int .i64 (L.length:Int)),(46,.int .i64 ((k+1:Nat):Int))]) (H1:=H++[⟨67,0,mpC m⟩]) (fun hh=>zhC (fun b hb x hx=>by obtain rfl:=List.mem_singleton.1 hb;exact zqw _ _ x hx) hh) sp (by rw[List.append_assoc];rfl) ?_) (ih hf);exact⟨.id (zl (zcw _ _)),.id (zl fun x hx=>zbx _ S x hx),.id (.mp (by rw[qD];exact Nat.lt_succ_self _)),.id (.int _ _),.id (.int _ _),trivial⟩
  ·refine PL.round ?_;refine PW.e ?_;refine PW.u ?_;refine PW.exit ?_;refine PW.k no ?_;refine PW.v (.bool (zog L S)) ?_;rw[List.drop_length]at hf;rw[←hf];exact fin _ _
end Go.Proofs.YtpjlfoficnpfoaaGreatDoor.Sc
namespace Go.Proofs.YtpjlfoficnpfoaaGreatDoor.Sc
set_option linter.all false
open Pm Ty Go.RowKit
theorem zrk{l:List It}(hok:∀ x∈l,ItOk x)(h:ltB l=true):∀ x∈l,CdOk (zdd x):=fun x hx=>by unfold ltB at h;rw[qT]at h;have:=qS.1 h.2 x hx;unfold ltI at this;simp only[qT,decide_eq_true_eq]at this;exact⟨by have:=this.1.2.2;show x.us.length≤_;omega,fun u hu=>⟨(hok x hx).ut u hu,by have:=of_decide_eq_true (qS.1 this.2.2 u hu);omega⟩⟩
end Go.Proofs.YtpjlfoficnpfoaaGreatDoor.Sc
namespace Go.Proofs.YtpjlfoficnpfoaaGreatDoor.Sc
set_option linter.all false
open Pm Ty S3 Go.RowKit
theorem ltsW{l:List It}(hok:∀ x∈l,ItOk x)(h:ltB l=true):Lts l∧l.length≤60:=by
 unfold ltB at h;rw[qT,decide_eq_true_eq]at h;refine⟨⟨om,fun x hx=> ?_⟩,h.1⟩;have:=qS.1 h.2 x hx;unfold ltI at this;simp only[qT,decide_eq_true_eq]at this;obtain⟨⟨_,h1,h2⟩,_,h4⟩:=this;exact⟨hok x hx,om,om,fun u hu=>by
  have:=of_decide_eq_true (qS.1 h4 u hu);omega⟩
def gsL(L:List It)(n:Nat):List PV:=(List.range n).map fun i=>PV.int .i64 (grA L (i+1))
theorem zjA(L:List It)(n:Nat):(gsL L n).length=n:=by simp[gsL]
theorem zqY(L:List It){n i:Nat}(h:i<n):(gsL L n)[i]? =some (.int .i64 (grA L (i+1))):=by simp[gsL,List.getElem?_range h]
theorem zvy(m:Nat)(L:List It)(n:Nat):∀ x∈gsL L n,Scoped m x:=fun x hx=>by obtain⟨b,_,rfl⟩:=List.mem_map.1 hx;exact .int _ _
theorem zqX(L:List It)(n:Nat):gsL L (n+1)=gsL L n++[.int .i64 (grA L (n+1))]:=by simp[gsL,List.range_succ]
set_option maxHeartbeats 16000000 in
set_option maxRecDepth 100000 in
theorem zs2(L:List It)(fl:Bool)(hL:∀ x∈L,SqOk x.s)(hn:L.length≤800000)(H:za):CallOk Tryz.prog 18 [.slice (itL L) L.length fl] H (.slice (gsL L L.length) L.length false) H:=by
 have ln:=zak L hL;refine CallOk.go Tryz.func18 Tryz.ntmps18 Tryz.results18 ?_;refine PW.e ?_;refine PW.e ?_;refine PW.view (Vs.ghost 3 3 1 rfl) ?_;refine PW.e ?_;refine PW.e ?_;refine PW.l ?_;suffices hl1:∀ j:Nat,j≤L.length→PL Tryz.prog _ _ [(0,.slice (itL L) L.length fl),(3,.msl H.length (gsL L j).length 0 j 1 true),(4,.int .i64 (grA L j)),(5,.int .i64 (j:Int))] (H++[⟨3,(gsL L j).length,gsL L j⟩]) _ by exact PL.at [0,3,4,5] (hl1 0 om) rfl rfl
 refine cnt L.length (fun j hj ih=> ?_) ?_
 ·have ct:=ze9 hj;have ek:=zR L hL j 0 hj om;rw[zbK,qW]at ek;have gl:=zjA L j;have hg:grA L (j+1)=grS (grA L j) j L[j]:=by rw[grA,qR hj]
  rw[zqX,hg]at ih;unfold grS at ih;generalize gsL L j=U at *;generalize grA L j=g at *;generalize L[j]=x at *;refine PL.round ?_;refine PW.g ct ?_;refine PW.t ?_;refine PW.skip ?_;refine PW.b ?_;by_cases h2:x.k=2
  ·rw[if_neg om,if_pos h2]at ih;have d1:(x.k==2)=true:=by simp[h2]
   have d2:(x.k==4)=false:=by simp[h2]
   refine PW.g (nq2 ek (nq2 ln d1)) ?_;refine PW.t ?_;refine PW.e ?_;refine PW.g (nq2 ek (nq2 ln d2)) ?_;refine PW.us ?_;refine PW.g gl ?_;refine PW.e ?_;exact PL.at [0,3,4,5] ih (by simp[kp,slot,qV,gl]) sp
  rw[if_neg h2]at ih;have d1:(x.k==2)=false:=by simp[h2]
  refine PW.g (nq2 ek (nq2 ln d1)) ?_;refine PW.us ?_;by_cases h4:x.k=4
  ·rw[if_pos h4]at ih;have d2:(x.k==4)=true:=by simp[h4]
   refine PW.g (nq2 ek (nq2 ln d2)) ?_;refine PW.t ?_;refine PW.e ?_;refine PW.g gl ?_;refine PW.e ?_;exact PL.at [0,3,4,5] ih (by simp[kp,slot,qV,gl]) sp
  ·rw[if_neg h4]at ih;have d2:(x.k==4)=false:=by simp[h4]
   refine PW.g (nq2 ek (nq2 ln d2)) ?_;refine PW.us ?_;refine PW.g gl ?_;refine PW.e ?_;exact PL.at [0,3,4,5] ih (by simp[kp,slot,qV,gl]) sp
 ·refine PL.round ?_;refine PW.f (fun K k=>by simp(disch:=omega) only[go_sem,↓reduceIte,reduceCtorEq,zl9 L.length];exact k) ?_;refine PW.u ?_;refine PW.exit ?_;have gl:=zjA L L.length;have gs:=zvy H.length L L.length;generalize gsL L L.length=U at *;refine PW.e ?_;refine PW.v (.msl H.length U.length 0 L.length 1 true) ?_;refine Fin.base ?_;exact Fz.mslC (e:=3) (xs:=U) (qY _) (hp0 _ _ _) (by rw[gl,Nat.mul_one]) (FzC.refl gs)
end Go.Proofs.YtpjlfoficnpfoaaGreatDoor.Sc
namespace Go.Proofs.YtpjlfoficnpfoaaGreatDoor.Sc
set_option linter.all false
open Pm Ty Go.RowKit
theorem ziT(i j v:Nat)(q:List UInt8)(n a:Nat)(H:za)(hA:H[i]? =some (rR j v n a))(hB:H[j]? =some (rB q v))(hne:i≠j)(ha:a≤n)(hn:n≤8 * q.length)(hq:q.length≤100000000):
  CallOk Tryz.prog 273 [.ptr i 0 0] H (rvU (tkU q n a)) (H.set i (rR j v n (tkU q n a).at)):=by
 have hself:=zO hA;have lf:=zd1 i j v q n a H hA hB ha om;have hrl:(bs (zb (bl q))).length=8 * q.length:=by rw[zc,zP,zch]
 refine CallOk.go Tryz.func273 Tryz.ntmps273 Tryz.results273 ?_;refine PW.e ?_;refine PW.e ?_;refine PW.l ?_;suffices hl:∀ k,k≤15→zrs q n 16 a=k+zrs q n (16 - k) (a+k)→a+k≤n→PL Tryz.prog _ _ [(0,.ptr i 0 0),(4,.int .i64 (k:Int))] H _ by exact PL.at [0,4] (hl 0 om sp om) rfl rfl
 intro k hk hz hkn;induction hd:16 - k using qZ generalizing k with
 | _ d ih=>
  subst hd;have e1:(a:Int)+(k:Int)=((a+k:Nat):Int):=om;have hub:=zbV q (a+k);refine PL.round ?_;by_cases h1:a+k<n∧zN q (a+k)=0
  ·have d1:decide ((k:Int)<((n - a:Nat):Int))=true:=decide_eq_true om;have hg:=zhW q (a+k) om;rw[h1.2]at hg;(repeat refine PW.seq ?_);refine PW.draw mix kr fun K hK=> ?_;simp(disch:=omega) only[go_sem,↓reduceIte,reduceCtorEq];refine VCy.call (lf) rfl ?_;simp(disch:=omega) only[go_sem,↓reduceIte,reduceCtorEq,d1,hA,hB,rR,rB,e1,hrl,hg];refine hK _ _ ?_;clear hK K;refine PW.t ?_;refine PW.skip ?_;refine PW.b ?_;refine PW.e ?_;have hzs:zrs q n (16 - k) (a+k)=zrs q n (16 - (k+1)) (a+(k+1))+1:=by rw[show 16 - k=(16 - (k+1))+1 from om,zjV h1.1 h1.2];rfl
   by_cases h15:k=15
   ·have hr:tkU q n a= .er 2 a:=by subst h15;unfold tkU;rw[if_pos (by rw[hz,hzs];rfl)]
    have d2:((k:Int)+1==16)=true:=by simp[h15]
    refine PW.g d2 ?_;refine PW.t ?_;refine PW.e ?_;rw[hr];show PW _ _ _ _ H _;rw[←hself];exact PW.ret ⟨_,rfl,.inl ⟨rfl,by rw[hself];exact hself.symm⟩⟩
   ·have d2:((k:Int)+1==16)=false:=by rw[beq_eq_false_iff_ne];omega
    refine PW.g d2 ?_;refine PW.us ?_;exact PL.at [0,4] (ih (16 - (k+1)) om (k+1) om om om rfl) (by simp[kp,slot,qV]) rfl
  have hz0:zrs q n (16 - k) (a+k)=0:=by
   by_cases h2:a+k<n
   ·exact zmq om
   ·exact zmr om
  rw[hz0,qW]at hz;suffices hrest:PW Tryz.prog _ _ [(0,.ptr i 0 0),(4,.int .i64 (k:Int)),(25,.bool false)] H _ by
   by_cases h2:a+k<n
   ·have d1:decide ((k:Int)<((n - a:Nat):Int))=true:=decide_eq_true om;have hg:=zhW q (a+k) om;rw[show zN q (a+k)=1 from om]at hg;(repeat refine PW.seq ?_);refine PW.draw mix kr fun K hK=> ?_;simp(disch:=omega) only[go_sem,↓reduceIte,reduceCtorEq];refine VCy.call (lf) rfl ?_;simp(disch:=omega) only[go_sem,↓reduceIte,reduceCtorEq,d1,hA,hB,rR,rB,e1,hrl,hg];refine hK _ _ ?_;clear hK K;exact PW.at [0,4,25] hrest rfl rfl
   ·have d1:decide ((k:Int)<((n - a:Nat):Int))=false:=decide_eq_false om;(repeat refine PW.seq ?_);refine PW.draw mix kr fun K hK=> ?_;simp(disch:=omega) only[go_sem,↓reduceIte,reduceCtorEq];refine VCy.call (lf) rfl ?_;simp(disch:=omega) only[go_sem,↓reduceIte,reduceCtorEq,d1];refine hK _ _ ?_;clear hK K;exact PW.at [0,4,25] hrest rfl rfl
  refine PW.u ?_;refine PW.exit ?_;by_cases h3:n - a<2 * k+1
  ·have hr:tkU q n a= .er 3 a:=by unfold tkU;rw[if_neg om,if_pos om]
   have d3:decide (((n - a:Nat):Int)<2 * (k:Int)+1)=true:=decide_eq_true om;refine PW.f (fun K k=>by simp(disch:=omega) only[go_sem,↓reduceIte,reduceCtorEq,d3];refine VCx.call (lf) rfl ?_;simp(disch:=omega) only[go_sem,↓reduceIte,reduceCtorEq,d3];exact k) ?_;refine PW.t ?_;refine PW.e ?_;rw[hr];exact PW.ret ⟨_,rfl,.inl ⟨rfl,hself.symm⟩⟩
  ·have hr:tkU q n a= .ok (2^k+vl q (a+k+1) k - 1) (a+(2 * k+1)):=by unfold tkU;rw[if_neg om,if_neg om,hz]
   have d3:decide (((n - a:Nat):Int)<2 * (k:Int)+1)=false:=decide_eq_false om;have hvv:=zuC q n a om om;rw[hz]at hvv;have tk:=zd0 i j v q n a (2 * k+1) H hA hB hne om hn hq om;rw[hvv]at tk;have hvl:=zf6 q (a+k+1) k;have hpw:2^k≤2^15:=Nat.pow_le_pow_right om hk;have hp0:0<2^k:=Nat.pow_pos om;have e4:(2:Int) * (k:Int)+1=((2 * k+1:Nat):Int):=om;rw[hr];simp only[rvU,Rr.at];have hw1:1≤2^k+vl q (a+k+1) k∧2^k+vl q (a+k+1) k≤65536:=om;generalize 2^k+vl q (a+k+1) k=w at *;have e5:(w:Int) - 1=((w - 1:Nat):Int):=om;refine PW.f (fun K k=>by simp(disch:=omega) only[go_sem,↓reduceIte,reduceCtorEq,d3];refine VCx.call (lf) rfl ?_;simp(disch:=omega) only[go_sem,↓reduceIte,reduceCtorEq,d3];exact k) ?_;refine PW.us ?_;refine PW.f (fun K k=>by simp(disch:=omega) only[go_sem,↓reduceIte,reduceCtorEq,e4];refine VCx.call (tk) rfl ?_;simp(disch:=omega) only[go_sem,↓reduceIte,reduceCtorEq,e4];exact k) ?_;refine PW.g e5 ?_;exact PW.ret ⟨_,rfl,Fin.now⟩
theorem zdu(i j v:Nat)(q:List UInt8)(n a:Nat)(H:za)(hA:H[i]? =some (rR j v n a))(hB:H[j]? =some (rB q v))(hne:i≠j)(ha:a≤n)(hn:n≤8 * q.length)(hq:q.length≤100000000):
  CallOk Tryz.prog 276 [.ptr i 0 0] H (rvS (tkS q n a)) (H.set i (rR j v n (tkS q n a).at)):=by
 have t:=ziT i j v q n a H hA hB hne ha hn hq;unfold tkS;cases hu:tkU q n a with
 | er e a1=>
  rw[hu]at t;have he:=(zf7 hu).2;simp only[Rr.bind,rvU,rvS,Rr.at]at t ⊢;generalize H.set i (rR j v n a1)=Hz at *;refine CallOk.go Tryz.func276 Tryz.ntmps276 Tryz.results276 ?_;refine PW.e ?_;refine PW.f (fun K k=>by simp(disch:=omega) only[go_sem,↓reduceIte,reduceCtorEq];refine VCx.call (t) rfl ?_;simp(disch:=omega) only[go_sem,↓reduceIte,reduceCtorEq];exact k) ?_;refine PW.e ?_;refine PW.us ?_;refine PW.e ?_;exact PW.ret ⟨_,rfl,Fin.now⟩
 | ok w a1=>
  rw[hu]at t;have hb:=(zdh hu ha).1;simp only[Rr.bind,rvU,rvS,Rr.at]at t ⊢;generalize H.set i (rR j v n a1)=Hz at *;have hm:(w:Int).tmod 2=((w%2:Nat):Int):=zkd w 2;refine CallOk.go Tryz.func276 Tryz.ntmps276 Tryz.results276 ?_;refine PW.e ?_;refine PW.f (fun K k=>by simp(disch:=omega) only[go_sem,↓reduceIte,reduceCtorEq];refine VCx.call (t) rfl ?_;simp(disch:=omega) only[go_sem,↓reduceIte,reduceCtorEq];exact k) ?_;by_cases h2:w%2=1
  ·have hus:usg w=(((w+1) / 2:Nat):Int):=by unfold usg;rw[if_pos h2]
   rw[hus];have e1:(w:Int)+1=((w+1:Nat):Int):=om;have e2:(((w+1:Nat):Int)).tdiv 2=(((w+1) / 2:Nat):Int):=zmG _ 2;refine PW.g (nq2 hm h2) ?_;refine PW.t ?_;refine PW.g (nq2 e1 e2) ?_;exact PW.ret ⟨_,rfl,Fin.now⟩
  ·have h3:w%2=0:=om;have hus:usg w= -((w / 2:Nat):Int):=by unfold usg;rw[if_neg h2]
   rw[hus];have e2:(w:Int).tdiv 2=((w / 2:Nat):Int):=zmG _ 2;refine PW.g (nq2 hm h3) ?_;refine PW.us ?_;refine PW.f (fun K k=>by simp(disch:=omega) only[go_sem,↓reduceIte,reduceCtorEq,Int.zero_sub,e2];exact k) ?_;exact PW.ret ⟨_,rfl,Fin.now⟩
theorem rRscN(j v n a k:Nat)(hj:j<k):∀ x∈(rR j v n a).cells,Scoped k x:=fun x hx=>by
 simp only[rR,qL,qH,or_false]at hx;rcases hx with rfl|rfl
 ·exact .msl hj
 ·exact .int _ _
theorem zmd(H:za)(i j v n a:Nat)(hj:j<H.length)(h:HSc H):HSc (H.set i (rR j v n a)):=HSc.set h (rRscN _ _ _ _ _ hj)
def rrH(H:za)(i j v n a:Nat)(l l':List Int):za:=H.set i (rR j v n a)++[⟨146,0,is l⟩,⟨146,0,is l'⟩]
section
variable (H:za) (i j v n a:Nat) (l l':List Int)
theorem ztP(hi:i<H.length):(rrH H i j v n a l l')[i]? =some (rR j v n a):=by unfold rrH;rw[qJ (by simpa using hi)];simp[hi]
theorem ztO{B:Blk}(hj:H[j]? =some B)(hne:i≠j):(rrH H i j v n a l l')[j]? =some B:=by unfold rrH;rw[qJ (by simpa using(qE.1 hj).1),jF hne];exact hj
theorem zi3(hi:i<H.length)(a':Nat):(rrH H i j v n a l l').set i (rR j v n a')=rrH H i j v n a' l l':=by unfold rrH;rw[jE _ _ (by simpa using hi),List.set_set]
theorem zdj:(rrH H i j v n a l l')[H.length]? =some ⟨146,0,is l⟩:=by have:=hp0 (H.set i (rR j v n a)) [⟨146,0,is l'⟩] ⟨146,0,is l⟩;rwa[qB]at this
theorem ztQ:(rrH H i j v n a l l')[H.length+1]? =some ⟨146,0,is l'⟩:=by have:=hp1 (H.set i (rR j v n a)) [] ⟨146,0,is l⟩ ⟨146,0,is l'⟩;rwa[qB]at this
theorem zfB(m:List Int):(rrH H i j v n a l l').set H.length ⟨146,0,is m⟩=rrH H i j v n a m l':=by have:=hs0 (H.set i (rR j v n a)) [⟨146,0,is l'⟩] ⟨146,0,is l⟩ ⟨146,0,is m⟩;rwa[qB]at this
theorem zu3(m:List Int):(rrH H i j v n a l l').set (H.length+1) ⟨146,0,is m⟩=rrH H i j v n a l m:=by have:=hs1 (H.set i (rR j v n a)) [] ⟨146,0,is l⟩ ⟨146,0,is l'⟩ ⟨146,0,is m⟩;rwa[qB]at this
end
set_option maxHeartbeats 1000000 in
theorem zf5(i j v:Nat)(q:List UInt8)(n a fr:Nat)(H:za)(hA:H[i]? =some (rR j v n a))(hB:H[j]? =some (rB q v))(hne:i≠j)(ha:a≤n)(hn:n≤8 * q.length)(hq:q.length≤100000000)(hfr:fr≤1):
  CallOk Tryz.prog 278 [.ptr i 0 0,.int .i64 (fr:Int)] H (rvB (zdo q n fr a)) (H.set i (rR j v n (zdo q n fr a).at)):=by
 have hi:=(qE.1 hA).1;have hj:=(qE.1 hB).1;have hself:=zO hA;have al:=fun x K=>ziM x K;have hz:(is z64).length=64:=by rw[zar];simp[z64]
 have hzc:is z64=jA 64 (.int .i64 0):=by simp[is,z64]
 have htz:qQ 64 (is z64)=is z64:=qC om;have hdz:List.drop 64 (is z64)=[]:=List.drop_of_length_le om;have hcz:=zaR z64;generalize hres:zdo q n fr a=res;refine CallOk.go Tryz.func278 Tryz.ntmps278 Tryz.results278 ?_;refine PW.e ?_;refine PW.e ?_;refine PW.to [0,1,4,6] [(0,.ptr i 0 0),(1,.int .i64 (fr:Int)),(4,.ptr H.length 0 0),(6,.ptr (H.length+1) 0 0)] (rrH H i j v n a z64 z64) ?_ ?_
 ·have h2:fr=0∨fr=1:=om;rcases h2 with rfl|rfl
  ·refine PW.e ?_;refine PW.u ?_;exact PW.skip ⟨rfl,by unfold rrH;rw[hself];rfl⟩
  ·refine PW.e ?_;refine PW.u ?_;exact PW.skip ⟨rfl,by unfold rrH;rw[hself];rfl⟩
 refine PW.e ?_;refine PW.l ?_;suffices hl:∀(f at' a:Nat) (l:List Int),at'≤64→64 - at'<f→a≤n→l.length=64→tkB q n f at' a l=res→PL Tryz.prog _ _ [(0,.ptr i 0 0),(4,.ptr H.length 0 0),(6,.ptr (H.length+1) 0 0),(7,.int .i64 (at':Int))] (rrH H i j v n a z64 l) _ by exact PL.at [0,4,6,7] (hl 65 fr a z64 om om ha (by simp[z64]) hres) rfl rfl
 clear hself hA ha hres;intro f;induction f with
 | zero=>intro at' a l h1 h2;omega
 | succ f ih=>
  intro at' a l h1 h2 ha hll hr;have tu:=ziT i j v q n a (rrH H i j v n a z64 l) (ztP H i j v n a z64 l hi) (ztO H i j v n a z64 l hB hne) hne ha hn hq;simp only[tkB]at hr;have hil:(is l).length=64:=by rw[zar,hll]
  have htk:qQ 64 (is l)=is l:=qC om;have hcel:=zaR l;have fail:∀(e a1:Nat) (m:List Int),Fin H (rvB (.er e a1)) (H.set i (rR j v n a1)) (.tup [.agg (is z64),.int .i64 ((e:Int)+1)]) (rrH H i j v n a1 z64 m):=fun e a1 m=>Fin.cut rfl sp (zmd _ _ _ _ _ _ hj) (.id (zi2 _ (.er e a1)));refine PL.round ?_;refine PW.b ?_;cases hu:tkU q n a with
  | er e1 a1=>
   rw[hu,Rr.bind_er]at hr;subst hr;rw[hu]at tu;simp only[rvU,Rr.at,zi3 _ _ _ _ _ _ _ _ hi]at tu;have d0:((e1:Int)+1 !=0)=true:=by simp;omega
   have he:=(zf7 hu).2;refine PW.f (fun K k=>by simp(disch:=omega) only[go_sem,↓reduceIte,reduceCtorEq];refine VCx.call (tu) rfl ?_;simp(disch:=omega) only[go_sem,↓reduceIte,reduceCtorEq];exact k) ?_;refine PW.g d0 ?_;refine PW.t ?_;refine PW.f (fun K k=>by simp(disch:=omega) only[go_sem,↓reduceIte,reduceCtorEq,zdj,hz,←hzc,hcz,hdz,zfB];exact k) ?_;refine PW.ret ⟨.tup [.agg (is z64),.int .i64 ((e1:Int)+1)],by simp(disch:=omega) only[go_sem,↓reduceIte,reduceCtorEq,zr,zF,qM,qO,qK,qF,qG,qP,zdj,hz,htz],?_⟩;exact fail e1 a1 l
  | ok w1 a1=>
   have b1:=zdh hu ha;rw[hu,Rr.bind_ok]at hr;rw[hu]at tu;simp only[rvU,Rr.at,zi3 _ _ _ _ _ _ _ _ hi]at tu;refine PW.f (fun K k=>by simp(disch:=omega) only[go_sem,↓reduceIte,reduceCtorEq];refine VCx.call (tu) rfl ?_;simp(disch:=omega) only[go_sem,↓reduceIte,reduceCtorEq];exact k) ?_;refine PW.e ?_;refine PW.us ?_;by_cases hv0:w1=0
   ·rw[if_pos hv0]at hr;subst hr;have d1:((w1:Int)==0)=true:=by simp[hv0]
    refine PW.g d1 ?_;refine PW.t ?_;refine PW.f (fun K k=>by simp(disch:=omega) only[go_sem,↓reduceIte,reduceCtorEq,ztQ,zdj,hil,hz,htk,hcel,hdz,zfB];exact k) ?_;refine PW.ret ⟨.tup [.agg (is l),.int .i64 0],by simp(disch:=omega) only[go_sem,↓reduceIte,reduceCtorEq,zr,zF,qM,qO,qK,qF,qG,qP,zdj,hil,htk],?_⟩;exact Fin.cut rfl sp (zmd _ _ _ _ _ _ hj) (.id (zi2 _ (.ok l a1)))
   rw[if_neg hv0]at hr;have d1:((w1:Int)==0)=false:=by rw[beq_eq_false_iff_ne];omega
   refine PW.g d1 ?_;refine PW.us ?_;have e1:(at':Int)+(w1:Int) - 1=((at'+w1 - 1:Nat):Int):=om;refine PW.g e1 ?_;by_cases h64:64<at'+w1
   ·rw[if_pos h64]at hr;subst hr;have d2:decide ((63:Int)<((at'+w1 - 1:Nat):Int))=true:=decide_eq_true om;refine PW.g d2 ?_;refine PW.t ?_;refine PW.f (fun K k=>by simp(disch:=omega) only[go_sem,↓reduceIte,reduceCtorEq,zdj,hz,←hzc,hcz,hdz,zfB];exact k) ?_;refine PW.ret ⟨.tup [.agg (is z64),.int .i64 3],by simp(disch:=omega) only[go_sem,↓reduceIte,reduceCtorEq,zr,zF,qM,qO,qK,qF,qG,qP,zdj,hz,htz],?_⟩;exact fail 2 a1 l
   rw[if_neg h64]at hr;have d2:decide ((63:Int)<((at'+w1 - 1:Nat):Int))=false:=decide_eq_false om;refine PW.g d2 ?_;refine PW.us ?_;have ts:=zdu i j v q n a1 (rrH H i j v n a1 z64 l) (ztP H i j v n a1 z64 l hi) (ztO H i j v n a1 z64 l hB hne) hne b1.2.2 hn hq;cases hw:tkS q n a1 with
   | er e2 a2=>
    rw[hw,Rr.bind_er]at hr;subst hr;rw[hw]at ts;have he:=(zeL hw).2;simp only[rvS,Rr.at,zi3 _ _ _ _ _ _ _ _ hi]at ts;have d0:((e2:Int)+1 !=0)=true:=by simp;omega
    refine PW.f (fun K k=>by simp(disch:=omega) only[go_sem,↓reduceIte,reduceCtorEq];refine VCx.call (ts) rfl ?_;simp(disch:=omega) only[go_sem,↓reduceIte,reduceCtorEq];exact k) ?_;refine PW.g d0 ?_;refine PW.t ?_;refine PW.f (fun K k=>by simp(disch:=omega) only[go_sem,↓reduceIte,reduceCtorEq,zdj,hz,←hzc,hcz,hdz,zfB];exact k) ?_;refine PW.ret ⟨.tup [.agg (is z64),.int .i64 ((e2:Int)+1)],by simp(disch:=omega) only[go_sem,↓reduceIte,reduceCtorEq,zr,zF,qM,qO,qK,qF,qG,qP,zdj,hz,htz],?_⟩;exact fail e2 a2 l
   | ok w a2=>
    have b2:=zcn hw b1.2.2;rw[hw,Rr.bind_ok]at hr;rw[hw]at ts;simp only[rvS,Rr.at,zi3 _ _ _ _ _ _ _ _ hi]at ts;refine PW.f (fun K k=>by simp(disch:=omega) only[go_sem,↓reduceIte,reduceCtorEq];refine VCx.call (ts) rfl ?_;simp(disch:=omega) only[go_sem,↓reduceIte,reduceCtorEq];exact k) ?_;refine PW.e ?_;refine PW.us ?_;by_cases hw0:w=0
    ·rw[if_pos hw0]at hr;subst hr;have d3:(w==0)=true:=by simp[hw0]
     refine PW.g d3 ?_;refine PW.t ?_;refine PW.f (fun K k=>by simp(disch:=omega) only[go_sem,↓reduceIte,reduceCtorEq,zdj,hz,←hzc,hcz,hdz,zfB];exact k) ?_;refine PW.ret ⟨.tup [.agg (is z64),.int .i64 3],by simp(disch:=omega) only[go_sem,↓reduceIte,reduceCtorEq,zr,zF,qM,qO,qK,qF,qG,qP,zdj,hz,htz],?_⟩;exact fail 2 a2 l
    ·rw[if_neg hw0]at hr;have d3:(w==0)=false:=by simp[hw0]
     have alw:=fun K=>al w K;cases hwn:win w 4095 with
     | false=>
      rw[hwn,if_pos rfl]at hr;rw[hwn]at alw;subst hr;(repeat refine PW.seq ?_);refine PW.rg rfl fun K hK=> ?_;simp(disch:=omega) only[go_sem,↓reduceIte,reduceCtorEq,d3];refine VCx.call (alw _) rfl ?_;simp(disch:=omega) only[go_sem,↓reduceIte,reduceCtorEq];refine hK _ _ ?_;clear hK K;refine PW.t ?_;refine PW.f (fun K k=>by simp(disch:=omega) only[go_sem,↓reduceIte,reduceCtorEq,zdj,hz,←hzc,hcz,hdz,zfB];exact k) ?_;refine PW.ret ⟨.tup [.agg (is z64),.int .i64 3],by simp(disch:=omega) only[go_sem,↓reduceIte,reduceCtorEq,zr,zF,qM,qO,qK,qF,qG,qP,zdj,hz,htz],?_⟩;exact fail 2 a2 l
     | true=>rw[hwn,if_neg (by decide)]at hr;rw[hwn]at alw;(repeat refine PW.seq ?_);refine PW.rg rfl fun K hK=> ?_;simp(disch:=omega) only[go_sem,↓reduceIte,reduceCtorEq,d3];refine VCx.call (alw _) rfl ?_;simp(disch:=omega) only[go_sem,↓reduceIte,reduceCtorEq];refine hK _ _ ?_;clear hK K;refine PW.us ?_;refine PW.f (fun K k=>by simp(disch:=omega) only[go_sem,↓reduceIte,reduceCtorEq,ztQ,hil,zjy,zu3];exact k) ?_;refine PW.e ?_;exact PL.at [0,4,6,7] (ih (at'+w1) a2 _ om om b2.2.2 (by rw[qB,hll]) hr) (by simp[kp,slot,qV];omega) rfl
end Go.Proofs.YtpjlfoficnpfoaaGreatDoor.Sc
namespace Go.Proofs.YtpjlfoficnpfoaaGreatDoor.Sc
set_option linter.all false
open Pm Ty Go.RowKit
theorem zjO(i j v:Nat)(q:List UInt8)(n a:Nat)(H:za)(hA:H[i]? =some (rR j v n a))(hB:H[j]? =some (rB q v))(hne:i≠j)(ha:a≤n)(hn:n≤8 * q.length)(hq:q.length≤100000000):
  CallOk Tryz.prog 274 [.ptr i 0 0] H (rvF (tkF q n a)) (H.set i (rR j v n (tkF q n a).at)):=by
 have hself:=zO hA;cases hf:tkF q n a with
 | ok b a1=>
  obtain⟨rfl,h2,rfl⟩:=zdi hf;have t:=zd0 i j v q n a 1 _ hA hB hne om hn hq om;rw[show vl q a 1=zN q a by simp[vl]]at t;have e1:((zN q a:Int)==1)=decide (zN q a=1):=by rw[Bool.eq_iff_iff];simp;omega
  simp only[rvF,Rr.at];generalize H.set i (rR j v n (a+1))=Hz at *;refine CallOk.go Tryz.func274 Tryz.ntmps274 Tryz.results274 ?_;refine PW.e ?_;refine PW.f (fun K k=>by simp(disch:=omega) only[go_sem,↓reduceIte,reduceCtorEq];refine VCx.call (t) rfl ?_;simp(disch:=omega) only[go_sem,↓reduceIte,reduceCtorEq];exact k) ?_;refine PW.g e1 ?_;exact PW.ret ⟨_,rfl,Fin.now⟩
 | er e a1=>obtain⟨rfl,rfl,h2⟩:=zf8 hf;have t:=zfA i j v q n a1 1 _ hA hB om om om om;simp only[rvF,Rr.at,hself];refine CallOk.go Tryz.func274 Tryz.ntmps274 Tryz.results274 ?_;refine PW.e ?_;refine PW.f (fun K k=>by simp(disch:=omega) only[go_sem,↓reduceIte,reduceCtorEq];refine VCx.call (t) rfl ?_;simp(disch:=omega) only[go_sem,↓reduceIte,reduceCtorEq];exact k) ?_;refine PW.e ?_;exact PW.ret ⟨_,rfl,Fin.now⟩
def uG(H:za)(i j v n a:Nat)(X:za)(B4 B5:Blk)(K:za):za:=H.set i (rR j v n a)++(X++B4::B5::K)
def mW(m:Mb):Blk:=⟨149,1,mbc m⟩
theorem zW(m:Mb):(mW m).ver=1:=rfl
theorem zX(m:Mb):(mW m).cells=mbc m:=rfl
theorem zcl(m:Mb):(mW m).e=149:=rfl
theorem za4(m:Mb):(⟨149,1,mbc m⟩:Blk)=mW m:=rfl
def sB(s:St):Blk:=⟨217,1,stc s⟩
theorem zgl(s:St):(sB s).ver=1:=rfl
theorem zgm(s:St):(sB s).cells=stc s:=rfl
theorem zpH(s:St):(sB s).e=217:=rfl
theorem zks(s:St):(⟨217,1,stc s⟩:Blk)=sB s:=rfl
section
variable (H:za) (i j v n a:Nat) (X:za) (B4 B5:Blk) (K:za)
theorem zcS(hX:X.length=4):(uG H i j v n a X B4 B5 K).length=H.length+6+K.length:=by simp[uG,hX];omega
theorem zgM(L:za):uG H i j v n a X B4 B5 K++L=uG H i j v n a X B4 B5 (K++L):=by simp[uG]
theorem zr2(hi:i<H.length):(uG H i j v n a X B4 B5 K)[i]? =some (rR j v n a):=by unfold uG;rw[qJ (by simpa using hi)];simp[hi]
theorem zr1{B:Blk}(hj:H[j]? =some B)(hne:i≠j):(uG H i j v n a X B4 B5 K)[j]? =some B:=by unfold uG;rw[qJ (by simpa using(qE.1 hj).1),jF hne];exact hj
theorem zj7(hi:i<H.length)(a':Nat):(uG H i j v n a X B4 B5 K).set i (rR j v n a')=uG H i j v n a' X B4 B5 K:=by unfold uG;rw[jE _ _ (by simpa using hi),List.set_set]
theorem zoT(hX:X.length=4):(uG H i j v n a X B4 B5 K)[H.length+4]? =some B4:=by unfold uG;rw[qA sp,qB,show H.length+4 - H.length=4 from om,qA om,hX];rfl
theorem zoS(hX:X.length=4):(uG H i j v n a X B4 B5 K)[H.length+5]? =some B5:=by unfold uG;rw[qA sp,qB,show H.length+5 - H.length=5 from om,qA om,hX];rfl
theorem zuu(hX:X.length=4)(B:Blk):(uG H i j v n a X B4 B5 (B::K))[H.length+6]? =some B:=by unfold uG;rw[qA sp,qB,show H.length+6 - H.length=6 from om,qA om,hX];rfl
theorem zj8(hX:X.length=4)(B:Blk):(uG H i j v n a X B4 B5 K).set (H.length+4) B=uG H i j v n a X B B5 K:=by unfold uG;rw[qN _ _ sp,qB,show H.length+4 - H.length=4 from om,qN _ _ om,hX];rfl
theorem zic(hX:X.length=4)(B:Blk):(uG H i j v n a X B4 B5 K).set (H.length+5) B=uG H i j v n a X B4 B K:=by unfold uG;rw[qN _ _ sp,qB,show H.length+5 - H.length=5 from om,qN _ _ om,hX];rfl
end
theorem zwZ(m:Mb)(n:Nat):∀ x∈(mW m).cells,Scoped n x:=fun x hx=>zjr [m] n x (by simpa[mW]using hx)
theorem zwI(s:St)(n:Nat):∀ x∈(sB s).cells,Scoped n x:=fun x hx=>by simp only[sB,stc,qL,qH,or_false]at hx;rcases hx with rfl|rfl|rfl|rfl|rfl|rfl|rfl|rfl<;>exact .int _ _
theorem zqV(H:za)(i j v n a a':Nat)(X:za)(m m':Mb)(s s':St)(hi:i<H.length)(hj:j<H.length)(hX:X.length=4)(h:HSc (uG H i j v n a X (mW m) (sB s) [])):HSc (uG H i j v n a' X (mW m') (sB s') []):=by have h1:=HSc.set (id:=i) (k:=rR j v n a') h (rRscN j v n a' _ (by rw[zcS _ _ _ _ _ _ _ _ _ _ hX];omega));rw[zj7 _ _ _ _ _ _ _ _ _ _ hi]at h1;have h2:=HSc.set (id:=H.length+4) (k:=mW m') h1 (zwZ m' _);rw[zj8 _ _ _ _ _ _ _ _ _ _ hX]at h2;have h3:=HSc.set (id:=H.length+5) (k:=sB s') h2 (zwI s' _);rwa[zic _ _ _ _ _ _ _ _ _ _ hX]at h3
def rvK:Rr (Mb×Bool)→PV
 | .ok x _=>.tup [.bool x.2,.int .i64 0]
 | .er e _=>.tup [.bool false,.int .i64 ((e:Int)+1)]
def zdt(m:Mb):Mb:={ m with ca:=false,cb:=false,cc:=false,cd:=false,ce:=false,cf:=false }
def mKd:Rr (Mb×Bool)→Mb
 | .ok x _=>zdt x.1
 | .er _ _=>zMb
end Go.Proofs.YtpjlfoficnpfoaaGreatDoor.Sc
namespace Go.Proofs.YtpjlfoficnpfoaaGreatDoor.Sc
set_option linter.all false
open Pm Ty Go.RowKit
theorem zu1(n:Nat)(x:Rr (Mb×Bool)):Scoped n (rvK x):=by
 cases x<;>
 exact .tup (zbf fun x hx=>by
  simp only[qL,qH,or_false]at hx;rcases hx with rfl|rfl
  ·exact .bool _
  ·exact .int _ _)
section
variable (H:za) (i j v:Nat) (q:List UInt8) (n a:Nat) (X:za) (c:Cx) (s:St) (hi:i<H.length) (hB:H[j]? =some (rB q v)) (hne:i≠j) (hX:X.length=4) (ha:a≤n) (hn:n≤8 * q.length) (hq:q.length≤100000000)
include hi hB hne hX ha hn hq
set_option maxHeartbeats 4000000 in
theorem zqL:CallOk Tryz.prog 194 [.ptr i 0 0,.agg (cxc c),.ptr (H.length+4) 1 0] (uG H i j v n a X (mW zMb) (sB s) []) (rvK (zbW c q n a)) (uG H i j v n (match zbW c q n a with| .ok _ a1=>a1| .er _ a1=>a1) X (mW (mKd (zbW c q n a))) (sB s) []):=by
 have hj:=(qE.1 hB).1;have g6:=fun a B4 B5 K B=>zuu H i j v n a X B4 B5 K hX B;have g5:=fun a B4 B5 K=>zoS H i j v n a X B4 B5 K hX;have g4:=fun a B4 B5 K=>zoT H i j v n a X B4 B5 K hX;have s5:=fun a B4 B5 K B=>zic H i j v n a X B4 B5 K hX B;have s4:=fun a B4 B5 K B=>zj8 H i j v n a X B4 B5 K hX B;have c1:=zdT c;have cx0:(cxc c)[0]? =some (.int .i64 c.t):=rfl;have hzl:=zw zMb zai;have hzl2:=zw { zMb with k:=2 } zai;have hlen:=zcS H i j v n a X (mW zMb) (sB s) [] hX;have fin:∀(w:PV) (a':Nat) (m:Mb) (_:Scoped (H.length+6) w),Fin (uG H i j v n a X (mW zMb) (sB s) []) w (uG H i j v n a' X (mW m) (sB s) []) w (uG H i j v n a' X (mW m) (sB s) [⟨165,0,cxc c⟩]):=fun w a' m hw=>by refine Fin.cut (K:=[⟨165,0,cxc c⟩]) (zgM H i j v n a' X (mW m) (sB s) [] _).symm (by rw[zcS _ _ _ _ _ _ _ _ _ _ hX,zcS _ _ _ _ _ _ _ _ _ _ hX]) (zqV H i j v n a a' X zMb m s s hi hj hX) ?_;rw[zcS _ _ _ _ _ _ _ _ _ _ hX];exact .id hw
 have tu:=ziT i j v q n a (uG H i j v n a X (mW zMb) (sB s) [⟨165,0,cxc c⟩]) (zr2 _ _ _ _ _ _ _ _ _ _ hi) (zr1 _ _ _ _ _ _ _ _ _ _ hB hne) hne ha hn hq;rw[zj7 _ _ _ _ _ _ _ _ _ _ hi]at tu;generalize hres:zbW c q n a=res;have hrs:=zu1 (H.length+6) res;unfold zbW at hres;refine CallOk.go Tryz.func194 Tryz.ntmps194 Tryz.results194 ?_;refine PW.g c1 ?_;refine PW.at [0,2,4] (F1:=[(0,.ptr i 0 0),(2,.ptr (H.length+4) 1 0),(4,.ptr (H.length+6) 0 0)]) (H1:=uG H i j v n a X (mW zMb) (sB s) [⟨165,0,cxc c⟩]) ?_ (by simp[kp,slot,qV,hlen]) (zgM _ _ _ _ _ _ _ _ _ _ _);by_cases ht1:c.t=1
 ·have q1:(c.t==1)=true:=by simp[ht1]
  rw[if_pos ht1]at hres;subst hres;refine PW.g (nq2 g6 (nq2 cx0 q1)) ?_;refine PW.t ?_;refine PW.f (fun K k=>by simp(disch:=omega) only[go_sem,↓reduceIte,reduceCtorEq,g4,s4,zW,zX,zcl,zhz,za4,hzl];exact k) ?_;refine PW.e ?_;exact PW.ret ⟨_,rfl,fin _ a _ hrs⟩
 have q1:(c.t==1)=false:=by simp[ht1]
 rw[if_neg ht1]at hres;refine PW.g (nq2 g6 (nq2 cx0 q1)) ?_;refine PW.us ?_;cases hu:tkU q n a with
 | er e a1=>
  rw[hu]at tu hres;simp only[rvU,Rr.at]at tu;rw[Rr.bind_er]at hres;subst hres;have d0:((e:Int)+1 !=0)=true:=by simp;omega
  have he:=(zf7 hu).2;refine PW.f (fun K k=>by simp(disch:=omega) only[go_sem,↓reduceIte,reduceCtorEq];refine VCx.call (tu) rfl ?_;simp(disch:=omega) only[go_sem,↓reduceIte,reduceCtorEq];exact k) ?_;refine PW.g d0 ?_;refine PW.t ?_;refine PW.e ?_;exact PW.ret ⟨_,rfl,fin _ a1 zMb hrs⟩
 | ok w a1=>
  have hb:=zdh hu ha;rw[hu]at tu hres;simp only[rvU,Rr.at]at tu;rw[Rr.bind_ok]at hres;refine PW.f (fun K k=>by simp(disch:=omega) only[go_sem,↓reduceIte,reduceCtorEq];refine VCx.call (tu) rfl ?_;simp(disch:=omega) only[go_sem,↓reduceIte,reduceCtorEq];exact k) ?_;by_cases hw0:w=0
  ·have d0:((w:Int)==0)=true:=by simp[hw0]
   rw[if_neg (by split<;>omega),if_neg (by split<;>omega),if_pos hw0]at hres;subst hres;refine PW.g d0 ?_;refine PW.t ?_;refine PW.e ?_;exact PW.ret ⟨_,rfl,fin _ a1 zMb hrs⟩
  have d0:((w:Int)==0)=false:=by rw[beq_eq_false_iff_ne];omega
  refine PW.g d0 ?_;refine PW.us ?_;refine PW.e ?_;refine PW.to [0,2,8,10] [(0,.ptr i 0 0),(2,.ptr (H.length+4) 1 0),(8,.int .i64 (w:Int)),(10,.int .i64 ((if c.t=2 then 3 else 7:Nat):Int))] (uG H i j v n a1 X (mW zMb) (sB s) [⟨165,0,cxc c⟩]) ?_ ?_
  ·by_cases ht2:c.t=2
   ·have q2:(c.t==2)=true:=by simp[ht2]
    rw[if_pos ht2];refine PW.g (nq2 g6 (nq2 cx0 q2)) ?_;refine PW.t ?_;refine PW.e ?_;exact⟨rfl,rfl⟩
   ·have q2:(c.t==2)=false:=by simp[ht2]
    rw[if_neg ht2];refine PW.g (nq2 g6 (nq2 cx0 q2)) ?_;refine PW.u ?_;exact PW.skip ⟨rfl,rfl⟩
  have hL:(if c.t=2 then 3 else 7:Nat)≤7:=by split<;>omega
  generalize (if c.t=2 then 3 else 7:Nat)=last at *;by_cases h1:last<w
  ·have d1:decide ((last:Int)<(w:Int))=true:=decide_eq_true om;rw[if_pos h1]at hres;subst hres;refine PW.g d1 ?_;refine PW.t ?_;refine PW.e ?_;exact PW.ret ⟨_,rfl,fin _ a1 zMb hrs⟩
  have d1:decide ((last:Int)<(w:Int))=false:=decide_eq_false om;rw[if_neg h1]at hres;refine PW.g d1 ?_;refine PW.us ?_;by_cases h2:w=last
  ·have d2:((w:Int)==(last:Int))=true:=by simp[h2]
   rw[if_pos h2]at hres;subst hres;refine PW.g d2 ?_;refine PW.t ?_;refine PW.f (fun K k=>by simp(disch:=omega) only[go_sem,↓reduceIte,reduceCtorEq,g4,s4,zW,zX,zcl,zhz,za4,hzl];exact k) ?_;refine PW.e ?_;exact PW.ret ⟨_,rfl,fin _ a1 _ hrs⟩
  have d2:((w:Int)==(last:Int))=false:=by rw[beq_eq_false_iff_ne];omega
  rw[if_neg h2,if_neg hw0]at hres;subst hres;refine PW.g d2 ?_;refine PW.us ?_;have h6:w=1∨w=2∨w=3∨w=4∨w=5∨w=6:=om;clear h1 h2 d1 d2 hb hL tu d0 hw0 hu;refine PW.f (fun K k=>by simp(disch:=omega) only[go_sem,↓reduceIte,reduceCtorEq,g4,s4,zW,zX,zcl,zhz,za4,hzl];exact k) ?_;rcases h6 with rfl|rfl|rfl|rfl|rfl|rfl;all_goals
   refine PW.f (fun K k=>by simp(disch:=omega) only[go_sem,↓reduceIte,reduceCtorEq,g4,s4,zW,zX,zcl,zqz,za4,hzl2,Nat.reduceAdd];exact k) ?_;refine PW.e ?_;exact PW.ret ⟨_,rfl,fin _ a1 _ hrs⟩
end
end Go.Proofs.YtpjlfoficnpfoaaGreatDoor.Sc
