/-
  Parts of the proof, put together in one text. No condition.
-/
import Derived.Test.YtpjlfoficnpfoaaGreatDoorV22
import Derived.LaidMore
import Derived.MakeChecks
import Derived.LaidHandle
import Derived.FnData
open Bool renaming false_and → qA, true_and → qB, not_false → qL, true_or → qO
open Int renaming toNat_natCast → qF
open List renaming getElem_mem → xZ, getElem?_eq_getElem → qD, getElem?_cons_succ → qE, getElem?_map → qH, take → qI, getElem?_append_right → qK, mem_cons → qN
open Nat renaming min_eq_right → qJ
open Option renaming some → qG, map_eq_some_iff → qM, toList_some → qP
namespace Go.Proofs.YtpjlfoficnpfoaaGreatDoor.Sc
set_option linter.all false
open Pm Ty Go.RowKit
def nJ(L:List It)(es:List En)(g s:Int)(j:Nat):Nat:=(es.take j).countP fun o=>decide (grE L o=g)&&decide (o.sh<s)
def fJ(L:List It)(es:List En)(g:Int)(k j:Nat):Bool:=(es.take (min j k)).all fun o=> !decide (grE L o=g)
theorem zsP{L:List It}{es:List En}{g s:Int}{j:Nat}(h:j<es.length):nJ L es g s (j+1)=nJ L es g s j+(if(decide (grE L es[j]=g)&&decide (es[j].sh<s))=true then 1 else 0):=by unfold nJ;rw[List.take_succ,qD h,qP,List.countP_append,List.countP_singleton]
theorem zta{L:List It}{es:List En}{g:Int}{k j:Nat}(h:j<es.length):fJ L es g k (j+1)=(fJ L es g k j&&(decide (k≤j)|| !decide (grE L es[j]=g))):=by
 unfold fJ;by_cases hk:k≤j
 ·rw[qJ om,qJ hk,decide_eq_true hk,qO,Bool.and_true]
 ·rw[Nat.min_eq_left om,Nat.min_eq_left om,List.take_succ,qD h,qP,List.all_append];simp[hk]
theorem zwV(L:List It)(es:List En)(g s:Int)(j:Nat):nJ L es g s j≤es.length:=Nat.le_trans List.countP_le_length (by simp;omega)
theorem zof(L:List It)(es:List En)(j:Nat)(hj:j<es.length):zh6 L es (es.drop j) j=(zl5 L es j es[j]&&zh6 L es (es.drop (j+1)) (j+1)):=by rw[List.drop_eq_getElem_cons hj];rfl
set_option maxHeartbeats 16000000 in
set_option maxRecDepth 100000 in
theorem zsM(L:List It)(es:List En)(fl:Bool)(hL:∀ x∈L,SqOk x.s)(hn:L.length≤800000)(hS:es.length≤800000)(hE:∀ e∈es,0≤e.f∧e.f<L.length)(H:za):CallOk Tryz.prog 29 [.slice (itL L) L.length fl,.slice (es.flatMap enR) es.length false] H (.bool (zh6 L es es 0)) H:=by
 have fin0:∀(b:Bool),Fin H (.bool b) H (.bool b) H:=fun b=>Fin.now;have lnL:=zak L hL;have lnS:=zda es;have lnG:=zjA L L.length;have eg:=fun(k r:Nat) (hk:k<es.length) (hr:r<6)=>zcf enR 6 es k r hk (fun e he=>rfl) hr;have go:=fun K=>zs2 L fl hL hn K;refine CallOk.go Tryz.func29 Tryz.ntmps29 Tryz.results29 ?_;refine PW.e ?_;refine PW.k go ?_;refine PW.e ?_;refine PW.l ?_;suffices hl1:∀ k:Nat,k≤es.length→zh6 L es (es.drop k) k=zh6 L es es 0→PL Tryz.prog _ _ [(0,.slice (itL L) L.length fl),(1,.slice (es.flatMap enR) es.length false),(5,.slice (gsL L L.length) L.length false),(6,.int .i64 (k:Int))] H _ by exact PL.at [0,1,5,6] (hl1 0 om rfl) rfl rfl
 refine cnt es.length (fun k hk ih hf=> ?_) (fun hf=> ?_)
 ·have ct:=ze9 hk;obtain⟨f0,f1⟩:=hE _ (xZ hk);rw[zof L es k hk]at hf;obtain⟨F,hF⟩:∃ F:Nat,es[k].f=(F:Int):=⟨es[k].f.toNat,om⟩;have hFl:F<L.length:=om;have g0:(es.flatMap enR)[k * 6]? =some (.int .i64 (F:Int)):=by have:=eg k 0 hk om;rw[Nat.add_zero]at this;rw[this,←hF];rfl
  have g2:(es.flatMap enR)[k * 6+2]? =some (.int .i64 es[k].ty):=eg k 2 hk om;have g5:(es.flatMap enR)[k * 6+5]? =some (.int .i64 es[k].sh):=eg k 5 hk om;have gG:=zqY L hFl;have eod:=zR L hL F 141 hFl om;have eod':(itc L[F])[141]? =some (.int .i64 L[F].p.od):=zcd _ (hL _ (xZ hFl)) 5;rw[eod']at eod;have hod:odA L es[k]=L[F].p.od:=by unfold odA;rw[hF,zfQ hFl]
  have hgE:grE L es[k]=grA L (F+1):=by unfold grE;rw[hF,qF]
  unfold zl5 at hf;rw[hod,hgE]at hf;generalize L[F].p.od=od at *;generalize es[k].sh=sk at *;generalize es[k].ty=tk at *;generalize grA L (F+1)=g at *;refine PL.round ?_;refine PW.g ct ?_;refine PW.t ?_;refine PW.skip ?_;refine PW.b ?_;refine PW.g (nq2 lnS (nq2 lnG (nq2 g0 gG))) ?_;refine PW.e ?_;refine PW.l ?_;suffices hl2:∀ j:Nat,j≤es.length→PL Tryz.prog _ _ [(0,.slice (itL L) L.length fl),(1,.slice (es.flatMap enR) es.length false),(5,.slice (gsL L L.length) L.length false),(6,.int .i64 (k:Int)),(7,.int .i64 g),(8,.int .i64 (nJ L es g sk j:Int)),(9,.bool (fJ L es g k j)),(10,.int .i64 (j:Int))] H _ by exact PL.at [0,1,5,6,7,8,9,10] (hl2 0 om) rfl rfl
  refine cnt es.length (fun j hj ih2=> ?_) ?_
  ·have ct2:=ze9 hj;obtain⟨f2,f3⟩:=hE _ (xZ hj);obtain⟨G,hG⟩:∃ G:Nat,es[j].f=(G:Int):=⟨es[j].f.toNat,om⟩;have hGl:G<L.length:=om;have j0:(es.flatMap enR)[j * 6]? =some (.int .i64 (G:Int)):=by have:=eg j 0 hj om;rw[Nat.add_zero]at this;rw[this,←hG];rfl
   have j5:(es.flatMap enR)[j * 6+5]? =some (.int .i64 es[j].sh):=eg j 5 hj om;have jG:=zqY L hGl;have hjE:grE L es[j]=grA L (G+1):=by unfold grE;rw[hG,qF]
   have hle:=zwV L es g sk j;rw[zsP hj,zta hj,hjE]at ih2;generalize es[j].sh=sj at *;generalize grA L (G+1)=gj at *;generalize nJ L es g sk j=n at *;generalize fJ L es g k j=B at *;refine PL.round ?_;refine PW.g ct2 ?_;refine PW.t ?_;refine PW.skip ?_;refine PW.b ?_;suffices hm:PW Tryz.prog _ _ [(0,.slice (itL L) L.length fl),(1,.slice (es.flatMap enR) es.length false),(5,.slice (gsL L L.length) L.length false),(6,.int .i64 (k:Int)),(7,.int .i64 g),(8,.int .i64 ((n+(if(decide (gj=g)&&decide (sj<sk))=true then 1 else 0):Nat):Int)),(9,.bool B),(10,.int .i64 (j:Int))] H _ by
    by_cases e1:gj=g
    ·have d1:(gj==g)=true:=by simp[e1]
     rw[decide_eq_true e1,qB]at hm;by_cases e2:sj<sk
     ·have d2:decide (sj<sk)=true:=decide_eq_true e2;rw[d2,if_pos rfl]at hm;(repeat refine PW.seq ?_);(repeat refine PW.seq ?_);refine PW.drawg mix kr fun K hK=> ?_;simp(disch:=omega) only[go_sem,↓reduceIte,reduceCtorEq,lnS,lnG,j0,jG,j5,g5,d1,d2];refine hK _ _ ?_;clear hK K;refine PW.t ?_;refine PW.e ?_;exact PW.at [0,1,5,6,7,8,9,10] hm rfl rfl
     ·have d2:decide (sj<sk)=false:=decide_eq_false e2;rw[d2,if_neg sp]at hm;(repeat refine PW.seq ?_);(repeat refine PW.seq ?_);refine PW.drawg mix kr fun K hK=> ?_;simp(disch:=omega) only[go_sem,↓reduceIte,reduceCtorEq,lnS,lnG,j0,jG,j5,g5,d1,d2];refine hK _ _ ?_;clear hK K;refine PW.us ?_;exact PW.at [0,1,5,6,7,8,9,10] hm rfl rfl
    ·have d1:(gj==g)=false:=by simp[e1]
     rw[decide_eq_false e1,qA,if_neg sp]at hm;(repeat refine PW.seq ?_);(repeat refine PW.seq ?_);refine PW.drawg mix kr fun K hK=> ?_;simp(disch:=omega) only[go_sem,↓reduceIte,reduceCtorEq,lnS,lnG,j0,jG,d1];refine hK _ _ ?_;clear hK K;refine PW.us ?_;exact PW.at [0,1,5,6,7,8,9,10] hm rfl rfl
   generalize n+(if(decide (gj=g)&&decide (sj<sk))=true then 1 else 0)=n1 at *;cases B with
   | false=>
    rw[qA]at ih2;refine PW.e ?_;refine PW.e ?_;exact PL.at [0,1,5,6,7,8,9,10] ih2 rfl rfl
   | true=>
    rw[qB]at ih2;by_cases e3:k≤j
    ·have d3:decide ((k:Int)≤(j:Int))=true:=decide_eq_true om;rw[decide_eq_true e3,qO]at ih2;refine PW.g d3 ?_;refine PW.e ?_;exact PL.at [0,1,5,6,7,8,9,10] ih2 rfl rfl
    ·have d3:decide ((k:Int)≤(j:Int))=false:=decide_eq_false om;rw[decide_eq_false e3,Bool.false_or]at ih2;have d4:(gj !=g)= !decide (gj=g):=by simp[bne,Bool.beq_eq_decide_eq]
     rw[←d4]at ih2;refine PW.g (nq2 d3 (nq2 lnS (nq2 lnG (nq2 j0 jG)))) ?_;refine PW.e ?_;exact PL.at [0,1,5,6,7,8,9,10] ih2 rfl rfl
  ·refine PL.round ?_;refine PW.f (fun K k=>by simp(disch:=omega) only[go_sem,↓reduceIte,reduceCtorEq,zl9 es.length];exact k) ?_;refine PW.u ?_;refine PW.exit ?_;have e1:nJ L es g sk es.length=es.countP fun o=>decide (grE L o=g)&&decide (o.sh<sk):=by unfold nJ;rw[List.take_length]
   have e2:fJ L es g k es.length=(es.take k).all fun o=> !decide (grE L o=g):=by unfold fJ;rw[qJ om]
   rw[←e1,←e2]at hf;generalize nJ L es g sk es.length=n at *;generalize fJ L es g k es.length=B at *;by_cases e3:od=(n:Int);rotate_left
   ·have d3:(od !=(n:Int))=true:=by simpa using e3
    rw[decide_eq_false e3,qA,qA]at hf;refine PW.g (nq2 lnL (nq2 lnS (nq2 g0 (nq2 eod d3)))) ?_;refine PW.t ?_;refine PW.e ?_;refine PW.v (.bool false) ?_;rw[←hf];exact fin0 _
   have d3:(od !=(n:Int))=false:=by simp[e3]
   rw[decide_eq_true e3,qB]at hf;cases B with
   | false=>
    rw[qA,qL,qB]at hf;refine PW.g (nq2 lnL (nq2 lnS (nq2 g0 (nq2 eod d3)))) ?_;refine PW.us ?_;refine PW.e ?_;exact PL.at [0,1,5,6] (ih hf) rfl rfl
   | true=>
    rw[qB,Bool.not_not]at hf;by_cases e4:tk=1
    ·have d4:(tk !=1)=false:=by simp[e4]
     rw[decide_eq_true e4,qB]at hf;refine PW.g (nq2 lnL (nq2 lnS (nq2 g0 (nq2 g2 (nq2 eod (nq2 d3 d4)))))) ?_;refine PW.us ?_;refine PW.e ?_;exact PL.at [0,1,5,6] (ih hf) rfl rfl
    ·have d4:(tk !=1)=true:=by simpa using e4
     rw[decide_eq_false e4,qA]at hf;refine PW.g (nq2 lnL (nq2 lnS (nq2 g0 (nq2 g2 (nq2 eod (nq2 d3 d4)))))) ?_;refine PW.t ?_;refine PW.e ?_;refine PW.v (.bool false) ?_;rw[←hf];exact fin0 _
 ·refine PL.round ?_;refine PW.f (fun K k=>by simp(disch:=omega) only[go_sem,↓reduceIte,reduceCtorEq,zl9 es.length];exact k) ?_;refine PW.u ?_;refine PW.exit ?_;refine PW.e ?_;refine PW.v (.bool true) ?_;rw[List.drop_length]at hf;rw[←hf];exact fin0 _
set_option maxHeartbeats 16000000 in
set_option maxRecDepth 100000 in
theorem zoF(L:List It)(fl:Bool)(hl:Lts L)(hc:∀ x∈L,CdOk (zdd x))(hn:L.length≤800000)(H:za):CallOk Tryz.prog 11 [.slice (itL L) L.length fl] H (.bool (decide ((zfe L).2=0)&&znF L)) H:=by
 have hL:=hl.s;have fin0:∀(b:Bool),Fin H (.bool b) H (.bool b) H:=fun b=>Fin.now;have fin:∀(b:Bool) (K:za),Fin H (.bool b) H (.bool b) (H++K):=fun b K=>Fin.base (.id (.bool _));have fo:=fun K=>zq6 L fl K hl;have oo:=fun K=>zsI L fl hL hn K;have wo:=fun K=>znG L fl hL hn K;have hsq:SqL (zaO L).sq:=(zcy (zcQ (ztA hL L 0 wk0 rfl ztB (.inl rfl) (Nat.zero_le _)).1)).sq.toL;have hlen:(zaO L).out.length≤L.length:=by rw[←zdZ L,List.length_map];exact zpk hL
 have hE:∀ e∈(zaO L).out,0≤e.f∧e.f≤e.l∧e.l<L.length:=fun e he=>by rw[←zdZ L]at he;obtain⟨x,hx,rfl⟩:=List.mem_map.1 he;obtain⟨j,hj⟩:=List.getElem?_of_mem hx;obtain⟨a1,a2,a3,_⟩:=zaX hj;exact⟨a1,a2,a3⟩
 have no:=fun K=>zsM L (zaO L).out fl hL hn om (fun e he=>by obtain⟨a,b,c⟩:=hE e he;exact⟨a,om⟩) K;unfold znF;generalize zfe L=R at fo ⊢;obtain⟨bytes,er⟩:=R;unfold zfz at fo;refine CallOk.go Tryz.func11 Tryz.ntmps11 Tryz.results11 ?_;refine PW.e ?_;refine PW.k fo ?_;by_cases h0:er=0;rotate_left
 ·have d0:(er !=0)=true:=by simpa using h0
  rw[decide_eq_false h0,qA];refine PW.g d0 ?_;refine PW.t ?_;refine PW.e ?_;refine PW.v (.bool false) ?_;exact fin0 _
 have d0:(er !=0)=false:=by simp[h0]
 rw[decide_eq_true h0,qB];cases ho:zl3 L with
 | false=>
  rw[ho]at oo;rw[qA];refine PW.m d0 oo ?_;refine PW.t ?_;refine PW.e ?_;refine PW.v (.bool false) ?_;exact fin0 _
 | true=>
 rw[ho]at oo;rw[qB];refine PW.m d0 oo ?_;refine PW.us ?_;clear fo oo;generalize zaO L=v at *;have l1:(wkf L fl v).length=145:=by simp only[wkf,List.length_cons,List.length_append,zB _ hsq,List.length_nil]
 have l3:(wkf L fl v).all PV.cell=true:=by simp[wkf,zaI,PV.cell]
 have l4:(wkf L fl v)[143]? =some (.slice (v.out.flatMap enR) v.out.length false):=by unfold wkf;rw[qE,qE,qK (by rw[zB _ hsq];omega),zB _ hsq];rfl
 have l5:qI 145 (wkf L fl v)=wkf L fl v:=List.take_of_length_le om;have l6:(wkf L fl v)[144]? =some (.bool v.sk):=by unfold wkf;rw[qE,qE,qK (by rw[zB _ hsq];omega),zB _ hsq];rfl
 have lnL:=zak L hL;have lnS:=zda v.out;have sqk0:=zaP sq0;refine PW.m (nq2 l1 (nq2 l3 l5)) wo ?_;clear wo;cases hs:v.sk with
 | true=>
  rw[hs]at l6;rw[Bool.not_true,qA,qA];refine PW.g (nq2 l1 l6) ?_;refine PW.t ?_;refine PW.e ?_;refine PW.v (.bool false) ?_;exact fin _ _
 | false=>
 rw[hs]at l6;rw[qL,qB];cases hnu:zh6 L v.out v.out 0 with
 | false=>
  rw[hnu]at no;rw[qA];refine PW.m (nq2 l1 (nq2 l4 l6)) no ?_;refine PW.t ?_;refine PW.e ?_;refine PW.v (.bool false) ?_;exact fin _ _
 | true=>
 rw[hnu]at no;rw[qB];refine PW.m (nq2 l1 (nq2 l4 l6)) no ?_;refine PW.us ?_;clear no;refine PW.e ?_;refine PW.l ?_;suffices hl1:∀ k:Nat,k≤v.out.length→(v.out.drop k).all (zi0 L)=v.out.all (zi0 L)→PL Tryz.prog _ _ [(0,.slice (itL L) L.length fl),(5,.ptr H.length 0 0),(6,.int .i64 (k:Int))] (H++[⟨77,0,wkf L fl v⟩]) _ by exact PL.at [0,5,6] (hl1 0 om rfl) rfl rfl
 refine cnt v.out.length (fun k hk ih hf=> ?_) (fun hf=> ?_)
 ·have ct:=ze9 hk;obtain⟨f0,f1,f2⟩:=hE _ (xZ hk);rw[zcN _ _ _ hk]at hf;have ia:qI 6 (List.drop (k * 6) (v.out.flatMap enR))=enR v.out[k]:=zc8 enR 6 v.out k hk fun _ _=>rfl;generalize hge:v.out[k]=e at *;obtain⟨F,hF⟩:∃ F:Nat,e.f=(F:Int):=⟨e.f.toNat,om⟩;obtain⟨G,hG⟩:∃ G:Nat,e.l=(G:Int):=⟨e.l.toNat,om⟩;have hFl:F<L.length:=om;have hGl:G<L.length:=om;have ss:=zhQ hL F om;have co:=fun K=>zth L fl hL F om hn K;have eF:=zc6 L hL F 139 8 hFl om;rw[zk4 _ (hL _ (xZ hFl))]at eF;have eF:qI 8 (List.drop (F * 148+139) (itL L))=cdE (zdd L[F]):=eF;have eG:=zc6 L hL G 139 8 hGl om;rw[zk4 _ (hL _ (xZ hGl))]at eG;have eG:qI 8 (List.drop (G * 148+139) (itL L))=cdE (zdd L[G]):=eG;have so1:=fun K=>zmI (cur L F) (zdd L[F]) false ss (hc _ (xZ hFl)) K;have so2:=fun K=>zmI (cur L F) (zdd L[G]) true ss (hc _ (xZ hGl)) K;have hsl:zi0 L e=(zeT (cur L F) (zdd L[F]) false&&(decide (e.l=e.f)||zeT (cur L F) (zdd L[G]) true)):=by unfold zi0;rw[hF,hG,qF,qF,qD hFl,qD hGl]
  rw[hsl]at hf;have x1:(enR e).length=6:=rfl;have x2:(enR e).all PV.cell=true:=rfl;have x3:qI 6 (enR e)=enR e:=rfl;have x4:(enR e)[0]? =some (.int .i64 (F:Int)):=by rw[←hF];rfl
  have x5:(enR e)[1]? =some (.int .i64 (G:Int)):=by rw[←hG];rfl
  have hdd:decide (e.l=e.f)= !((G:Int) !=(F:Int)):=by rw[hF,hG,Bool.eq_iff_iff];simp
  rw[hdd]at hf;have esc:∀ n,∀ x∈enR e,Scoped n x:=fun n x hx=>by simp only[enR,qN,List.not_mem_nil,or_false]at hx;rcases hx with rfl|rfl|rfl|rfl|rfl|rfl;all_goals exact .int _ _
  generalize enR e=ec at *;generalize cur L F=q at *;have k1:=zaT q;have k2:=zaP q ss;have k3:=zdx q ss;refine PL.round ?_;refine PW.g (nq2 l1 (nq2 l4 ct)) ?_;refine PW.t ?_;refine PW.skip ?_;refine PW.b ?_;refine PW.g (nq2 l1 (nq2 l4 (nq2 lnS (nq2 ia (nq2 x1 (nq2 x2 x3)))))) ?_;refine PW.m (nq2 x1 (nq2 x4 (nq2 k1 (nq2 k2 k3)))) co ?_;clear co;have back:(v.out.drop (k+1)).all (zi0 L)=v.out.all (zi0 L)→PL Tryz.prog _ _ [(0,.slice (itL L) L.length fl),(5,.ptr H.length 0 0),(6,.int .i64 ((k+1:Nat):Int))] (H++[⟨77,0,wkf L fl v⟩,⟨80,0,ec⟩,⟨29,0,sqc q⟩]) _:=fun hh=>
   PL.view (Vs.trim (F1:=[(0,.slice (itL L) L.length fl),(5,.ptr H.length 0 0),(6,.int .i64 ((k+1:Nat):Int))]) (H1:=H++[⟨77,0,wkf L fl v⟩]) (fun hh=>zhC (fun b hb x hx=>by
    obtain rfl:=List.mem_singleton.1 hb;simp only[wkf,qN,List.mem_append,List.not_mem_nil,or_false]at hx;rcases hx with rfl|rfl|hx|rfl|rfl|rfl|rfl|rfl|rfl|rfl|rfl
    ·exact zl (zcw _ _)
    ·exact .bool _
    ·exact zV _ _ x hx
    all_goals first|exact .int _ _|exact .bool _|exact zl fun x hx=>zlt _ _ x hx) hh) sp (by rw[List.append_assoc];rfl) ⟨.id (zl (zcw _ _)),.id (.ptr (by rw[List.length_append];exact Nat.lt_succ_self _)),.id (.int _ _),trivial⟩) (ih hh)
  cases h1:zeT q (zdd L[F]) false with
  | false=>
   rw[h1]at so1 hf;rw[qA,qA]at hf;(repeat refine PW.seq ?_);(repeat refine PW.seq ?_);refine PW.drawg mix kr fun K hK=> ?_;simp(disch:=omega) only[go_sem,↓reduceIte,reduceCtorEq,lnL,x1,x4,eF,k2,k3];refine VCz.call (fun _=>so1 _) rfl ?_;refine sqz ?_;refine hK _ _ ?_;clear hK K;refine PW.t ?_;refine PW.e ?_;refine PW.v (.bool false) ?_;rw[←hf];exact fin _ _
  | true=>
  rw[h1]at so1 hf;rw[qB]at hf;cases h2:((G:Int) !=(F:Int))with
  | false=>
   rw[h2,qL,qO,qB]at hf;(repeat refine PW.seq ?_);(repeat refine PW.seq ?_);refine PW.drawg mix kr fun K hK=> ?_;simp(disch:=omega) only[go_sem,↓reduceIte,reduceCtorEq,lnL,x1,x4,x5,eF,k2,k3,h2];refine VCz.call (fun _=>so1 _) rfl ?_;refine sqx (nq2 x1 (nq2 x4 (nq2 x5 h2))) ?_;refine hK _ _ ?_;clear hK K;refine PW.us ?_;refine PW.e ?_;exact PL.at [0,5,6] (back hf) rfl rfl
  | true=>
  rw[h2,Bool.not_true,Bool.false_or]at hf;(repeat refine PW.seq ?_);(repeat refine PW.seq ?_);refine PW.drawg mix kr fun K hK=> ?_;simp(disch:=omega) only[go_sem,↓reduceIte,reduceCtorEq,lnL,x1,x4,x5,eF,k2,k3,h2];refine VCz.call (fun _=>so1 _) rfl ?_;refine sqx (nq2 lnL (nq2 x1 (nq2 x4 (nq2 x5 (nq2 eG (nq2 k2 (nq2 k3 h2))))))) ?_;refine VCz.call (fun _=>so2 _) rfl ?_;refine sqz ?_;refine hK _ _ ?_;clear hK K;cases h3:zeT q (zdd L[G]) true with
  | false=>
   rw[h3,qA]at hf;refine PW.t ?_;refine PW.e ?_;refine PW.v (.bool false) ?_;rw[←hf];exact fin _ _
  | true=>rw[h3,qB]at hf;refine PW.us ?_;refine PW.e ?_;exact PL.at [0,5,6] (back hf) rfl rfl
 ·refine PL.round ?_;refine PW.f (fun K k=>by simp(disch:=omega) only[go_sem,↓reduceIte,reduceCtorEq,l1,l4,zl9 v.out.length];exact k) ?_;refine PW.u ?_;refine PW.exit ?_;refine PW.e ?_;refine PW.v (.bool true) ?_;rw[List.drop_length]at hf;rw[←hf];exact fin _ _
theorem zvF{L:List It}(h:(zfe L).2=0):∀ x∈L,x.k≠0:=fun x hx hk=>by
 unfold zfe at h;split at h
 ·rename_i he;have:=zjF he x hx;unfold itB okI at this;rw[hk]at this;simp at this
 ·rename_i he;exact he h
set_option maxHeartbeats 16000000 in
set_option maxRecDepth 100000 in
theorem zqJ(l:List It)(f:Bool)(H:za)(hok:∀ x∈l,ItOk x):CallOk Tryz.prog 3 [.slice (itL l) l.length f] H (.bool true) H:=by
 have hs:∀ x∈l,SqOk x.s:=fun x hx=>(hok x hx).s;have lo:=fun K=>zsV l f K hs;refine CallOk.go Tryz.func3 Tryz.ntmps3 Tryz.results3 ?_;refine PW.e ?_;cases hlt:ltB l with
 | false=>
  rw[hlt]at lo;refine PW.k lo ?_;refine PW.t ?_;refine PW.e ?_;(refine PW.ret ⟨_,rfl,?_⟩;first|refine .inl ⟨?_,rfl⟩|refine Fin.base (.id' ?_ (.bool _))|refine Fin.base (.id' ?_ (.int _ _)));rfl
 | true=>
 rw[hlt]at lo;obtain⟨hlts,h60⟩:=ltsW hok hlt;have hcd:=zrk hok hlt;have w1:=fun K=>zrS l f hlts hcd om K;have w2:=fun K=>zoF l f hlts hcd om K;have e:wlB l=(decide ((zfe l).2=0)&&znF l):=by
  unfold wlB;by_cases h0:(zfe l).2=0
  ·rw[zoG (zvF h0)]
  ·rw[decide_eq_false h0,qA,qA]
 rw[←e]at w2;generalize wlB l=B at *;refine PW.k lo ?_;refine PW.us ?_;have hb:(B==B)=true:=by simp
 refine PW.f (fun K k=>by simp(disch:=omega) only[go_sem,↓reduceIte,reduceCtorEq];refine VCx.call (zxl _) rfl ?_;simp(disch:=omega) only[go_sem,↓reduceIte,reduceCtorEq];refine VCx.call (w1 _) rfl ?_;simp(disch:=omega) only[go_sem,↓reduceIte,reduceCtorEq];refine VCx.call (w2 _) rfl ?_;simp(disch:=omega) only[go_sem,↓reduceIte,reduceCtorEq,hb];exact k) ?_;(refine PW.ret ⟨_,rfl,?_⟩;first|refine .inl ⟨?_,rfl⟩|refine Fin.base (.id' ?_ (.bool _))|refine Fin.base (.id' ?_ (.int _ _)));rfl
end Go.Proofs.YtpjlfoficnpfoaaGreatDoor.Sc
namespace Go.Proofs.YtpjlfoficnpfoaaGreatDoor.Pm
set_option linter.all false
open Go.ChangeShapes Go.WideShapes Go.ChangeAt Go.RowKit
variable {P:Program} {W:World}
theorem zkl{t e:TypeId}{n fuel:Nat}{k:IntKind}{cs:List Value}{z:List Int}{p:List MemPlace}(ht:P.underlying t=some (.array n e))(he:P.underlying e=some (.int k))(hc:P.cellsOf e=1)
  (h:DataW.trod (fun _=>()) P W 0 (fun _=>true) false fuel t cs=some (.agg (z.map fun x=>.lit (.int k x)),p)):∀(j:Nat) (x:Int),z[j]? =some x→cs[j]? =some (.int k x):=by
 obtain⟨xs,m,rfl,hx,hlen,hn,hel⟩:=DataW.trod_array ht h;intro j x hj;simp only[Prod.mk.injEq,DataW.agg.injEq]at hx;have hx1:=congrArg (fun l=>l[j]?) hx.1;simp only[qH,hj,Option.map_some]at hx1;cases hy:xs[j]? with
 | none=>rw[hy]at hx1;cases hx1
 | some y=>
  rw[hy]at hx1;simp only[Option.map_some,qG.injEq]at hx1;have hjn:j<n:=by rw[←hn];exact(List.getElem?_eq_some_iff.1 hy).1
  have hd:=hel j hjn;rw[hy,hc,Nat.mul_one]at hd;obtain⟨r,e1,e2,_⟩:=DataW.trod_int he hd;rw[e2]at hx1;simp only[DataW.lit.injEq,Lit.int.injEq,true_and]at hx1;subst hx1;have:=congrArg (fun l=>l[0]?) e1;simpa using this
theorem zfb:∀{l:List (String×DataW Unit)} {ps:List MemPlace},DataW.LaidVars P W l ps→∀ x∈l,∃ g t cs fuel p,P.globalNamed x.1=some g∧(P.globals[g]?).map (·.type)=some t∧W.var? P x.1=some cs∧DataW.trod (fun _=>()) P W 0 (fun _=>true) false fuel t cs.toList=some (x.2,p)
 | [],_,_,x,hx=>by cases hx
 | (n,d)::r,ps,h,x,hx=>by
  obtain⟨g,t,cs,fuel,p,q,h1,h2,h3,h4,h5,_⟩:=h;rcases qN.1 hx with rfl|hx
  ·exact⟨g,t,cs,fuel,p,h1,h2,h3,h4⟩
  ·exact zfb h5 x hx
theorem zk9{l:List (String×DataW Unit)}{nm:String}{g n:Nat}{t e:TypeId}{k:IntKind}{z:List Int}(h:laidMet P l W)(hm:(nm,DataW.agg (z.map fun x=>.lit (.int k x)))∈l)(hg:P.globalNamed nm=some g)(ht:(P.globals[g]?).map (·.type)=some t)
  (hu:P.underlying t=some (.array n e)) (he:P.underlying e=some (.int k)) (hc:P.cellsOf e=1):∀(j:Nat) (x:Int),z[j]? =some x→(Ctx.start W).M g j=some (.int k x):=fun j x hj=>by
 obtain⟨ps,hv,_⟩:=h;obtain⟨g',t',cs,fuel,p,h1,h2,h3,h4⟩:=zfb hv _ hm;obtain rfl:=qG.inj (hg.symm.trans h1);obtain rfl:=qG.inj (ht.symm.trans h2);have h5:=zkl hu he hc h4 j x hj;show W.cell? ⟨g,j,none⟩=_;rw[World.var?_cell hg h3 j,←h5];simp
theorem zs3{l:List (String×DataW Unit)}(h:laidMetH Tryz.prog l W)(hl:(l.all fun x=>x.2.handleName?.isNone)=true)
  (h1 : ("cutroom/quant.alternateScan", Rows.laid_cutroom_quant_alternateScan) ∈ l)
  (h2 : ("cutroom/quant.defaultIntra", Rows.laid_cutroom_quant_defaultIntra) ∈ l)
  :Glob (Ctx.start W).M:=by
 rw[MakeChecks.laidMetH_plain _ _ _ hl]at h;intro g l hg;unfold zvx at hg;split at hg
 ·rename_i e;subst e;obtain rfl:=qG.inj hg;intro j x hj;unfold zw2 at hj;rw[qH,qM]at hj;obtain⟨y,hy,rfl⟩:=hj;exact zk9 (t:=146) h (k:=.i64) h1 kr kr Tryz.underlying146 Tryz.underlying3 kr j y hy
 split at hg
 ·rename_i e;subst e;obtain rfl:=qG.inj hg;intro j x hj;unfold zq2 at hj;rw[qH,qM]at hj;obtain⟨y,hy,rfl⟩:=hj;exact zk9 (t:=27) h (k:=.u8) h2 kr kr Tryz.underlying27 Tryz.underlying5 kr j y hy
 cases hg
end Go.Proofs.YtpjlfoficnpfoaaGreatDoor.Pm
