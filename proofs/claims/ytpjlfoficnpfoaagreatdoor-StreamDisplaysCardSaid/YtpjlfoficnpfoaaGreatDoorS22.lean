/-
  Parts of the proof, put together in one text. No condition.
-/
import Derived.Test.YtpjlfoficnpfoaaGreatDoorS21
open List renaming length_append → qA, getElem?_eq_getElem → qB, take_of_length_le → qC, getElem?_eq_some_iff → qE, getElem?_append_left → qF, getElem?_drop → qI, flatMap_cons → qJ, take → qK, not_mem_nil → qL, getElem?_append_right → qN, mem_cons → qO, set_append_left → qP, mem_of_mem_drop → qQ, mem_cons_of_mem → qR
open Nat renaming strongRecOn → qD, add_zero → qG, le_refl → qH, div_eq_of_lt → qM, zero_le → qS
namespace Go.Proofs.YtpjlfoficnpfoaaGreatDoor.Sc
set_option linter.all false
open Pm Ty Go.RowKit
theorem ziR{α:Type}(enc:α→List PV)(N:Nat):∀(l:List α) (k:Nat),(∀ x∈l,(enc x).length=N)→(l.flatMap enc).drop (k * N)=(l.drop k).flatMap enc
 | l,0,_=>by simp
 | [],k+1,_=>by simp
 | a::r,k+1,h=>by
  have e:(k+1) * N=(enc a).length+k * N:=by rw[h a (List.mem_cons_self ..),Nat.add_mul,Nat.one_mul,Nat.add_comm]
  rw[qJ,e,←List.drop_drop,List.drop_left,List.drop_succ_cons];exact ziR enc N r k fun x hx=>h x (qR _ hx)
theorem ziQ{α:Type}(enc:α→List PV)(N:Nat):∀(l:List α) (k:Nat),(∀ x∈l,(enc x).length=N)→(l.flatMap enc).take (k * N)=(l.take k).flatMap enc
 | l,0,_=>by simp
 | [],k+1,_=>by simp
 | a::r,k+1,h=>by
  have e:(k+1) * N=(enc a).length+k * N:=by rw[h a (List.mem_cons_self ..),Nat.add_mul,Nat.one_mul,Nat.add_comm]
  rw[qJ,e,List.take_append,Nat.add_sub_cancel_left,qC (Nat.le_add_right _ _),ziQ enc N r k fun x hx=>h x (qR _ hx),List.take_succ_cons,qJ]
theorem zq5(S:List Ent)(hsl:∀ e∈S,SqL e.2.1)(a b:Nat):qK ((b - a) * 147) (List.drop (a * 147) (S.flatMap zo))=(zes S a b).flatMap zo:=by rw[ziR zo 147 S a fun e he=>zac e (hsl e he),ziQ zo 147 _ _ fun e he=>zac e (hsl e (qQ he))];rfl
theorem zq7(S:List Ent)(a b:Nat)(hb:b≤S.length):(zes S a b).length=b - a:=by unfold zes;rw[List.length_take,List.length_drop];omega
theorem zq6{S:List Ent}{a b:Nat}{e:Ent}(h:e∈zes S a b):e∈S:=qQ (List.mem_of_mem_take h)
set_option maxHeartbeats 16000000 in
set_option maxRecDepth 100000 in
theorem zuL(L:List It)(S:List Ent)(fl:Bool)(hL:∀ x∈L,SqOk x.s)(hn:L.length≤800000)(hS:S.length≤800000)(hsl:∀ e∈S,SqL e.2.1)(hI:EsI L S)(H:za):CallOk Tryz.prog 25 [.slice (itL L) L.length fl,.slice (S.flatMap zo) S.length false] H (.bool (zpx L S)) H:=by
 have fin0:∀(b:Bool),Fin H (.bool b) H (.bool b) H:=fun b=>Fin.now;have fin:∀(b:Bool) (K:za),Fin H (.bool b) H (.bool b) (H++K):=fun b K=>Fin.base (.id (.bool _));have lnL:=zbl L hL;have lnS:=zdO hsl;have scS:∀ n,Scoped n (.slice (S.flatMap zo) S.length false):=fun n=>zj fun x hx=>zaL _ _ x hx;have eg:=fun(k r:Nat) (hk:k<S.length) (hr:r<147)=>zcv zo 147 S k r hk (fun e he=>zac e (hsl e he)) hr;unfold zpx;refine CallOk.go Tryz.func25 Tryz.ntmps25 Tryz.results25 ?_;refine PW.e ?_;refine PW.e ?_;refine PW.l ?_;suffices hl1:∀(n fr:Nat),S.length≤fr+n→fr≤S.length→zif L S n fr=zif L S S.length 0→PL Tryz.prog _ _ [(0,.slice (itL L) L.length fl),(1,.slice (S.flatMap zo) S.length false),(5,.int .i64 (fr:Int))] H _ by exact PL.at [0,1,5] (hl1 S.length 0 om om rfl) rfl rfl
 intro n;induction n with
 | zero=>
  intro fr h1 h2 hf;have hfr:fr=S.length:=om;subst hfr;refine PL.round ?_;refine PW.e ?_;refine PW.u ?_;refine PW.exit ?_;refine PW.e ?_;refine PW.v (.bool true) ?_;rw[←hf];exact fin0 _
 | succ n ih=>
  intro fr h1 h2 hf;by_cases hfr:fr<S.length;rotate_left
  ·have hfr:fr=S.length:=om;subst hfr;refine PL.round ?_;refine PW.e ?_;refine PW.u ?_;refine PW.exit ?_;refine PW.e ?_;refine PW.v (.bool true) ?_;rw[←hf,zif,List.getElem?_eq_none (qH _)];exact fin0 _
  have d1:=zcA hfr;have e0:=qB hfr;obtain⟨x0,f0,hx0,k0,_⟩:=hI.k fr _ e0;have hFl:=(qE.1 hx0).1;have g0:(S.flatMap zo)[fr * 147]? =some (.int .i64 S[fr].1.f):=by have:=eg fr 0 hfr om;rw[qG]at this;rw[this];rfl
  rw[zif,e0]at hf;dsimp only at hf;obtain⟨F,hF⟩:∃ F:Nat,S[fr].1.f=(F:Int):=⟨S[fr].1.f.toNat,om⟩;rw[hF]at g0 hf hFl;rw[Int.toNat_natCast]at hf hFl;obtain⟨E,hE⟩:∃ E,E=zff L F:=⟨_,rfl⟩;have hEl:=zoz (L:=L) (n:=F) om;rw[←hE]at hf hEl;refine PL.round ?_;refine PW.g d1 ?_;refine PW.t ?_;refine PW.skip ?_;refine PW.b ?_;refine PW.g (nq2 lnS g0) ?_;refine PW.l ?_;suffices hl2:∀ j:Nat,F≤j→j≤E→PL Tryz.prog _ _ [(0,.slice (itL L) L.length fl),(1,.slice (S.flatMap zo) S.length false),(5,.int .i64 (fr:Int)),(6,.int .i64 (j:Int))] H _ by exact PL.at [0,1,5,6] (hl2 F (qH _) hEl.1) rfl rfl
  intro j hj1 hj2;induction hd:E - j using qD generalizing j with
  | _ d ih2=>
   by_cases hjE:j<E
   ·have hjl:j<L.length:=om;have hop:=zoA (L:=L) (n:=F) hj1 (by rw[←hE];exact hjE) (qB hjl);have ek:=zaK L hL j 0 hjl om;rw[zdI,qG]at ek;have hnext:=ih2 (E - (j+1)) om (j+1) om om rfl;generalize L[j]=x at *;unfold zdv at hop;have d2:=zcA hjl;have d3:(x.k !=2)=true:=by simp only[bne_iff_ne];omega
    have d4:(x.k !=4)=true:=by simp only[bne_iff_ne];omega
    refine PL.round ?_;refine PW.g (nq2 d2 (nq2 lnL (nq2 ek (nq2 d3 d4)))) ?_;refine PW.t ?_;refine PW.skip ?_;refine PW.b ?_;refine PW.e ?_;exact PL.at [0,1,5,6] hnext rfl rfl
   ·have hjE':j=E:=om;subst hjE';clear ih2;refine PL.round ?_;suffices hm:PW Tryz.prog _ _ [(0,.slice (itL L) L.length fl),(1,.slice (S.flatMap zo) S.length false),(5,.int .i64 (fr:Int)),(6,.int .i64 (j:Int)),(42,.bool false)] H _ by
     by_cases hjl:j<L.length
     ·have hbd:=zfe (L:=L) (n:=F) (x:=L[j]) (by rw[←hE];exact qB hjl);have ek:=zaK L hL j 0 hjl om;rw[zdI,qG]at ek;generalize L[j]=x at *;have d2:=zcA hjl;by_cases k2:x.k=2
      ·have d3:(x.k !=2)=false:=by simp[k2]
       refine PW.g (nq2 d2 (nq2 lnL (nq2 ek d3))) ?_;exact PW.at [0,1,5,6,42] hm rfl rfl
      ·have d3:(x.k !=2)=true:=by simpa using k2
       unfold zdv at hbd;have d4:(x.k !=4)=false:=by simp only[bne_eq_false_iff_eq];omega
       refine PW.g (nq2 d2 (nq2 lnL (nq2 ek (nq2 d3 d4)))) ?_;exact PW.at [0,1,5,6,42] hm rfl rfl
     ·have d2:decide ((j:Int)<(L.length:Int))=false:=decide_eq_false om;refine PW.g d2 ?_;exact PW.at [0,1,5,6,42] hm rfl rfl
    refine PW.u ?_;refine PW.exit ?_;have hTb:=zv0 S j fr om;obtain⟨T,hT⟩:∃ T,T=toF S j fr:=⟨_,rfl⟩;rw[←hT]at hf hTb;refine PW.e ?_;refine PW.l ?_;suffices hl3:∀ i:Nat,fr≤i→i≤T→PL Tryz.prog _ _ [(0,.slice (itL L) L.length fl),(1,.slice (S.flatMap zo) S.length false),(5,.int .i64 (fr:Int)),(6,.int .i64 (j:Int)),(7,.int .i64 (i:Int))] H _ by exact PL.at [0,1,5,6,7] (hl3 fr (qH _) hTb.1) rfl rfl
    intro i hi1 hi2;induction hd3:T - i using qD generalizing i with
    | _ d3 ih3=>
     by_cases hiT:i<T
     ·have hil:i<S.length:=om;have g1:=eg i 0 hil om;rw[qG]at g1;have hlt:S[i].1.f<(j:Int):=by have h2:=hiT;rw[hT]at h2;unfold toF at h2;exact of_decide_eq_true (znq (fun e:Ent=>decide (e.1.f<(j:Int))) (S.drop fr) (i - fr) S[i] (by rw[qI,show fr+(i - fr)=i from om];exact qB hil) om)
      have hnext:=ih3 (T - (i+1)) om (i+1) om om rfl;generalize S[i]=e at *;have d2:=zcA hil;have d4:decide (e.1.f<(j:Int))=true:=decide_eq_true hlt;refine PL.round ?_;refine PW.f (fun K k=>by simp(disch:=omega) only[go_sem,↓reduceIte,reduceCtorEq,d2,lnS,g1,show(zo e)[0]? =some (.int .i64 e.1.f)from rfl,d4];exact k) ?_;refine PW.t ?_;refine PW.skip ?_;refine PW.b ?_;refine PW.e ?_;exact PL.at [0,1,5,6,7] hnext rfl rfl
     ·have hiT':i=T:=om;subst hiT';clear ih3;refine PL.round ?_;suffices hm:PW Tryz.prog _ _ [(0,.slice (itL L) L.length fl),(1,.slice (S.flatMap zo) S.length false),(5,.int .i64 (fr:Int)),(7,.int .i64 (i:Int)),(59,.bool false)] H _ by
       by_cases hil:i<S.length
       ·have g1:=eg i 0 hil om;rw[qG]at g1;have hge:¬ S[i].1.f<(j:Int):=of_decide_eq_false (zgQ (fun e:Ent=>decide (e.1.f<(j:Int))) (S.drop fr) S[i] (by
         rw[qI];show S[toF S j fr]? =_;rw[←hT];exact qB hil))
        generalize S[i]=e at *;have d2:=zcA hil;have d4:decide (e.1.f<(j:Int))=false:=decide_eq_false hge;refine PW.f (fun K k=>by simp(disch:=omega) only[go_sem,↓reduceIte,reduceCtorEq,d2,lnS,g1,show(zo e)[0]? =some (.int .i64 e.1.f)from rfl,d4];exact k) ?_;exact PW.at [0,1,5,7,59] hm rfl rfl
       ·have d2:decide ((i:Int)<(S.length:Int))=false:=decide_eq_false om;refine PW.g d2 ?_;exact PW.at [0,1,5,7,59] hm rfl rfl
      refine PW.u ?_;refine PW.exit ?_;have hfi:fr<i:=by
       rcases Nat.lt_or_ge fr i with h5|h5
       ·exact h5
       ·exfalso;have hi:i=fr:=om;have hFE:(F:Int)<(j:Int):=by
         rcases Nat.lt_or_ge F j with h6|h6
         ·omega
         ·have hFj:F=zff L F:=om;have hx1:L[F]? =some x0:=by rw[hF]at hx0;rw[Int.toNat_natCast]at hx0;exact hx0
          have:=zfe (L:=L) (n:=F) (x:=x0) (by rw[←hFj];exact hx1);unfold zdv at this;omega
        have h7:=zgQ (fun e:Ent=>decide (e.1.f<(j:Int))) (S.drop fr) S[fr] (by
         rw[qI];show S[toF S j fr]? =_;rw[←hT,hi];exact e0)
        have:=of_decide_eq_false h7;omega
      clear hT hE;have hrf:=zq5 S hsl fr i;have hrl:=zq7 S fr i hTb.2;have hgs:∀ e∈zes S fr i,SqL e.2.1:=fun e he=>hsl e (zq6 he);have hcur:=ih i;have lnG:=zdO hgs;have scG:∀ n,Scoped n (.slice ((zes S fr i).flatMap zo) (i - fr) false):=fun n=>zj fun x hx=>zaL _ _ x hx;refine PW.g (nq2 lnS hrf) ?_;unfold zxW at hf;obtain⟨G,hG⟩:∃ G,G=zes S fr i:=⟨_,rfl⟩;rw[←hG]at hrf hrl hgs lnG scG hf;have hGb:G.length≤800000:=om;have eGg:=fun(k r:Nat) (hk:k<G.length) (hr:r<147)=>zcv zo 147 G k r hk (fun e he=>zac e (hgs e he)) hr;have eGa:=fun(k:Nat) (hk:k<G.length)=>zbR zo 147 G k hk (fun e he=>zac e (hgs e he));refine PW.l ?_;suffices hl4:∀ m:Nat,m≤G.length→(((G.drop m).all fun e=>decide (e.2.2.od=(zlU G e:Int)))&&zif L S n i)=zif L S S.length 0→PL Tryz.prog _ _ [(0,.slice (itL L) L.length fl),(1,.slice (S.flatMap zo) S.length false),(5,.int .i64 (fr:Int)),(7,.int .i64 (i:Int)),(65,.slice (G.flatMap zo) G.length false),(66,.int .i64 (G.length:Int)),(67,.int .i64 (m:Int))] H _ by exact PL.at [0,1,5,7,65,66,67] (hl4 0 om hf) (by rw[hrl,hG];rfl) rfl
      clear hf;intro m hm hf;induction hd4:G.length - m using qD generalizing m with
      | _ d4 ih4=>
       by_cases hmG:m<G.length
       ·have dm:=zcA hmG;have ea:=eGa m hmG;have hnext:=ih4 (G.length - (m+1)) om (m+1) om;have hse:=hgs _ (List.getElem_mem hmG);rw[zcn _ G m hmG]at hf;generalize G[m]=e at *;have x1:=zac e hse;have x5:(zo e)[5]? =some (.int .i64 e.1.sh):=rfl;have x9:(zo e)[143]? =some (.int .i64 e.2.2.od):=zm4 e hse 2;have x11:(zo e).all PV.cell=true:=by simp[zo,zbf,PV.cell,pic]
        have x12:qK 147 (zo e)=zo e:=qC om;refine PL.round ?_;refine PW.g dm ?_;refine PW.t ?_;refine PW.skip ?_;refine PW.b ?_;refine PW.g (nq2 lnG (nq2 ea (nq2 x1 (nq2 x11 x12)))) ?_;refine PW.e ?_;refine PW.g (nq2 lnS hrf) ?_;refine PW.l ?_;suffices hl5:∀ q:Nat,q≤G.length→PL Tryz.prog _ _ [(0,.slice (itL L) L.length fl),(1,.slice (S.flatMap zo) S.length false),(5,.int .i64 (fr:Int)),(7,.int .i64 (i:Int)),(9,.ptr H.length 0 0),(10,.int .i64 (((G.take q).countP fun o=>decide (o.1.sh<e.1.sh):Nat):Int)),(65,.slice (G.flatMap zo) G.length false),(66,.int .i64 (G.length:Int)),(67,.int .i64 (m:Int)),(74,.slice (G.flatMap zo) G.length false),(75,.int .i64 (G.length:Int)),(76,.int .i64 (q:Int))] (H++[⟨71,0,zo e⟩]) _ by exact PL.at [0,1,5,7,9,10,65,66,67,74,75,76] (hl5 0 om) (by simp[kp,slot,Nat.beq,hrl]) rfl
        intro q hq;induction hd5:G.length - q using qD generalizing q with
        | _ d5 ih5=>
         have hcb:(G.take q).countP (fun o=>decide (o.1.sh<e.1.sh))≤800000:=by have:=List.countP_le_length (p:=fun o:Ent=>decide (o.1.sh<e.1.sh)) (l:=G.take q);have:=List.length_take_le q G;omega
         by_cases hqG:q<G.length
         ·have dq:=zcA hqG;have ea2:=eGa q hqG;have hnx:=ih5 (G.length - (q+1)) om (q+1) om rfl;have hso:=hgs _ (List.getElem_mem hqG);rw[List.take_add_one,qB hqG,List.countP_append,Option.toList_some]at hnx;generalize G[q]=o at *;generalize (G.take q).countP (fun o=>decide (o.1.sh<e.1.sh))=ct at *;have z1:=zac o hso;have z5:(zo o)[5]? =some (.int .i64 o.1.sh):=rfl;have z11:(zo o).all PV.cell=true:=by simp[zo,zbf,PV.cell,pic]
          have z12:qK 147 (zo o)=zo o:=qC om;have trim:∀ c:Int,Vs (⟨97,H⟩:Env) [(0,.slice (itL L) L.length fl),(1,.slice (S.flatMap zo) S.length false),(5,.int .i64 (fr:Int)),(7,.int .i64 (i:Int)),(9,.ptr H.length 0 0),(10,.int .i64 c),(65,.slice (G.flatMap zo) G.length false),(66,.int .i64 (G.length:Int)),(67,.int .i64 (m:Int)),(74,.slice (G.flatMap zo) G.length false),(75,.int .i64 (G.length:Int)),(76,.int .i64 ((q+1:Nat):Int))] (H++[⟨71,0,zo e⟩]++[⟨71,0,zo o⟩]) [(0,.slice (itL L) L.length fl),(1,.slice (S.flatMap zo) S.length false),(5,.int .i64 (fr:Int)),(7,.int .i64 (i:Int)),(9,.ptr H.length 0 0),(10,.int .i64 c),(65,.slice (G.flatMap zo) G.length false),(66,.int .i64 (G.length:Int)),(67,.int .i64 (m:Int)),(74,.slice (G.flatMap zo) G.length false),(75,.int .i64 (G.length:Int)),(76,.int .i64 ((q+1:Nat):Int))] (H++[⟨71,0,zo e⟩]):=fun c=>by
           refine Vs.trim (fun hh=>zey (fun b hb x hx=> ?_) hh) sp rfl ?_
           ·rw[List.mem_singleton]at hb;subst hb;exact zaL _ [e] x (by simpa[enB]using hx)
           ·have hl:(H++[⟨71,0,zo e⟩]:za).length=H.length+1:=by simp
            rw[hl];exact⟨.id (zj (zcL _ _)),.id (scS _),.id (.int _ _),.id (.int _ _),.id (.ptr om),.id (.int _ _),.id (zj fun x hx=>zaL _ _ x hx),.id (.int _ _),.id (.int _ _),.id (zj fun x hx=>zaL _ _ x hx),.id (.int _ _),.id (.int _ _),trivial⟩
          refine PL.round ?_;refine PW.g dq ?_;refine PW.t ?_;refine PW.skip ?_;refine PW.b ?_;refine PW.g (nq2 lnG (nq2 ea2 (nq2 z1 (nq2 z11 z12)))) ?_;by_cases hlt:o.1.sh<e.1.sh
          ·have dl:decide (o.1.sh<e.1.sh)=true:=decide_eq_true hlt;rw[show([o].countP fun o=>decide (o.1.sh<e.1.sh))=1 by simp[hlt]]at hnx;refine PW.g (nq2 x1 (nq2 z1 (nq2 x5 (nq2 z5 dl)))) ?_;refine PW.t ?_;refine PW.e ?_;refine PW.e ?_;exact PL.at [0,1,5,7,9,10,65,66,67,74,75,76] (PL.view (trim ((ct+1:Nat):Int)) hnx) rfl sp
          ·have dl:decide (o.1.sh<e.1.sh)=false:=decide_eq_false hlt;rw[show([o].countP fun o=>decide (o.1.sh<e.1.sh))=0 by simp[hlt],qG]at hnx;refine PW.g (nq2 x1 (nq2 z1 (nq2 x5 (nq2 z5 dl)))) ?_;refine PW.us ?_;refine PW.e ?_;exact PL.at [0,1,5,7,9,10,65,66,67,74,75,76] (PL.view (trim (ct:Int)) hnx) rfl sp
         ·have hqG':q=G.length:=om;subst hqG';clear ih5;rw[List.take_length]at hcb ⊢;have hbe:G.countP (fun o=>decide (o.1.sh<e.1.sh))=zlU G e:=rfl;rw[hbe]at hcb ⊢;refine PL.round ?_;refine PW.f (fun K k=>by simp(disch:=omega) only[go_sem,↓reduceIte,reduceCtorEq,ze3 G.length];exact k) ?_;refine PW.u ?_;refine PW.exit ?_;by_cases hod:e.2.2.od=(zlU G e:Int)
          ·have dd:(e.2.2.od !=(zlU G e:Int))=false:=by simp[hod]
           rw[decide_eq_true hod,Bool.true_and]at hf;refine PW.g (nq2 x1 (nq2 x9 dd)) ?_;refine PW.us ?_;refine PW.e ?_;refine PL.keep [0,1,5,7,65,66,67] ?_;refine PL.view (Vs.trim (F1:=[(0,.slice (itL L) L.length fl),(1,.slice (S.flatMap zo) S.length false),(5,.int .i64 (fr:Int)),(7,.int .i64 (i:Int)),(65,.slice (G.flatMap zo) G.length false),(66,.int .i64 (G.length:Int)),(67,.int .i64 ((m+1:Nat):Int))]) (H1:=H) (fun h=>h) (qH _) rfl ?_) (hnext hf rfl);exact⟨.id (zj (zcL _ _)),.id (scS _),.id (.int _ _),.id (.int _ _),.id (zj fun x hx=>zaL _ _ x hx),.id (.int _ _),.id (.int _ _),trivial⟩
          ·have dd:(e.2.2.od !=(zlU G e:Int))=true:=by simpa using hod
           rw[decide_eq_false hod,Bool.false_and,Bool.false_and]at hf;refine PW.g (nq2 x1 (nq2 x9 dd)) ?_;refine PW.t ?_;refine PW.e ?_;refine PW.v (.bool false) ?_;rw[←hf];exact fin _ _
       ·have hmG':m=G.length:=om;subst hmG';rw[List.drop_length,List.all_nil,Bool.true_and]at hf;refine PL.round ?_;refine PW.f (fun K k=>by simp(disch:=omega) only[go_sem,↓reduceIte,reduceCtorEq,ze3 G.length];exact k) ?_;refine PW.u ?_;refine PW.exit ?_;refine PW.e ?_;exact PL.at [0,1,5] (hcur om hTb.2 hf) rfl rfl
def ziL(p:Pi):List Bool:=zO p.od.toNat 10++zO p.ty.toNat 2++zO p.st.toNat 2++[p.tf,p.rp,p.al]
def uv(t:Int)(q:List UInt8):PV:=.agg [.int .i64 t,.slice (bs q) q.length false]
def zjp(p:Pi):Int×List UInt8×Int:=if zkf p then(181,pk (ziL p++[true]),0)else(0,[],2)
theorem zeG{n:Nat}{xs:List PV}(h:∀ x∈xs,Scoped n x):∀(j:Nat) (x:PV),xs[j]? =some x→Scoped n x:=fun j x hx=>h x (List.mem_of_getElem? hx)
theorem zo2(n:Nat)(t:Int)(q:List UInt8):Scoped n (uv t q):=zw fun x hx=>by
 simp only[qO,qL,or_false]at hx;rcases hx with rfl|rfl
 ·exact .int _ _
 ·exact zj (zn _ _)
theorem zel(n:Nat)(t:Int)(q:List UInt8)(e:Int):Scoped n (.tup [uv t q,.int .i64 e]):=.tup (zeG fun x hx=>by
 simp only[qO,qL,or_false]at hx;rcases hx with rfl|rfl
 ·exact zo2 _ _ _
 ·exact .int _ _)
theorem zp6(b:Bool):zO (if b then 1 else 0) 1=[b]:=by cases b<;>rfl
theorem zs6{p:Pi}(h:zkf p=true):0≤p.od∧p.od≤1023∧1≤p.ty∧p.ty≤3∧1≤p.st∧p.st≤3:=by simp[zkf]at h;omega
theorem wA0(j:Nat):wA j []=⟨313,0,[.msl j 0 0 0 1 true,.int .i64 0]⟩:=rfl
theorem wB0:wB []=⟨5,0,[]⟩:=rfl
theorem zun(p:Pi)(H:za):CallOk Tryz.prog 91 [.agg (pic p)] H (.tup [uv (zjp p).1 (zjp p).2.1,.int .i64 (zjp p).2.2]) H:=by
 generalize hr:zjp p=r;obtain⟨ty,st,od,tf,rp,al⟩:=p;have hcd:=fun H=>zke ⟨ty,st,od,tf,rp,al⟩ H;refine CallOk.body (F0:=[(0,.agg [.int .i64 ty,.int .i64 st,.int .i64 od,.bool tf,.bool rp,.bool al])]) Tryz.func91 rfl Tryz.ntmps91 Tryz.results91 rfl kr rfl ?_;refine PW.e ?_;refine PW.k hcd ?_;refine PW.c (fun h=> ?_) (fun h=> ?_)
 ·have h1:zkf ⟨ty,st,od,tf,rp,al⟩=false:=by simpa using h
  refine PW.e ?_;refine PW.v (.tup [.agg [.int .i64 0,.slice [] 0 true],.int .i64 2]) ?_;rw[←hr,zjp,h1];exact Fin.base (Fz.tupC ⟨Fz.aggC ⟨.id (.int _ _),.slice rfl (fun j x y hx=>by simp at hx) (fun e=>by cases e),trivial⟩,.id (.int _ _),trivial⟩)
 have h1:zkf ⟨ty,st,od,tf,rp,al⟩=true:=by simpa using h
 obtain⟨g1,g2,g3,g4,g5,g6⟩:=zs6 h1;simp only at g1 g2 g3 g4 g5 g6;refine PW.skip ?_;refine PW.k zjI ?_;refine PW.view (Vs.ghostH (id:=H.length+2) (j:=0) 5 1 (hp2 _ _ _ _ _) rfl) ?_;obtain⟨o,rfl⟩:∃ o:Nat,od=o:=⟨od.toNat,om⟩;obtain⟨t,rfl⟩:∃ o:Nat,ty=o:=⟨ty.toNat,om⟩;obtain⟨s,rfl⟩:∃ o:Nat,st=o:=⟨st.toNat,om⟩;have hbb:ziL ⟨t,s,o,tf,rp,al⟩=(zO o 10++(zO t 2++zO s 2))++[tf,rp,al]:=by simp[ziL]
 have po:o / 2^10=0:=om;have pt:t / 2^2=0:=om;have ps:s / 2^2=0:=om;(repeat refine PW.seq ?_);refine PW.at [1,2,4] (F1:=[(1,.ptr H.length 0 0),(2,.ptr (H.length+1) 0 0),(4,.ptr (H.length+2) 0 0)]) (H1:=H++[⟨35,0,[.int .i64 (t:Int),.int .i64 (s:Int),.int .i64 (o:Int),.bool tf,.bool rp,.bool al]⟩,⟨58,0,[.int .i64 0,.slice [] 0 true]⟩,wA (H.length+3) [],wB []]) ?_ rfl (by rw[wA0,wB0];simp[hs2]);have put1:=fun(L:List Bool) (V n:Nat) (hn:n≤32) (hV:V / 2^n=0) (hL:L.length≤1000000000)=>zfF (H.length+2) (H.length+3) L V n (H++[⟨35,0,[.int .i64 (t:Int),.int .i64 (s:Int),.int .i64 (o:Int),.bool tf,.bool rp,.bool al]⟩,⟨58,0,[.int .i64 0,.slice [] 0 true]⟩,wA (H.length+3) L,wB L]) (hp2 _ _ _ _ _) (hp3 _ _ _ _ _ _) om hn hV hL;simp only[two,hs2,hs3]at put1;refine PW.f (fun K k=>by simp(disch:=omega) only[go_sem,↓reduceIte,reduceCtorEq];refine VCx.call (put1 [] o 10 om po sp) rfl ?_;simp(disch:=omega) only[go_sem,↓reduceIte,reduceCtorEq];exact k) ?_;refine PW.f (fun K k=>by simp(disch:=omega) only[go_sem,↓reduceIte,reduceCtorEq];refine VCx.call (put1 _ t 2 om pt (by simp[zN])) rfl ?_;simp(disch:=omega) only[go_sem,↓reduceIte,reduceCtorEq];exact k) ?_;refine PW.f (fun K k=>by simp(disch:=omega) only[go_sem,↓reduceIte,reduceCtorEq];refine VCx.call (put1 _ s 2 om ps (by simp[zN])) rfl ?_;simp(disch:=omega) only[go_sem,↓reduceIte,reduceCtorEq];exact k) ?_;generalize hB:zO o 10++(zO t 2++zO s 2)=B at *;have hBl:B.length=14:=by rw[←hB];simp[zN]
 refine PW.e ?_;refine PW.l ?_;suffices hloop:∀(k:Nat) (L:List Bool),k≤3→L=B++[tf,rp,al].take k→PL Tryz.prog _ _ [(2,.ptr (H.length+1) 0 0),(4,.ptr (H.length+2) 0 0),(34,.slice (fs [tf,rp,al]) 3 true),(35,.int .i64 3),(36,.int .i64 (k:Int))]
   (H++[⟨35,0,[.int .i64 (t:Int),.int .i64 (s:Int),.int .i64 (o:Int),.bool tf,.bool rp,.bool al]⟩,⟨58,0,[.int .i64 0,.slice [] 0 true]⟩,wA (H.length+3) L,wB L]) _ by
  exact PL.at [2,4,34,35,36] (hloop 0 B (qS _) sp) rfl rfl
 intro k L hk hL;have hLl:L.length≤17:=by rw[hL];simp[hBl];omega
 induction hm:3 - k using qD generalizing k L with
 | _ m ih=>
  refine PL.round ?_;refine PW.e ?_;refine PW.c (fun h=> ?_) (fun h=> ?_)
  ·have h4:k<3:=ot h;have htk:B++[tf,rp,al].take (k+1)=L++[zat [tf,rp,al] k]:=by rw[hL,List.append_assoc];have:k=0∨k=1∨k=2:=om;rcases this with rfl|rfl|rfl<;>rfl
   have hfg:=zj0 [tf,rp,al] k h4;refine PW.skip ?_;refine PW.b ?_;refine PW.f (fun K k=>by simp(disch:=omega) only[go_sem,↓reduceIte,reduceCtorEq,hfg,zsB];exact k) ?_;generalize zat [tf,rp,al] k=b at *;have hnext:=ih (3 - (k+1)) om (k+1) (L++[b]) om htk.symm (by rw[←htk];simp[hBl];omega) rfl;have hv:=zp6 b;refine PW.e ?_;refine PW.e ?_;refine PW.c (fun h=> ?_) (fun h=> ?_)
   ·subst h;simp only[if_true]at hv;have hp:=put1 L 1 1 om (by decide) om;rw[hv]at hp;refine PW.e ?_;refine PW.f (fun K k=>by simp(disch:=omega) only[go_sem,↓reduceIte,reduceCtorEq];refine VCx.call (hp) rfl ?_;simp(disch:=omega) only[go_sem,↓reduceIte,reduceCtorEq];exact k) ?_;refine PW.e ?_;exact PL.at [2,4,34,35,36] hnext rfl rfl
   ·subst h;simp only[Bool.false_eq_true,if_false]at hv;have hp:=put1 L 0 1 om (by decide) om;rw[hv]at hp;refine PW.skip ?_;refine PW.f (fun K k=>by simp(disch:=omega) only[go_sem,↓reduceIte,reduceCtorEq];refine VCx.call (hp) rfl ?_;simp(disch:=omega) only[go_sem,↓reduceIte,reduceCtorEq];exact k) ?_;refine PW.e ?_;exact PL.at [2,4,34,35,36] hnext rfl rfl
  ·have h4:k=3:=ofF h;subst h4;have hLh:L=ziL ⟨t,s,o,tf,rp,al⟩:=by rw[hbb,hL];rfl
   refine PW.exit ?_;have hp:=zex (H.length+2) (H.length+3) L (H++[⟨35,0,[.int .i64 (t:Int),.int .i64 (s:Int),.int .i64 (o:Int),.bool tf,.bool rp,.bool al]⟩,⟨58,0,[.int .i64 0,.slice [] 0 true]⟩,wA (H.length+3) L,wB L]) (hp2 _ _ _ _ _) (hp3 _ _ _ _ _ _) om;refine PW.f (fun K k=>by simp(disch:=omega) only[go_sem,↓reduceIte,reduceCtorEq];refine VCx.call (hp) rfl ?_;simp(disch:=omega) only[go_sem,↓reduceIte,reduceCtorEq];exact k) ?_;refine PW.v (.tup [.agg [.int .i64 181,.slice (bs (pk (L++[true]))) (pk (L++[true])).length false],.int .i64 0]) ?_;rw[←hr,zjp,h1,hLh];exact Fin.base (.id (zel _ _ _ _))
def rR(j v n a:Nat):Blk:=⟨284,0,[.msl j v 0 n 1 true,.int .i64 (a:Int)]⟩
def rB(q:List UInt8)(v:Nat):Blk:=⟨5,v,bs (zb (bl q))⟩
def hdr(q:List UInt8):Pi:=⟨(vl q 10 2:Int),(vl q 12 2:Int),(vl q 0 10:Int),(vl q 14 1:Int)==1,(vl q 15 1:Int)==1,(vl q 16 1:Int)==1⟩
end Go.Proofs.YtpjlfoficnpfoaaGreatDoor.Sc
namespace Go.Proofs.YtpjlfoficnpfoaaGreatDoor.S3
set_option linter.all false
open Pm Ty Sc Go.RowKit
set_option maxRecDepth 100000
theorem zxh(z c:Int)(H:za)(hz:0≤z)(hz2:z≤1000000000):CallOk Tryz.prog 161 [.int .i64 z,.int .u8 c] H (.int .i64 (if c=0 then z+1 else 0)) H:=by
 refine CallOk.body (F0:=[(0,.int .i64 z),(1,.int .u8 c)]) Tryz.func161 rfl Tryz.ntmps161 Tryz.results161 rfl kr rfl ?_;refine PW.seq ?_;refine PW.e ?_;refine PW.seq (PW.seq ?_);refine PW.e ?_;refine PW.cond (t:=_) rfl (fun h=> ?_) (fun h=> ?_)
 ·have hc:c=0:=by simpa using h
  refine PW.seq ?_;refine PW.e ?_;exact PW.ret ⟨_,rfl,.inl ⟨by rw[if_pos hc];rfl,rfl⟩⟩
 ·have hc:¬ c=0:=by simpa using h
  refine PW.skip ?_;refine PW.seq ?_;refine PW.e ?_;exact PW.ret ⟨_,rfl,.inl ⟨by rw[if_neg hc];rfl,rfl⟩⟩
def zhQ(p:List UInt8):Bool:=decide (0<p.length)&&(byt p (p.length - 1)==0)
theorem zsR(p:List UInt8)(full:Bool)(H:za)(hl:p.length≤1000000):CallOk Tryz.prog 160 [.slice (bs p) p.length full] H (.bool (zhQ p)) H:=by
 refine CallOk.body (F0:=[(0,.slice (bs p) p.length full)]) Tryz.func160 rfl Tryz.ntmps160 Tryz.results160 rfl kr rfl ?_;refine PW.seq ?_;refine PW.e ?_;refine PW.seq (PW.rg1 [2] [(2,.bool (zhQ p))] H rfl ?_ (PW.ret ⟨_,rfl,.inl ⟨rfl,rfl⟩⟩));by_cases h:0<p.length
 ·simp(disch:=omega) only[go_sem,↓reduceIte,reduceCtorEq,zd,zaX];simp[zhQ,h]
 ·simp(disch:=omega) only[go_sem,↓reduceIte,reduceCtorEq,zd,zaX];simp[zhQ,h]
def code(p:List UInt8)(j:Nat):Bool:=byt p j==0&&byt p (j+1)==0&&byt p (j+2)==1&&byt p (j+3) !=0
def zcE(s:List UInt8×Nat)(c:UInt8):List UInt8×Nat:=if s.2=2∧c.toNat<4 then(s.1++[3]++[c],if c.toNat=0 then 1 else 0)else(s.1++[c],if c.toNat=0 then s.2+1 else 0)
def zdh(p:List UInt8):List UInt8×Nat:=p.foldl zcE ([],0)
def esc(p:List UInt8):List UInt8:=(zdh p).1
theorem ziU(p:List UInt8)(c:UInt8):zdh (p++[c])=zcE (zdh p) c:=by simp[zdh]
theorem zlJ(s:List UInt8×Nat)(c:UInt8)(h1:s.2=2)(h2:c.toNat<4):zcE s c=(s.1++[3]++[c],if c.toNat=0 then 0+1 else 0):=by unfold zcE;rw[if_pos ⟨h1,h2⟩]
theorem zm3(s:List UInt8×Nat)(c:UInt8)(h:¬(s.2=2∧c.toNat<4)):zcE s c=(s.1++[c],if c.toNat=0 then s.2+1 else 0):=by unfold zcE;rw[if_neg h]
theorem zqH{motive:List UInt8→Prop}(nil:motive [])(snoc:∀ p c,motive p→motive (p++[c]))(p:List UInt8):motive p:=by
 have h:∀ q:List UInt8,motive q.reverse:=fun q=>by
  induction q with
  | nil=>exact nil
  | cons c q ih=>rw[List.reverse_cons];exact snoc _ _ ih
 have:=h p.reverse;rwa[List.reverse_reverse]at this
theorem zow(p:List UInt8):(zdh p).2≤2∧(zdh p).1.length≤2 * p.length:=by
 induction p using zqH with
 | nil=>simp[zdh]
 | snoc p c ih=>
  rw[ziU];unfold zcE;by_cases h1:(zdh p).2=2
  ·by_cases h2:c.toNat<4
   ·rw[if_pos ⟨h1,h2⟩];refine⟨by split<;>simp,by simp;omega⟩
   ·rw[if_neg (fun h=>h2 h.2)];refine⟨by rw[if_neg om];simp,by simp;omega⟩
  ·rw[if_neg (fun h=>h1 h.1)];refine⟨by split<;>simp<;>omega,by simp;omega⟩
def zbq(p:List UInt8):List UInt8×Int:=if zhQ p then([],3)else(esc p,0)
def bv(p:List UInt8):PV:=.slice (bs p) p.length false
theorem ziT(p:List UInt8)(full:Bool)(H:za)(hl:p.length≤1000000):CallOk Tryz.prog 159 [.slice (bs p) p.length full] H (.tup [bv (zbq p).1,.int .i64 (zbq p).2]) H:=by
 refine CallOk.body (F0:=[(0,.slice (bs p) p.length full)]) Tryz.func159 rfl Tryz.ntmps159 Tryz.results159 rfl kr rfl ?_;refine PW.seq ?_;refine PW.e ?_;refine PW.seq (PW.seq ?_);refine PW.f (fun K k=>by simp(disch:=omega) only[go_sem,↓reduceIte,reduceCtorEq];refine VCx.call (zsR p full H hl) rfl ?_;simp(disch:=omega) only[go_sem,↓reduceIte,reduceCtorEq];exact k) ?_;(repeat refine PW.seq ?_);refine PW.cond (t:=_) rfl (fun h=> ?_) (fun h=> ?_)
 ·have he:zbq p=([],3):=by rw[zbq,if_pos h]
  rw[he];refine PW.seq ?_;refine PW.e ?_;exact PW.ret ⟨_,rfl,Fin.give (Kept.refl H) (Frz.tup2 (Frz.slice (zdT [])) ((Still.int _ _).frz _ _))⟩
 have he:zbq p=(esc p,0):=by rw[zbq,if_neg (by simp[h])]
 rw[he];refine PW.skip (PW.seq ?_);refine PW.f (fun K k=>by simp(disch:=omega) only[go_sem,↓reduceIte,reduceCtorEq,zd];exact k) ?_;refine PW.seq ?_;refine PW.e ?_;refine PW.seq (PW.seq ?_);refine PW.e ?_;refine PW.block (PW.loop ?_);suffices hloop:∀(k:Nat) (v:PV) (H1:za),k≤p.length→Acc H.length 5 1 H1 v (bs (zdh (p.take k)).1) (zdh (p.take k)).1.length→Kept H.length H H1→
   PL Tryz.prog _ _ [(0,.slice (bs p) p.length full),(4,v),(5,.int .i64 ((zdh (p.take k)).2:Int)),(12,.slice (bs p) p.length full),(13,.int .i64 (p.length:Int)),(14,.int .i64 (k:Int))] H1 _ by
  exact PL.keep [0,4,5,12,13,14] (hloop 0 _ H (qS _) (Acc.nil _ _ _ _) (Kept.refl H))
 intro k v H1 hk hacc hkept;induction hm:p.length - k using qD generalizing k v H1 with
 | _ n ih=>
  have hbd:=zow (p.take k);have hlk:(p.take k).length=k:=by simp;omega
  refine PL.round (PW.seq ?_);refine PW.e ?_;refine PW.seq ?_;(repeat refine PW.seq ?_);refine PW.cond (t:=_) rfl (fun h=> ?_) (fun h=> ?_)
  ·have h4:k<p.length:=ot h;have hby:=zaf p k;refine PW.skip (PW.seq (PW.block (PW.seq ?_)));refine PW.f (fun K k=>by simp(disch:=omega) only[go_sem,↓reduceIte,reduceCtorEq,zd,zaX];exact k) ?_;have hc:byt p k=((p.getD k 0).toNat:Int):=rfl;refine PW.join [0,4,5,7,12,13,14] (fun F' H'=>∃ v1 out1 z1,F'=[(0,.slice (bs p) p.length full),(4,v1),(5,.int .i64 (z1:Nat)),(7,.int .u8 (byt p k)),(12,.slice (bs p) p.length full),(13,.int .i64 (p.length:Int)),(14,.int .i64 (k:Int))]∧
    Acc H.length 5 1 H' v1 (bs out1) out1.length∧Kept H.length H H'∧out1.length≤2 * k+1∧z1≤2∧(out1++[p.getD k 0],if(p.getD k 0).toNat=0 then z1+1 else 0)=zcE (zdh (p.take k)) (p.getD k 0)) ?_ ?_
   ·refine PW.seq (PW.rg1 [0,4,5,7,12,13,14,23] [(0,.slice (bs p) p.length full),(4,v),(5,.int .i64 ((zdh (p.take k)).2:Int)),(7,.int .u8 (byt p k)),(12,.slice (bs p) p.length full),(13,.int .i64 (p.length:Int)),(14,.int .i64 (k:Int)),(23,.bool (decide ((zdh (p.take k)).2=2∧byt p k<4)))] H1 rfl ?_ ?_)
    ·by_cases h2:(zdh (p.take k)).2=2
     ·simp(disch:=omega) only[go_sem,↓reduceIte,reduceCtorEq];try simp[h2]
     ·simp(disch:=omega) only[go_sem,↓reduceIte,reduceCtorEq];try simp[h2]
    (repeat refine PW.seq ?_);refine PW.cond (t:=_) rfl (fun h=> ?_) (fun h=> ?_)
    ·have h5:=of_decide_eq_true h;obtain⟨v2,H2,hap,hacc2,hg2,ho2⟩:=hacc.append (P:=Tryz.prog) (t:=31) (tx:=31) (x:=.slice [.int .u8 3] 1 true) (news:=bs [3]) (m:=1) Tryz.underlying31 (show szT Tryz.prog 5=some 1 from by kernel_rfl) (show byT Tryz.prog 5=some 1 from by kernel_rfl) (show ze Tryz.prog 5=some (([.int .u8 0]:List PV))from by kernel_rfl) (by decide) rfl
      (by simp[za4,Tryz.underlying31,zap,bs]) rfl om om hkept.1
     refine PW.seq ?_;refine PW.f (fun K k=>by simp(disch:=omega) only[go_sem,↓reduceIte,reduceCtorEq,zeb,hap];exact k) ?_;refine PW.e ?_;exact⟨v2,(zdh (p.take k)).1++[3],0,rfl,by rw[zF,qA];exact hacc2,hkept.grew hg2 (fun j hj=>(hacc.own_ge j hj).1),by simp;omega,om,by rw[zlJ _ _ h5.1 om]⟩
    ·have h5:=of_decide_eq_false h;exact PW.skip ⟨v,(zdh (p.take k)).1,(zdh (p.take k)).2,rfl,hacc,hkept,om,om,by rw[zm3 _ _ (fun hh=>h5 ⟨hh.1,om⟩)]⟩
   ·rintro F' H' ⟨v1,out1,z1,rfl,hacc1,hkept1,hl1,hz1,hstep⟩;obtain⟨v2,H2,hap,hacc2,hg2,ho2⟩:=hacc1.append (P:=Tryz.prog) (t:=31) (tx:=31) (x:=.slice [.int .u8 (byt p k)] 1 true) (news:=bs [p.getD k 0]) (m:=1) Tryz.underlying31 (show szT Tryz.prog 5=some 1 from by kernel_rfl) (show byT Tryz.prog 5=some 1 from by kernel_rfl) (show ze Tryz.prog 5=some (([.int .u8 0]:List PV))from by kernel_rfl) (by decide) rfl
     (by simp[za4,Tryz.underlying31,zap,bs,byt]) rfl om om hkept1.1
    refine PW.seq ?_;refine PW.f (fun K k=>by simp(disch:=omega) only[go_sem,↓reduceIte,reduceCtorEq,zeb,hap];exact k) ?_;refine PW.f (fun K kk=>by simp(disch:=omega) only[go_sem,↓reduceIte,reduceCtorEq];refine VCx.call (zxh (z1:Int) (byt p k) H2 om om) rfl ?_;simp(disch:=omega) only[go_sem,↓reduceIte,reduceCtorEq];exact kk) ?_;refine PW.e ?_;have e1:p.take (k+1)=p.take k++[p.getD k 0]:=zgU p k h4;have e2:zdh (p.take (k+1))=(out1++[p.getD k 0],if(p.getD k 0).toNat=0 then z1+1 else 0):=by rw[e1,ziU,hstep]
    have e3:(if byt p k=0 then(z1:Int)+1 else 0)=((if(p.getD k 0).toNat=0 then z1+1 else 0:Nat):Int):=by
     rw[hc];by_cases h0:(p.getD k 0).toNat=0
     ·rw[if_pos om,if_pos h0];rfl
     ·rw[if_neg om,if_neg h0];rfl
    rw[e3];refine PL.keep [0,4,5,12,13,14] ?_;have hi:=ih (p.length - (k+1)) om (k+1) v2 H2 om (by rw[e2,zF,qA];exact hacc2) (hkept1.grew hg2 (fun j hj=>(hacc1.own_ge j hj).1)) rfl;rw[e2]at hi;exact hi
  ·have h4:k=p.length:=ofF h;subst h4;rw[List.take_length]at hacc;refine PW.exit (PW.seq ?_);refine PW.e ?_;exact PW.ret ⟨_,rfl,Fin.give hkept (Frz.tup2 (Frz.acc hacc (zdT _)) ((Still.int _ _).frz _ _))⟩
def tz(l:List UInt8):Nat:=(l.reverse.takeWhile (· =0)).length
def zbd(t:Int)(p:List UInt8):List UInt8×Int:=if t<1∨255<t then([],1)else if(zbq p).2=0 then([0,0,1,UInt8.ofNat t.toNat]++(zbq p).1,0)else([],(zbq p).2)
theorem zhP(p:List UInt8):(zbq p).1.length≤2 * p.length:=by
 unfold zbq;split
 ·simp
 ·exact(zow p).2
theorem ziO(t:Int)(p:List UInt8)(full:Bool)(H:za)(hl:p.length≤1000000):
  CallOk Tryz.prog 92 [.agg [.int .i64 t,.slice (bs p) p.length full]] H (.tup [bv (zbd t p).1,.int .i64 (zbd t p).2]) H:=by
 refine CallOk.body (F0:=[(0,.agg [.int .i64 t,.slice (bs p) p.length full])]) Tryz.func92 rfl Tryz.ntmps92 Tryz.results92 rfl kr rfl ?_;refine PW.seq ?_;refine PW.e ?_;refine PW.seq (PW.seq (PW.rg1 [1,13] [(1,.ptr H.length 0 0),(13,.bool (decide (t<1∨255<t)))] (H++[⟨58,0,[.int .i64 t,.slice (bs p) p.length full]⟩]) rfl ?_ ?_))
 ·by_cases h:t<1
  ·simp(disch:=omega) only[go_sem,↓reduceIte,reduceCtorEq];all_goals simp[h]
  ·simp(disch:=omega) only[go_sem,↓reduceIte,reduceCtorEq];all_goals simp[h]
 (repeat refine PW.seq ?_);refine PW.cond (t:=_) rfl (fun h=> ?_) (fun h=> ?_)
 ·have h1:=of_decide_eq_true h;have he:zbd t p=([],1):=by rw[zbd,if_pos h1]
  rw[he];refine PW.seq ?_;refine PW.e ?_;exact PW.ret ⟨_,rfl,Fin.give (Kept.more H _) (Frz.tup2 (Frz.slice (zdT [])) ((Still.int _ _).frz _ _))⟩
 have h1:=of_decide_eq_false h;refine PW.skip (PW.seq ?_);refine PW.f (fun K k=>by simp(disch:=omega) only[go_sem,↓reduceIte,reduceCtorEq];refine VCx.call (ziT p full _ hl) rfl ?_;simp(disch:=omega) only[go_sem,↓reduceIte,reduceCtorEq];exact k) ?_;refine PW.seq (PW.seq ?_);refine PW.e ?_;(repeat refine PW.seq ?_);refine PW.cond (t:=_) rfl (fun h=> ?_) (fun h=> ?_)
 ·have h2:¬(zbq p).2=0:=by simpa using h
  have he:zbd t p=([],(zbq p).2):=by rw[zbd,if_neg h1,if_neg h2]
  rw[he];refine PW.seq ?_;refine PW.e ?_;exact PW.ret ⟨_,rfl,Fin.give (Kept.more H _) (Frz.tup2 (Frz.slice (zdT [])) ((Still.int _ _).frz _ _))⟩
 have h2:(zbq p).2=0:=by simpa using h
 have he:zbd t p=([0,0,1,UInt8.ofNat t.toNat]++(zbq p).1,0):=by rw[zbd,if_neg h1,if_pos h2]
 rw[he];have hlen:=zhP p;have hacc:Acc H.length 5 1 (H++[⟨58,0,[.int .i64 t,.slice (bs p) p.length full]⟩]) (.slice (bs [0,0,1,UInt8.ofNat t.toNat]) 4 true) (bs [0,0,1,UInt8.ofNat t.toNat]) 4:=⟨rfl,.inl rfl⟩;have hcell:bs [0,0,1,UInt8.ofNat t.toNat]=[.int .u8 0,.int .u8 0,.int .u8 1,.int .u8 t]:=by simp[bs];omega
 obtain⟨v2,H2,hap,hacc2,hg2,ho2⟩:=hacc.append (P:=Tryz.prog) (t:=31) (tx:=31) (x:=bv (zbq p).1) (news:=bs (zbq p).1) (m:=(zbq p).1.length) Tryz.underlying31 (show szT Tryz.prog 5=some 1 from by kernel_rfl) (show byT Tryz.prog 5=some 1 from by kernel_rfl) (show ze Tryz.prog 5=some (([.int .u8 0]:List PV))from by kernel_rfl) (by decide) rfl
  (by simp[za4,Tryz.underlying31,zap,bv,zd]) (by simp[zd]) om om sp
 rw[hcell]at hap;refine PW.skip (PW.seq ?_);refine PW.f (fun K k=>by simp(disch:=omega) only[go_sem,↓reduceIte,reduceCtorEq,zeb,hap];exact k) ?_;have hb:bv ([0,0,1,UInt8.ofNat t.toNat]++(zbq p).1)= .slice (bs ([0,0,1,UInt8.ofNat t.toNat]++(zbq p).1)) (4+(zbq p).1.length) false:=by simp[bv];omega
 exact PW.ret ⟨_,rfl,Fin.give ((Kept.more H _).grew hg2 (fun j hj=>(hacc.own_ge j hj).1)) (Frz.tup2 (by
  have:=Frz.acc hacc2 (by rw[←zF];exact zdT _);rw[←zF]at this;rw[hb];exact this) ((Still.int _ _).frz _ _))⟩
end Go.Proofs.YtpjlfoficnpfoaaGreatDoor.S3
namespace Go.Proofs.YtpjlfoficnpfoaaGreatDoor.Sc
set_option linter.all false
open Pm Ty Go.RowKit
def scn:List Nat:=[0,1,8,16,9,2,3,10,17,24,32,25,18,11,4,5,12,19,26,33,40,48,41,34,27,20,13,6,7,14,21,28,35,42,49,56,57,50,43,36,29,22,15,23,30,37,44,51,58,59,52,45,38,31,39,46,53,60,61,54,47,55,62,63]
def scV:List PV:=scn.map fun n:Nat=>PV.int .i64 (n:Int)
def dIn:List UInt8:=[8,16,19,22,26,27,29,34,16,16,22,24,27,29,34,37,19,22,26,27,29,34,34,38,22,22,26,27,29,34,37,40,22,26,27,29,32,35,40,48,26,27,29,32,35,40,48,58,26,27,29,34,38,46,56,69,27,29,35,38,46,56,69,83]
def dIt:List UInt8:=List.replicate 64 16
theorem zn4:∀ x∈([]:List PV),Scoped 0 x:=fun x hx=>by cases hx
theorem zrQ(b:Bool):∀ x∈[PV.bool b],Scoped 0 x:=fun x hx=>by rw[List.mem_singleton]at hx;rw[hx];exact .bool _
theorem zyh(H:za):CallOk Tryz.prog 156 [] H (.agg (bs dIn)) H:=CallOk.evalV 1000 kr zn4
theorem zyf(H:za):CallOk Tryz.prog 157 [] H (.agg (bs dIt)) H:=CallOk.evalV 100000 kr zn4
theorem zt8(H:za):CallOk Tryz.prog 241 [.bool false] H (.agg scV) H:=CallOk.evalV 1000000 kr (zrQ _)
def sk(p:Nat):Nat:=scn.getD p 0
theorem zvs:dIn.length=64:=rfl
theorem zvr:dIt.length=64:=rfl
theorem zt7:scn.length=64:=rfl
theorem zv6(p:Nat)(h:p<64):sk p<64:=by
 have:∀ p<64,sk p<64:=by decide+kernel
 exact this p h
def mxe(m:List UInt8):Nat→List Bool
 | 0=>[]
 | p+1=>mxe m p++zO (m.getD (sk p) 0).toNat 8
theorem zjK(m:List UInt8):∀ p,(mxe m p).length=p * 8
 | 0=>rfl
 | p+1=>by rw[mxe,qA,zjK m p,zN];omega
def mxb(m u:List UInt8):List Bool:=if m=u then[false]else true::mxe m 64
theorem zgv(m u:List UInt8):(mxb m u).length≤513:=by
 unfold mxb;split
 ·simp
 ·rw[List.length_cons,zjK];omega
def zkV(s:Sq):List Bool:=zO (s.w / 16).toNat 8++(zO (s.h / 16).toNat 8++(zO s.num.toNat 32++(zO s.den.toNat 32++([s.il]++(zO s.br.toNat 32++(zO s.bf.toNat 32++(mxb s.ia dIn++mxb s.ie dIt)))))))
def zkY(s:Sq):Int×List UInt8×Int:=if zcz s then(179,pk (zkV s++[true]),0)else(0,[],1)
def zdp(c b:Bool)(t:Int):List Bool:=[c,b]++zO t.toNat 24
def zkZ(c b:Bool)(t:Int):Int×List UInt8×Int:=if 0≤t∧t<16777216 then(184,pk (zdp c b t++[true]),0)else(0,[],1)
def nm(st:Bool)(q:List UInt8)(n:Nat)(x:Nat×Nat)(k:Nat):Nat×Nat×Nat:=if x.2≠0 then(0,x)else if x.1+k≤n then(vl q x.1 k,x.1+k,0)else(0,x.1,if st then 4 else 0)
theorem zwc{st:Bool}{q:List UInt8}{n:Nat}{x:Nat×Nat}{k:Nat}(h:x.1≤n):(nm st q n x k).2.1≤n:=by
 unfold nm;split
 ·exact h
 ·split
  ·assumption
  ·exact h
def AtB(q:List UInt8)(a:Nat)(l:List Bool):Prop:=∀ i,i<l.length→za5 q (a+i)=bn l i
theorem AtB.left{q:List UInt8}{a:Nat}{l m:List Bool}(h:AtB q a (l++m)):AtB q a l:=fun i hi=>by rw[h i (by rw[qA];omega),zoL _ _ _ hi]
theorem AtB.right{q:List UInt8}{a:Nat}{l m:List Bool}(h:AtB q a (l++m)):AtB q (a+l.length) m:=fun i hi=>by rw[Nat.add_assoc,h (l.length+i) (by rw[qA];omega),zlT _ _ _ om,show l.length+i - l.length=i from om]
theorem AtB.vl{q:List UInt8}{a V n:Nat}(h:AtB q a (zO V n))(hV:V<2^n):vl q a n=V:=zwK _ _ _ _ hV fun i hi=>by rw[h i (by rw[zN];exact hi),zth V n i hi]
theorem AtB.nm{st:Bool}{q:List UInt8}{a n V k:Nat}{l:List Bool}(h:AtB q a (zO V k++l))(hV:V<2^k)(hn:a+(zO V k++l).length≤n):nm st q n (a,0) k=(V,a+k,0)∧AtB q (a+k) l∧a+k+l.length≤n:=by
 rw[qA,zN]at hn;refine⟨?_,?_,om⟩
 ·unfold Sc.nm;rw[if_neg sp,if_pos (by show a+k≤n;omega),h.left.vl hV]
 ·have:=h.right;rwa[zN]at this
theorem zzW(p q:List UInt8)(h:p.length=64)(h':q.length=64):(if szT Tryz.prog 5=some 1∧(bs p).length=64∧(bs q).length=64 then zdt (.int .u8) (bs p) (bs q)else none)=some (p==q):=by rw[←zox];exact eqU p q h h'
theorem eqB(p q:List UInt8)(h:p.length=64)(h':q.length=64):zdt (.int .u8) (bs p) (bs q)=some (p==q):=by have:=zzW p q h h';rwa[if_pos ⟨by kernel_rfl,by rw[zd];exact h,by rw[zd];exact h'⟩]at this
theorem zkG{H K:za}{i j:Nat}{A B:Blk}(hi:i<H.length)(hj:j<H.length):two (H++K) i j A B=two H i j A B++K:=by unfold two;rw[qP _ _ hi,qP _ _ (by rw[List.length_set];exact hj)]
theorem zwQ{H:za}{i j:Nat}{A B:Blk}(hA:∀ x∈A.cells,Scoped H.length x)(hB:∀ x∈B.cells,Scoped H.length x)(h:HSc H):HSc (two H i j A B):=HSc.set (HSc.set h hA) (by rw[List.length_set];exact hB)
theorem zyO{n j:Nat}(l:List Bool)(h:j<n):∀ x∈(wA j l).cells,Scoped n x:=fun x hx=>by
 simp only[wA,qO,qL,or_false]at hx;rcases hx with rfl|rfl
 ·exact .msl h
 ·exact .int _ _
theorem zyN(n:Nat)(l:List Bool):∀ x∈(wB l).cells,Scoped n x:=fun x hx=>zn _ _ x hx
theorem zkE(H:za)(i j:Nat)(A B A' B':Blk)(h:i≠j):two (two H i j A B) i j A' B'=two H i j A' B':=by unfold two;rw[List.set_comm _ _ (Ne.symm h),List.set_set,List.set_set]
theorem zxf(p:Nat)(h:p<64):scV[p]? =some (.int .i64 (sk p:Int)):=by unfold scV sk;rw[List.getElem?_map,List.getD,qB (by rw[zt7];exact h)];rfl
theorem zhl(i j:Nat)(l:List Bool)(b:Bool)(H:za)(hA:H[i]? =some (wA j l))(hB:H[j]? =some (wB l))(hne:i≠j)(hl:l.length≤1000000000):
  CallOk Tryz.prog 154 [.ptr i 0 0,.bool b] H (.tup []) (two H i j (wA j (l++[b])) (wB (l++[b]))):=by
 have hv:=zp6 b;refine CallOk.go Tryz.func154 Tryz.ntmps154 Tryz.results154 ?_;refine PW.e ?_;refine PW.e ?_;cases b with
 | true=>
  have hp:=zfF i j l 1 1 H hA hB hne om (by decide) hl;simp only[if_true]at hv;rw[hv]at hp;refine PW.t ?_;refine PW.e ?_;refine PW.f (fun K k=>by simp(disch:=omega) only[go_sem,↓reduceIte,reduceCtorEq];refine VCx.call (hp) rfl ?_;simp(disch:=omega) only[go_sem,↓reduceIte,reduceCtorEq];exact k) ?_;exact Exists.intro _ (And.intro rfl Fin.now)
 | false=>have hp:=zfF i j l 0 1 H hA hB hne om (by decide) hl;simp only[Bool.false_eq_true,if_false]at hv;rw[hv]at hp;refine PW.us ?_;refine PW.f (fun K k=>by simp(disch:=omega) only[go_sem,↓reduceIte,reduceCtorEq];refine VCx.call (hp) rfl ?_;simp(disch:=omega) only[go_sem,↓reduceIte,reduceCtorEq];exact k) ?_;exact Exists.intro _ (And.intro rfl Fin.now)
set_option maxHeartbeats 4000000 in
theorem zuz(i j:Nat)(l:List Bool)(m u:List UInt8)(H:za)(hA:H[i]? =some (wA j l))(hB:H[j]? =some (wB l))(hne:i≠j)(hl:l.length≤1000000)(hm:m.length=64)(hu:u.length=64):
  CallOk Tryz.prog 155 [.ptr i 0 0,.agg (bs m),.agg (bs u)] H (.tup []) (two H i j (wA j (l++mxb m u)) (wB (l++mxb m u))):=by
 have hi:=(qE.1 hA).1;have hj:=(qE.1 hB).1;have e1:=eqB m u hm hu;have am:(bs m).all PV.cell=true:=by simp[bs,PV.cell]
 have au:(bs u).all PV.cell=true:=by simp[bs,PV.cell]
 have lm:(bs m).length=64:=by rw[zd];exact hm
 have lu:(bs u).length=64:=by rw[zd];exact hu
 have tm:qK 64 (bs m)=bs m:=qC om;have tu:qK 64 (bs u)=bs u:=qC om;have fin:∀ L K,Fin H (.tup []) (two H i j (wA j L) (wB L)) (.tup []) (two H i j (wA j L) (wB L)++K):=fun L K=>Fin.cut rfl (by rw[zaG]) (zwQ (zyO _ hj) (zyN _ _)) (.id (.tup sp));refine CallOk.go Tryz.func155 Tryz.ntmps155 Tryz.results155 ?_;refine PW.g (nq2 am au) ?_;obtain⟨K,hK0⟩:∃ K:za,K=[⟨27,0,bs m⟩,⟨27,0,bs u⟩]:=⟨_,rfl⟩;have gA:∀ L,(two H i j (wA j L) (wB L)++K)[i]? =some (wA j L):=fun L=>by rw[qF (by rw[zaG];exact hi)];exact zeK _ _ _ _ _ ⟨hi,hne⟩
 have gB:∀ L,(two H i j (wA j L) (wB L)++K)[j]? =some (wB L):=fun L=>by rw[qF (by rw[zaG];exact hj)];exact zeJ _ _ _ _ _ hj
 have pf:∀ L b,L.length≤1000000000→CallOk Tryz.prog 154 [.ptr i 0 0,.bool b] (two H i j (wA j L) (wB L)++K) (.tup []) (two H i j (wA j (L++[b])) (wB (L++[b]))++K):=fun L b hL=>by have:=zhl i j L b _ (gA L) (gB L) hne hL;rw[zkG (by rw[zaG];exact hi) (by rw[zaG];exact hj),zkE _ _ _ _ _ _ _ hne]at this;exact this
 have pt:∀(L:List Bool) (V n:Nat),n≤32→V / 2^n=0→L.length≤1000000000→CallOk Tryz.prog 153 [.ptr i 0 0,.int .u32 (V:Int),.int .i64 (n:Int)] (two H i j (wA j L) (wB L)++K) (.int .i64 0) (two H i j (wA j (L++zO V n)) (wB (L++zO V n))++K):=fun L V n hn hV hL=>by have:=zfF i j L V n _ (gA L) (gB L) hne hn hV hL;rw[zkG (by rw[zaG];exact hi) (by rw[zaG];exact hj),zkE _ _ _ _ _ _ _ hne]at this;exact this
 have g4:∀ L,(two H i j (wA j L) (wB L)++K)[H.length]? =some ⟨27,0,bs m⟩:=fun L=>by rw[qN (by rw[zaG];omega),zaG,Nat.sub_self,hK0];rfl
 have g5:∀ L,(two H i j (wA j L) (wB L)++K)[H.length+1]? =some ⟨27,0,bs u⟩:=fun L=>by rw[qN (by rw[zaG];omega),zaG,show H.length+1 - H.length=1 from om,hK0];rfl
 refine PW.at [0,4,5] (F1:=[(0,.ptr i 0 0),(4,.ptr H.length 0 0),(5,.ptr (H.length+1) 0 0)]) (H1:=two H i j (wA j l) (wB l)++K) ?_ rfl (by rw[zkF hA hB,hK0]);have p1:=pf l (!(m==u)) om;(repeat refine PW.seq ?_);refine PW.rg rfl fun K hK=> ?_;simp(disch:=omega) only[go_sem,↓reduceIte,reduceCtorEq,g4,g5,lm,lu,tm,tu,e1];refine VCx.call (p1) rfl ?_;simp(disch:=omega) only[go_sem,↓reduceIte,reduceCtorEq];refine hK _ _ ?_;clear hK K;refine PW.g (nq2 g4 (nq2 g5 (nq2 lm (nq2 lu (nq2 tm (nq2 tu e1)))))) ?_;have bg:∀ p,p<64→(bs m)[sk p]? =some (.int .u8 ((m.getD (sk p) 0).toNat:Int)):=fun p hp=>by rw[zaX _ _ (by rw[hm];exact zv6 p hp)];rfl
 cases he:(m==u)with
 | true=>
  have hmu:mxb m u=[!(m==u)]:=by unfold mxb;rw[if_pos (by simpa using he),he];rfl
  refine PW.t ?_;refine PW.ret ⟨_,rfl,?_⟩;rw[hmu,he];exact fin _ K
 | false=>
  have hmu:mxb m u=true::mxe m 64:=by unfold mxb;rw[if_neg (by simpa using he)]
  refine PW.us ?_;refine PW.k zt8 ?_;refine PW.l ?_;suffices hloop:∀ k:Nat,k≤64→PL Tryz.prog _ _ [(0,.ptr i 0 0),(4,.ptr H.length 0 0),(16,.agg scV),(17,.int .i64 (k:Int))] (two H i j (wA j (l++(true::mxe m k))) (wB (l++(true::mxe m k)))++K) _ by exact PL.at [0,4,16,17] (hloop 0 om) rfl rfl
  have sl:scV.length=64:=rfl;clear p1 pf e1;intro k hk;induction hd:64 - k using qD generalizing k with
  | _ n ih=>
   refine PL.round ?_;refine PW.e ?_;refine PW.c (fun h=> ?_) (fun h=> ?_)
   ·have h4:k<64:=ot h;have s1:=zxf k h4;have b1:=bg k h4;have b2:=zv6 k h4;have hv:(m.getD (sk k) 0).toNat<256:=UInt8.toNat_lt _;have p1:=pt (l++(true::mxe m k)) (m.getD (sk k) 0).toNat 8 om (qM hv) (by rw[qA,List.length_cons,zjK];omega);have hnext:=ih (64 - (k+1)) om (k+1) om rfl;rw[mxe,show l++true::(mxe m k++zO (m.getD (sk k) 0).toNat 8)=l++(true::mxe m k)++zO (m.getD (sk k) 0).toNat 8 by simp]at hnext;have g6:=g4 (l++(true::mxe m k));generalize (m.getD (sk k) 0).toNat=V at *;generalize l++(true::mxe m k)=L at *;generalize sk k=q at *;generalize l++true::mxe m 64=L2 at *;refine PW.skip ?_;refine PW.b ?_;refine PW.g (nq2 s1 sl) ?_;refine PW.f (fun K k=>by simp(disch:=omega) only[go_sem,↓reduceIte,reduceCtorEq,g6,lm,b1];refine VCx.call (p1) rfl ?_;simp(disch:=omega) only[go_sem,↓reduceIte,reduceCtorEq];exact k) ?_;refine PW.e ?_;exact PL.at [0,4,16,17] hnext rfl rfl
   ·have h4:k=64:=ofF h;subst h4;refine PW.exit ?_;refine Exists.intro _ (And.intro rfl ?_);rw[hmu];exact fin _ K
theorem zo6(s:Sq):(sqc s).all PV.cell=true:=by simp[sqc,bs,PV.cell]
theorem zwI{s:Sq}(h:zcz s=true):(16≤s.w∧s.w≤64)∧(16≤s.h∧s.h≤64)∧(1≤s.num∧s.num≤1048576)∧(1≤s.den∧s.den≤65536)∧(1≤s.br∧s.br≤16777216)∧(1≤s.bf∧s.bf≤8388608):=by have h0:=zp4 h;simp only[zcz,vrt,vbr,Bool.and_eq_true,decide_eq_true_eq]at h;obtain⟨_,⟨⟨⟨h1,h2⟩,h3⟩,h4⟩,⟨⟨⟨h5,h6⟩,h7⟩,h8⟩,_⟩:=h;have:=ziE h1;omega
def sHU(H:za)(s:Sq)(L:List Bool):za:=H++[⟨29,0,sqc s⟩,⟨58,0,[.int .i64 0,.slice [] 0 true]⟩,wA (H.length+3) L,wB L]
theorem zi5(H:za)(s:Sq)(L M:List Bool):two (sHU H s L) (H.length+2) (H.length+3) (wA (H.length+3) M) (wB M)=sHU H s M:=by unfold two sHU;simp only[aps,List.set_cons_succ,List.set_cons_zero]
theorem zji(H:za)(s:Sq)(L:List Bool):(sHU H s L)[H.length]? =some ⟨29,0,sqc s⟩:=hp0 _ _ _
theorem sH_1(H:za)(s:Sq)(L:List Bool):(sHU H s L)[H.length+1]? =some ⟨58,0,[.int .i64 0,.slice [] 0 true]⟩:=hp1 _ _ _ _
theorem zq2(H:za)(s:Sq)(L:List Bool):(sHU H s L)[H.length+2]? =some (wA (H.length+3) L):=hp2 _ _ _ _ _
theorem zq1(H:za)(s:Sq)(L:List Bool):(sHU H s L)[H.length+3]? =some (wB L):=hp3 _ _ _ _ _ _
theorem sH_l(H:za)(s:Sq)(L:List Bool):(sHU H s L).length=H.length+4:=by simp[sHU]
set_option maxHeartbeats 4000000 in
theorem zul(s:Sq)(H:za)(hs:SqOk s):CallOk Tryz.prog 89 [.agg (sqc s)] H (.tup [uv (zkY s).1 (zkY s).2.1,.int .i64 (zkY s).2.2]) H:=by
 have hvo:=fun K=>zgn s K hs;have hcl:=zo6 s;have hln:(bs s.ia++bs s.ie).length=128:=by simp[zd,hs.ia,hs.ie]
 have htk:=zmh s.ia s.ie hs.ia hs.ie;have tia:=zir s.ia s.ie hs.ia;have tie:=ziq s.ia s.ie hs.ia;have tk:=zgY s.ie hs.ie;have lia:(bs s.ia).length=64:=by rw[zd];exact hs.ia
 have lie:(bs s.ie).length=64:=by rw[zd];exact hs.ie
 generalize hr:zkY s=r;unfold zkY at hr;refine CallOk.go Tryz.func89 Tryz.ntmps89 Tryz.results89 ?_;refine PW.g hcl ?_;cases hv:zcz s with
 | false=>
  rw[hv,if_neg (by decide)]at hr;rw[hv]at hvo;(repeat refine PW.seq ?_);refine PW.rg rfl fun K hK=> ?_;simp(disch:=omega) only[go_sem,↓reduceIte,reduceCtorEq,sqc,hln,htk];refine VCx.call (hvo _) rfl ?_;simp(disch:=omega) only[go_sem,↓reduceIte,reduceCtorEq];refine hK _ _ ?_;clear hK K;refine PW.t ?_;refine PW.e ?_;refine PW.v (.tup [.agg [.int .i64 0,.slice [] 0 true],.int .i64 1]) ?_;rw[←hr];exact Fin.base (Fz.tupC ⟨Fz.aggC ⟨.id (.int _ _),.slice rfl (fun j x y hx=>by simp at hx) (fun e=>by cases e),trivial⟩,.id (.int _ _),trivial⟩)
 | true=>
  rw[hv,if_pos rfl]at hr;rw[hv]at hvo;obtain⟨v1,v2,v3,v4,v5,v6⟩:=zwI hv;(repeat refine PW.seq ?_);refine PW.rg rfl fun K hK=> ?_;simp(disch:=omega) only[go_sem,↓reduceIte,reduceCtorEq,sqc,hln,htk];refine VCx.call (hvo _) rfl ?_;simp(disch:=omega) only[go_sem,↓reduceIte,reduceCtorEq];refine hK _ _ ?_;clear hK K;refine PW.us ?_;refine PW.k zjI ?_;refine PW.view (Vs.ghostH (id:=H.length+2) (j:=0) 5 1 (hp2 _ _ _ _ _) rfl) ?_;refine PW.at [1,2,4] (F1:=[(1,.ptr H.length 0 0),(2,.ptr (H.length+1) 0 0),(4,.ptr (H.length+2) 0 0)]) (H1:=sHU H s []) ?_ rfl (by unfold sHU;rw[wA0,wB0];simp[hs2,sqc]);have hw:s.w.tdiv 16=((s.w / 16).toNat:Int):=by rw[zu _ _ om];omega
  have hh:s.h.tdiv 16=((s.h / 16).toNat:Int):=by rw[zu _ _ om];omega
  have hwb:(s.w / 16).toNat≤4:=om;have hhb:(s.h / 16).toNat≤4:=om;have en:s.num=(s.num.toNat:Int):=om;have ed:s.den=(s.den.toNat:Int):=om;have er:s.br=(s.br.toNat:Int):=om;have ef:s.bf=(s.bf.toNat:Int):=om;have p1:∀(L:List Bool) (V n:Nat),n≤32→V<2^n→L.length≤1000000→CallOk Tryz.prog 153 [.ptr (H.length+2) 0 0,.int .u32 (V:Int),.int .i64 (n:Int)] (sHU H s L) (.int .i64 0) (sHU H s (L++zO V n)):=fun L V n hn hV hL=>by have:=zfF (H.length+2) (H.length+3) L V n (sHU H s L) (zq2 H s L) (zq1 H s L) om hn (qM hV) om;rwa[zi5]at this
  have p2:∀(L:List Bool) (b:Bool),L.length≤1000000→CallOk Tryz.prog 154 [.ptr (H.length+2) 0 0,.bool b] (sHU H s L) (.tup []) (sHU H s (L++[b])):=fun L b hL=>by have:=zhl (H.length+2) (H.length+3) L b (sHU H s L) (zq2 H s L) (zq1 H s L) om om;rwa[zi5]at this
  have p3:∀(L:List Bool) (m u:List UInt8),m.length=64→u.length=64→L.length≤100000→∀(K:za),K[H.length+2]? =some (wA (H.length+3) L)→K[H.length+3]? =some (wB L)→CallOk Tryz.prog 155 [.ptr (H.length+2) 0 0,.agg (bs m),.agg (bs u)] K (.tup []) (two K (H.length+2) (H.length+3) (wA (H.length+3) (L++mxb m u)) (wB (L++mxb m u))):=fun L m u hm hu hL K k1 k2=>zuz (H.length+2) (H.length+3) L m u K k1 k2 om om hm hu;have p4:∀(L:List Bool),L.length≤1000000→CallOk Tryz.prog 158 [.ptr (H.length+2) 0 0] (sHU H s L) (.slice (bs (pk (L++[true]))) (pk (L++[true])).length false) (sHU H s L):=fun L hL=>zex (H.length+2) (H.length+3) L (sHU H s L) (zq2 H s L) (zq1 H s L) om;have q1:=p1 [] (s.w / 16).toNat 8 om om sp;refine PW.f (fun K k=>by simp(disch:=omega) only[go_sem,↓reduceIte,reduceCtorEq,zji,sqc,hw];refine VCx.call (q1) rfl ?_;simp(disch:=omega) only[go_sem,↓reduceIte,reduceCtorEq];exact k) ?_;obtain⟨L1,h1⟩:∃ L,L=zO (s.w / 16).toNat 8:=⟨_,rfl⟩;have n1:L1.length=8:=by rw[h1];simp[zN]
  rw[←h1];have q2:=p1 L1 (s.h / 16).toNat 8 om om om;refine PW.f (fun K k=>by simp(disch:=omega) only[go_sem,↓reduceIte,reduceCtorEq,zji,sqc,hh];refine VCx.call (q2) rfl ?_;simp(disch:=omega) only[go_sem,↓reduceIte,reduceCtorEq];exact k) ?_;obtain⟨L2,h2⟩:∃ L,L=L1++zO (s.h / 16).toNat 8:=⟨_,rfl⟩;have n2:L2.length=16:=by rw[h2];simp[zN,n1]
  rw[←h2];have q3:=p1 L2 s.num.toNat 32 om om om;rw[←en]at q3;refine PW.f (fun K k=>by simp(disch:=omega) only[go_sem,↓reduceIte,reduceCtorEq,zji,sqc];refine VCx.call (q3) rfl ?_;simp(disch:=omega) only[go_sem,↓reduceIte,reduceCtorEq];exact k) ?_;obtain⟨L3,h3⟩:∃ L,L=L2++zO s.num.toNat 32:=⟨_,rfl⟩;have n3:L3.length=48:=by rw[h3];simp[zN,n2]
  rw[←h3];have q4:=p1 L3 s.den.toNat 32 om om om;rw[←ed]at q4;refine PW.f (fun K k=>by simp(disch:=omega) only[go_sem,↓reduceIte,reduceCtorEq,zji,sqc];refine VCx.call (q4) rfl ?_;simp(disch:=omega) only[go_sem,↓reduceIte,reduceCtorEq];exact k) ?_;obtain⟨L4,h4⟩:∃ L,L=L3++zO s.den.toNat 32:=⟨_,rfl⟩;have n4:L4.length=80:=by rw[h4];simp[zN,n3]
  rw[←h4];have q5:=p2 L4 s.il om;refine PW.f (fun K k=>by simp(disch:=omega) only[go_sem,↓reduceIte,reduceCtorEq,zji,sqc];refine VCx.call (q5) rfl ?_;simp(disch:=omega) only[go_sem,↓reduceIte,reduceCtorEq];exact k) ?_;obtain⟨L5,h5⟩:∃ L,L=L4++[s.il]:=⟨_,rfl⟩;have n5:L5.length=81:=by rw[h5];simp[n4]
  rw[←h5];have q6:=p1 L5 s.br.toNat 32 om om om;rw[←er]at q6;refine PW.f (fun K k=>by simp(disch:=omega) only[go_sem,↓reduceIte,reduceCtorEq,zji,sqc];refine VCx.call (q6) rfl ?_;simp(disch:=omega) only[go_sem,↓reduceIte,reduceCtorEq];exact k) ?_;obtain⟨L6,h6⟩:∃ L,L=L5++zO s.br.toNat 32:=⟨_,rfl⟩;have n6:L6.length=113:=by rw[h6];simp[zN,n5]
  rw[←h6];have q7:=p1 L6 s.bf.toNat 32 om om om;rw[←ef]at q7;refine PW.f (fun K k=>by simp(disch:=omega) only[go_sem,↓reduceIte,reduceCtorEq,zji,sqc];refine VCx.call (q7) rfl ?_;simp(disch:=omega) only[go_sem,↓reduceIte,reduceCtorEq];exact k) ?_;obtain⟨L7,h7⟩:∃ L,L=L6++zO s.bf.toNat 32:=⟨_,rfl⟩;have n7:L7.length=145:=by rw[h7];simp[zN,n6]
  rw[←h7];clear q1 q2 q3 q4 q5 q6 q7 p1 p2;have x8:=zgv s.ia dIn;have x9:=zgv s.ie dIt;(repeat refine PW.seq ?_);refine PW.drawi [H.length+2,H.length+3] [(4,[0,1]),(48,[0,1])] [] [51] mix kr (by simp<;>omega) fun K hK=> ?_;simp(disch:=omega) only[go_sem,↓reduceIte,reduceCtorEq,zji,sqc,tia,qA,lia,lie];refine VCj.read (fun _ _=>zyh _) rfl ?_;simp(disch:=omega) only[go_sem,↓reduceIte,reduceCtorEq];refine VCj.wrT (i:=H.length+2) (j:=H.length+3) (zq2 H s L7) (zq1 H s L7) om (p3 L7 s.ia dIn hs.ia zvs om) (by simp(disch:=omega) only[go_sem,↓reduceIte,reduceCtorEq]) (by simp(disch:=omega) only[go_sem,↓reduceIte,reduceCtorEq]) (by simp(disch:=omega) only[go_sem,↓reduceIte,reduceCtorEq]) (by simp(disch:=omega) only[go_sem,↓reduceIte,reduceCtorEq]) rfl ?_;simp(disch:=omega) only[go_sem,↓reduceIte,reduceCtorEq,zi5];refine hK _ _ ?_;clear hK K;obtain⟨L8,h8⟩:∃ L,L=L7++mxb s.ia dIn:=⟨_,rfl⟩;have n8:L8.length≤145+513:=by rw[h8,qA];omega
  rw[←h8];(repeat refine PW.seq ?_);refine PW.drawi [H.length+2,H.length+3] [(4,[0,1]),(53,[0,1])] [] [56] mix kr (by simp<;>omega) fun K hK=> ?_;simp(disch:=omega) only[go_sem,↓reduceIte,reduceCtorEq,zji,sqc,tie,tk,qA,lia,lie];refine VCj.read (fun _ _=>zyf _) rfl ?_;simp(disch:=omega) only[go_sem,↓reduceIte,reduceCtorEq];refine VCj.wrT (i:=H.length+2) (j:=H.length+3) (zq2 H s L8) (zq1 H s L8) om (p3 L8 s.ie dIt hs.ie zvr om) (by simp(disch:=omega) only[go_sem,↓reduceIte,reduceCtorEq]) (by simp(disch:=omega) only[go_sem,↓reduceIte,reduceCtorEq]) (by simp(disch:=omega) only[go_sem,↓reduceIte,reduceCtorEq]) (by simp(disch:=omega) only[go_sem,↓reduceIte,reduceCtorEq]) rfl ?_;simp(disch:=omega) only[go_sem,↓reduceIte,reduceCtorEq,zi5];refine hK _ _ ?_;clear hK K;obtain⟨L9,h9⟩:∃ L,L=L8++mxb s.ie dIt:=⟨_,rfl⟩;have n9:L9.length≤145+513+513:=by rw[h9,qA];omega
  rw[←h9];have hL:zkV s=L9:=by rw[h9,h8,h7,h6,h5,h4,h3,h2,h1];simp[zkV]
  have q9:=p4 L9 om;(repeat refine PW.seq ?_);refine PW.rg rfl fun K hK=> ?_;simp(disch:=omega) only[go_sem,↓reduceIte,reduceCtorEq];refine VCx.call (q9) rfl ?_;simp(disch:=omega) only[go_sem,↓reduceIte,reduceCtorEq,sH_1,sH_l];refine hK _ _ ?_;clear hK K;generalize hP:pk (L9++[true])=P at *;have hE:(sHU H s L9).set (H.length+1) ⟨58,0,[.int .i64 179,.slice (bs P) P.length false]⟩=H++[⟨29,0,sqc s⟩,⟨58,0,[.int .i64 179,.slice (bs P) P.length false]⟩,wA (H.length+3) L9,wB L9]:=hs1 _ _ _ _ _;refine PW.eq rfl hE ?_;refine PW.v (.tup [.agg [.int .i64 179,.slice (bs P) P.length false],.int .i64 0]) ?_;rw[←hr,hL,hP];exact Fin.base (.id (zel _ _ _ _))
def gH(H:za)(X:List PV)(L:List Bool):za:=H++[⟨41,0,X⟩,⟨58,0,[.int .i64 0,.slice [] 0 true]⟩,wA (H.length+3) L,wB L]
theorem zp9(H:za)(X:List PV)(L M:List Bool):two (gH H X L) (H.length+2) (H.length+3) (wA (H.length+3) M) (wB M)=gH H X M:=by unfold two gH;simp only[aps,List.set_cons_succ,List.set_cons_zero]
theorem gH_0(H:za)(X:List PV)(L:List Bool):(gH H X L)[H.length]? =some ⟨41,0,X⟩:=hp0 _ _ _
theorem gH_1(H:za)(X:List PV)(L:List Bool):(gH H X L)[H.length+1]? =some ⟨58,0,[.int .i64 0,.slice [] 0 true]⟩:=hp1 _ _ _ _
theorem zx0(H:za)(X:List PV)(L:List Bool):(gH H X L)[H.length+2]? =some (wA (H.length+3) L):=hp2 _ _ _ _ _
theorem zxZ(H:za)(X:List PV)(L:List Bool):(gH H X L)[H.length+3]? =some (wB L):=hp3 _ _ _ _ _ _
set_option maxHeartbeats 4000000 in
theorem zum(c b:Bool)(t:Int)(H:za)(ht:zih t):CallOk Tryz.prog 90 [.agg [.bool c,.bool b,.int .i64 t]] H (.tup [uv (zkZ c b t).1 (zkZ c b t).2.1,.int .i64 (zkZ c b t).2.2]) H:=by
 generalize hr:zkZ c b t=r;unfold zkZ at hr;refine CallOk.go Tryz.func90 Tryz.ntmps90 Tryz.results90 ?_;refine PW.e ?_;by_cases hc:0≤t∧t<16777216;rotate_left
 ·rw[if_neg hc]at hr;suffices hrest:PW Tryz.prog _ _ [(1,.ptr H.length 0 0),(2,.ptr (H.length+1) 0 0),(12,.bool true)] (H++[⟨41,0,[.bool c,.bool b,.int .i64 t]⟩,⟨58,0,[.int .i64 0,.slice [] 0 true]⟩]) _ by
   by_cases h0:t<0
   ·have d0:decide (t<0)=true:=decide_eq_true h0;refine PW.g d0 ?_;exact PW.at [1,2,12] hrest rfl rfl
   ·have d0:decide (t<0)=false:=decide_eq_false h0;have d1:decide (16777216≤t)=true:=decide_eq_true om;refine PW.g (nq2 d0 d1) ?_;exact PW.at [1,2,12] hrest rfl rfl
  refine PW.t ?_;refine PW.e ?_;refine PW.v (.tup [.agg [.int .i64 0,.slice [] 0 true],.int .i64 1]) ?_;rw[←hr];exact Fin.base (Fz.tupC ⟨Fz.aggC ⟨.id (.int _ _),.slice rfl (fun j x y hx=>by simp at hx) (fun e=>by cases e),trivial⟩,.id (.int _ _),trivial⟩)
 rw[if_pos hc]at hr;have d0:decide (t<0)=false:=decide_eq_false om;have d1:decide (16777216≤t)=false:=decide_eq_false om;refine PW.g (nq2 d0 d1) ?_;refine PW.us ?_;refine PW.k zjI ?_;refine PW.view (Vs.ghostH (id:=H.length+2) (j:=0) 5 1 (hp2 _ _ _ _ _) rfl) ?_;obtain⟨X,hX⟩:∃ X,X=[PV.bool c,.bool b,.int .i64 t]:=⟨_,rfl⟩;refine PW.at [1,2,4] (F1:=[(1,.ptr H.length 0 0),(2,.ptr (H.length+1) 0 0),(4,.ptr (H.length+2) 0 0)]) (H1:=gH H X []) ?_ rfl (by unfold gH;rw[wA0,wB0,hX];simp[hs2]);have p1:∀(L:List Bool) (V n:Nat),n≤32→V<2^n→L.length≤1000000→CallOk Tryz.prog 153 [.ptr (H.length+2) 0 0,.int .u32 (V:Int),.int .i64 (n:Int)] (gH H X L) (.int .i64 0) (gH H X (L++zO V n)):=fun L V n hn hV hL=>by have:=zfF (H.length+2) (H.length+3) L V n (gH H X L) (zx0 H X L) (zxZ H X L) om hn (qM hV) om;rwa[zp9]at this
 have p2:∀(L:List Bool) (b:Bool),L.length≤1000000→CallOk Tryz.prog 154 [.ptr (H.length+2) 0 0,.bool b] (gH H X L) (.tup []) (gH H X (L++[b])):=fun L b hL=>by have:=zhl (H.length+2) (H.length+3) L b (gH H X L) (zx0 H X L) (zxZ H X L) om om;rwa[zp9]at this
 have g0:∀ L,(gH H X L)[H.length]? =some ⟨41,0,[.bool c,.bool b,.int .i64 t]⟩:=fun L=>by rw[gH_0,hX]
 have q1:=p2 [] c sp;refine PW.f (fun K k=>by simp(disch:=omega) only[go_sem,↓reduceIte,reduceCtorEq,g0];refine VCx.call (q1) rfl ?_;simp(disch:=omega) only[go_sem,↓reduceIte,reduceCtorEq];exact k) ?_;have q2:=p2 [c] b sp;refine PW.f (fun K k=>by simp(disch:=omega) only[go_sem,↓reduceIte,reduceCtorEq,g0];refine VCx.call (q2) rfl ?_;simp(disch:=omega) only[go_sem,↓reduceIte,reduceCtorEq];exact k) ?_;have q3:=p1 [c,b] t.toNat 24 om om sp;have et:t=(t.toNat:Int):=om;rw[←et]at q3;refine PW.f (fun K k=>by simp(disch:=omega) only[go_sem,↓reduceIte,reduceCtorEq,g0];refine VCx.call (q3) rfl ?_;simp(disch:=omega) only[go_sem,↓reduceIte,reduceCtorEq];exact k) ?_;have hgb:zdp c b t=c::b::zO t.toNat 24:=rfl;have hgl:(zdp c b t).length=26:=by simp[zdp,zN]
 rw[←hgb];have q9:=zex (H.length+2) (H.length+3) (zdp c b t) (gH H X (zdp c b t)) (zx0 H X _) (zxZ H X _) om;refine PW.f (fun K k=>by simp(disch:=omega) only[go_sem,↓reduceIte,reduceCtorEq];refine VCx.call (q9) rfl ?_;simp(disch:=omega) only[go_sem,↓reduceIte,reduceCtorEq,gH_1];exact k) ?_;generalize hP:pk (zdp c b t++[true])=P at *;have hE:(gH H X (zdp c b t)).set (H.length+1) ⟨58,0,[.int .i64 184,.slice (bs P) P.length false]⟩=H++[⟨41,0,X⟩,⟨58,0,[.int .i64 184,.slice (bs P) P.length false]⟩,wA (H.length+3) (zdp c b t),wB (zdp c b t)]:=hs1 _ _ _ _ _;refine PW.eq rfl hE ?_;refine PW.v (.tup [.agg [.int .i64 184,.slice (bs P) P.length false],.int .i64 0]) ?_;rw[←hr];exact Fin.base (.id (zel _ _ _ _))
theorem nm_e{q:List UInt8}{n a e k:Nat}(he:e≤4):(nm true q n (a,e) k).2.2≤4:=by
 unfold nm;split
 ·exact he
 ·split
  ·exact qS _
  ·exact qH _
structure Tk(H:za)(c i:Nat)(q:List UInt8)(n:Nat):Prop where
 hc:c<H.length
 hi:i<H.length
 ne:c≠i
 hn:n≤8 * q.length
 hq:q.length≤100000000
structure RkU(n:Nat)(x:Nat×Nat):Prop where
 a:x.1≤n
 e:x.2≤4
theorem RkU.nm{q:List UInt8}{n:Nat}{x:Nat×Nat}(h:RkU n x)(k:Nat):RkU n (nm true q n x k).2:=⟨zwc h.a,nm_e h.e⟩
def zyL:List UInt8:=List.replicate 64 0
def wH(H:za)(i j v n:Nat)(x:Nat×Nat):za:=H.set i (rR j v n x.1)
theorem zp3(H:za)(i j v n:Nat)(x:Nat×Nat):(wH H i j v n x).length=H.length:=by simp[wH]
structure WkU(H:za)(i j v:Nat)(q:List UInt8)(n:Nat):Prop where
 hi:i<H.length
 hB:H[j]? =some (rB q v)
 ne:i≠j
 hn:n≤8 * q.length
 hq:q.length≤100000000
structure Rf(n:Nat)(x:Nat×Nat):Prop where
 a:x.1≤n
 e:x.2=0
theorem zzx{q:List UInt8}{n k:Nat}{x:Nat×Nat}(he:x.2=0):(nm false q n x k).2.2=0:=by unfold nm;rw[if_neg (by simp[he])];split<;>rfl
theorem Rf.nm{q:List UInt8}{n:Nat}{x:Nat×Nat}(h:Rf n x)(k:Nat):Rf n (nm false q n x k).2:=⟨zwc h.a,zzx h.e⟩
theorem WkU.at{H:za}{i j v:Nat}{q:List UInt8}{n:Nat}(t:WkU H i j v q n)(x:Nat×Nat)(K:za):(wH H i j v n x++K)[i]? =some (rR j v n x.1)∧(wH H i j v n x++K)[j]? =some (rB q v):=by
 have hj:=(qE.1 t.hB).1;have hi:=t.hi;constructor
 ·rw[qF (by rw[zp3];exact hi)];simp[wH,hi]
 ·rw[qF (by rw[zp3];exact hj),wH,List.getElem?_set_ne t.ne];exact t.hB
def zSq:Sq:=⟨0,0,0,0,false,0,0,zyL,zyL⟩
theorem dl1:(List.drop 1 (sqc zSq)).length=134:=kr
end Go.Proofs.YtpjlfoficnpfoaaGreatDoor.Sc
