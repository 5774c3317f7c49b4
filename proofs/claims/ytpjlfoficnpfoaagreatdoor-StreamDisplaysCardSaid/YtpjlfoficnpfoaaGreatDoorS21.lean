/-
  Parts of the proof, put together in one text. No condition.
-/
import Derived.Test.YtpjlfoficnpfoaaGreatDoorS20
open Bool renaming true_and → qF, false_and → qG, false_or → qW, true_or → qY
open Int renaming toNat_natCast → qE
open List renaming getElem?_eq_getElem → qA, mem_of_getElem? → qB, getElem?_append_left → qC, take → qD, not_mem_nil → qH, getElem?_eq_some_iff → qI, mem_singleton → qJ, take_of_length_le → qK, replicate → qL, drop → qM, mem_cons → qN, getElem?_of_mem → qO, append_nil → qP, flatMap_cons → qQ, append_assoc → qR, getElem_mem → qS, set_append_left → qT, drop_eq_getElem_cons → qV, getElem?_modify → jA, replicate_succ → jB
open Nat renaming strongRecOn → qU, add_sub_cancel_left → qX
open Option renaming bind_eq_bind → qZ
namespace Go.Proofs.YtpjlfoficnpfoaaGreatDoor.Sc
set_option linter.all false
open Pm Ty Go.RowKit
theorem _root_.Go.Proofs.YtpjlfoficnpfoaaGreatDoor.Pm.YldOk.introN{P:Program}{H:za}{N l id e ver:Nat}{us:List Value}{fs:List PV}{r:Loop}{p:Nat}{x:PV}{G:Fr}{H':za}(hN:us.length=N)(hr1:r.tmps=us.toArray)(hr2:r.state= .ready)(hr3:r.pending=none)(hps:r.params= #[p])(hp:p<N)
  (hG:∀ t,slot G t= .undef∨(t<N∧fs[t]? =some (slot G t))) (hid:H[id]? =some ⟨e,ver,[.lp l (.loop r)]⟩)
  (h:PWr P ⟨N,H⟩ l r.assign ((p,x)::G) H (zkl P ⟨N,H⟩ (zmo H H' id e ver l r) id e ver l r)):YldOk P (.yl l us fs) [x] H (.bool true) H':=by
 subst hN;exact YldOk.intro hr1 hr2 hr3 hps hp hG hid h
theorem zsV(L:List It)(hL:∀ x∈L,SqOk x.s):∀(r:List It) (k:Nat) (a:As) (d:Dp),L.drop k=r→AsOk L a→DpG d k→k≤L.length→DpG (dpN L a d k r) L.length
 | [],k,a,d,hr,_,hd,hk=>hd.mono hk
 | x::r,k,a,d,hr,ha,hd,hk=>by
  obtain⟨hkl,hx,hr2⟩:=zlr hr;obtain⟨g1,g2⟩:=zoc L hL a k hkl ha;have e:dpN L a d k (x::r)=dpN L (a.item L k x).1 (d.stepO (a.item L k x).2) ((k+1:Nat):Int) r:=rfl;rw[e,←hx];refine zsV L hL r (k+1) _ _ hr2 g1 ?_ om;generalize a.item L k L[k]=q at *;obtain⟨a',o⟩:=q;cases o with
  | none=>exact hd.mono om
  | some f=>exact zqy hd (g2 f rfl)
theorem zwx:DpG dp0 0:=⟨⟨by simp[dp0],by simp[dp0],by simp[dp0],by simp[dp0],by simp[dp0],by simp[dp0],by simp[dp0]⟩,by simp[dp0]⟩
theorem ztp(L:List It):AsOk L (as0 sq0):=⟨⟨by decide,by decide,by decide,by decide,by decide,by decide,rfl,rfl⟩,.inl rfl,by decide⟩
set_option maxHeartbeats 8000000 in
set_option maxRecDepth 100000 in
theorem znC(L:List It)(fl:Bool)(hL:∀ x∈L,SqOk x.s)(hn:L.length≤800000)(H:za):CallOk Tryz.prog 23 [.slice (itL L) L.length fl] H (.slice ((zaa L).flatMap zo) (zaa L).length false) H:=by
 have fo:=fun K=>zpE L fl K;refine CallOk.bodyM (F0:=[(0,.slice (itL L) L.length fl)]) Tryz.func23 rfl Tryz.ntmps23 Tryz.results23 rfl kr rfl ?_;(repeat refine PWM.seq ?_);refine PWM.rg rfl rfl fun K hK=> ?_;refine sqz ?_;refine hK _ _ ?_;clear hK K;(repeat refine PWM.seq ?_);refine PWM.rg rfl rfl fun K hK=> ?_;refine sqz ?_;refine hK _ _ ?_;clear hK K;refine PWM.view (Vs.ghostH (id:=H.length) (j:=0) 71 147 (hp0 _ _ _) rfl) ?_;refine PWM.at [0,3] (?_:PWM _ _ _ _ [(0,.slice (itL L) L.length fl),(3,.ptr H.length 0 0)] (H++[dpB (H.length+1) dp0,enB []]) _) rfl (by simp[dpB,enB,dp0]);(repeat refine PWM.seq ?_);refine PWM.rg rfl rfl fun K hK=> ?_;refine sqz ?_;refine VCx.call (fo _) rfl ?_;simp(maxSteps:=3000000) (disch:=omega) only[go_sem,↓reduceIte,reduceCtorEq];refine hK _ _ ?_;clear hK K;refine PWM.at [3,7] (?_:PWM _ _ _ _ [(3,.ptr H.length 0 0),(7,.func 103 [] [.ptr (H.length+2) 0 0])] (H++[dpB (H.length+1) dp0,enB [],⟨22,0,[.slice (itL L) L.length fl]⟩]) _) rfl sp;(repeat refine PWM.seq ?_);refine PWM.block ?_;refine PWM.range rfl fun fn us b hus=> ?_;generalize hob:Obj.loop (zfD fn us _ _ _ b)=ob;have e1:H++[dpB (H.length+1) dp0,enB [],⟨22,0,[.slice (itL L) L.length fl]⟩]++[⟨0,0,[.lp b (.deferred (some []))]⟩,⟨0,0,[.lp (b+1) ob]⟩]=kH H L fl b ob dp0:=by simp[kH,kx,dp0]
 have e2:(H++[dpB (H.length+1) dp0,enB [],⟨22,0,[.slice (itL L) L.length fl]⟩]).length=H.length+3:=by simp
 rw[e2];unfold lpB;rw[hob,e1];have hfin:=fun o d=>zsm H L fl b ob o d [];simp only[qP]at hfin;have hg:=fun d=>zdH H L fl b ob d [];simp only[qP]at hg;refine⟨.tup [],kH H L fl b ob (dpN L (as0 sq0) dp0 0 L),zuZ L fl hL hn H b ob _ (.yl fun j x hx=> ?_) dp0 ⟨⟨by simp[dp0],by simp[dp0],by simp[dp0],by simp[dp0],by simp[dp0],by simp[dp0],by simp[dp0]⟩,by simp[dp0]⟩ fun d f X hd hf=> ?_,hg _ 3 om,hg _ 4 om,fun o=> ?_⟩
 ·have hx:=qB hx;obtain⟨t,_,rfl⟩:=List.mem_map.1 hx;have:Scoped (H.length+5) (slot [(3,.ptr H.length 0 0),(7,.func 103 [] [.ptr (H.length+2) 0 0])] t):=by
   simp only[slot];split
   ·exact .ptr om
   ·split
    ·exact .func (fun j x hx=>by simp at hx) (fun j x hx=>by
      have hx:=qB hx;rw[qJ]at hx;rw[hx];exact .ptr om)
    ·exact .undef
  exact this
 ·have hf1:=hf.1.toL;have f0:=zch f hf1;have f1:=zcu f;have f2:=zx4 f hf1;have f3:=zx5 f hf1;have f4:qD 145 (zC f)=zC f:=qK om;obtain⟨Y,hY⟩:∃ Y:Obj→Dp→za,∀ ob d,kH H L fl b ob d++X=Y ob d:=⟨_,fun _ _=>rfl⟩;have yl:∀ ob d,(Y ob d).length=H.length+5+X.length:=fun ob d=>by rw[←hY,List.length_append,zdc]
  have yd:∀ ob d,DpH (Y ob d) H.length (H.length+1) d:=fun ob d=>by rw[←hY];exact zwk H L fl b ob d X
  have yt:∀ ob d d',tw (Y ob d) H.length (H.length+1) (dpB (H.length+1) d') (enB d'.en)=Y ob d':=fun ob d d'=>by rw[←hY,←hY];exact zsl H L fl b ob d d' X
  have hid:∀ ob d,(Y ob d)[H.length+4]? =some ⟨0,0,[.lp (b+1) ob]⟩:=fun ob d=>by rw[←hY];exact kH_l H L fl b ob d X
  have hset:∀ ob ob' d,(Y ob d).set (H.length+4) ⟨0,0,[.lp (b+1) ob']⟩=Y ob' d:=fun ob ob' d=>by rw[←hY,←hY];exact zsm H L fl b ob ob' d X
  have ysc:∀ ob d d',HSc (Y ob d)→HSc (Y ob d'):=fun ob d d' h=>by rw[←hY]at h ⊢;exact zsn h
  have ys0:∀ ob d d' K,d'.en=d.en→(Y ob d++K).set H.length (dpB (H.length+1) d')=Y ob d'++K:=fun ob d d' K he=>by have h1:=yt ob d d';unfold tw at h1;rw[he,zer (by rw[List.getElem?_set_ne om];exact(yd ob d).gj)]at h1;rw[qT _ _ (by rw[yl];omega),h1]
  rw[hY,hY];clear hY;subst hob;refine YldOk.introN (G:=[(3,.ptr H.length 0 0)]) hus rfl rfl rfl rfl (by show 8<26;omega) (fun t=> ?_) (hid _ _) ?_
  ·by_cases ht:t=3
   ·subst ht;exact .inr ⟨by show 3<26;omega,rfl⟩
   ·refine .inl ?_;simp only[slot];split
    ·rename_i h;exact absurd (Nat.eq_of_beq_eq_true h).symm ht
    ·rfl
  refine PWr.rg rfl rfl (fun _ _ h=>h) fun K hK=> ?_;refine sqx (nq2 f0 f1) ?_;refine hK _ _ ?_;clear hK K;refine⟨by rw[qC (by rw[yl];omega)];exact hid _ _,?_⟩;rw[qT _ _ (by rw[yl];omega),hset];generalize hbs:Obj.loop { zfD fn us _ _ _ b with state:=.busy }=bs at *;generalize hrd:Obj.loop (zfD fn us _ _ _ b)=rd at *;refine PWr.block ?_;have yF:∀ d',(Y bs d'++[⟨118,0,zC f⟩])[H.length+5+X.length]? =some ⟨118,0,zC f⟩:=fun d'=>by rw[←yl bs d'];simp
  have yD:∀ d' K,DpH (Y bs d'++K) H.length (H.length+1) d':=fun d' K=>⟨by rw[qC (by rw[yl];omega)];exact(yd bs d').gi,by rw[qC (by rw[yl];omega)];exact(yd bs d').gj,om⟩;have yT:∀ d' d'' K,tw (Y bs d'++K) H.length (H.length+1) (dpB (H.length+1) d'') (enB d''.en)=Y bs d''++K:=fun d' d'' K=>by rw[zi6 _ _ _ _ _ _ (by rw[yl];omega) (by rw[yl];omega),yt]
  have yG:∀ d' K,(Y bs d'++K)[H.length]? =some ⟨113,0,[.msl (H.length+1) (d'.en.length * 147) 0 d'.en.length 147 true,.int .i64 d'.old,.int .i64 d'.new,.bool d'.wt,.int .i64 d'.lk,.int .i64 d'.sh]⟩:=fun d' K=>(yD d' K).gi;have ySs:∀ d' K B,((Y bs d'++K).set H.length B)[H.length]? =some B:=fun d' K B=>by rw[List.getElem?_set_self (by rw[List.length_append,yl];omega)]
  refine PWr.at [3,4] (?_:PWr _ _ _ _ [(3,.ptr H.length 0 0),(4,.ptr (H.length+5+X.length) 0 0)] _ _) (by rw[←yl rd d];rfl) rfl;refine PWr.seq_to [3,4] [(3,.ptr H.length 0 0),(4,.ptr (H.length+5+X.length) 0 0)] (Y bs (d.res f.rs)++[⟨118,0,zC f⟩]) ?_ ?_
  ·(repeat refine PWr.seq ?_);refine PWr.rg rfl rfl (fun _ _ h=>h) fun K hK=> ?_;refine sqx (nq2 yF (nq2 f0 f2)) ?_;refine hK _ _ ?_;clear hK K;refine PWr.cond (t:=f.rs) rfl (fun h=> ?_) (fun h=> ?_)
   ·have fo:=zhL d H.length (H.length+1) _ (yD d [⟨118,0,zC f⟩]) (hd.mono om);rw[yT]at fo;(repeat refine PWr.seq ?_);refine PWr.rg rfl rfl (fun _ _ h=>h) fun K hK=> ?_;refine sqz ?_;refine VCx.call (fo) rfl ?_;simp(maxSteps:=3000000) (disch:=omega) only[go_sem,↓reduceIte,reduceCtorEq];refine hK _ _ ?_;clear hK K;(repeat refine PWr.seq ?_);refine PWr.rg rfl rfl (fun _ _ h=>h) fun K hK=> ?_;simp(maxSteps:=3000000) (disch:=omega) only[go_sem,↓reduceIte,reduceCtorEq,yG,ySs,List.set_set];refine hK _ _ ?_;clear hK K;refine⟨rfl,?_⟩;rw[h];exact ys0 bs d.flush { d.flush with old:= -1,new:= -1,lk:=0 } _ rfl
   ·refine PWr.skip ⟨rfl,?_⟩;rw[h];rfl
  have g1:=zv7 hd f.rs;have hstep:d.step f=((d.res f.rs).lnk f.lk).frame f:=rfl;have hsc:=ysc rd d (d.step f);rw[hstep]at hsc ⊢;generalize d.res f.rs=d1 at *;refine PWr.seq_to [3,4] [(3,.ptr H.length 0 0),(4,.ptr (H.length+5+X.length) 0 0)] (Y bs (d1.lnk f.lk)++[⟨118,0,zC f⟩]) ?_ ?_
  ·(repeat refine PWr.seq ?_);refine PWr.rg rfl rfl (fun _ _ h=>h) fun K hK=> ?_;refine sqx (nq2 yF (nq2 f0 f3)) ?_;refine hK _ _ ?_;clear hK K;refine PWr.cond (t:=f.lk != -1) rfl (fun h=> ?_) (fun h=> ?_)
   ·(repeat refine PWr.seq ?_);refine PWr.rg rfl rfl (fun _ _ h=>h) fun K hK=> ?_;refine sqx (nq2 yF (nq2 yG (nq2 f0 f3))) ?_;refine hK _ _ ?_;clear hK K;refine⟨rfl,?_⟩;have hne:f.lk≠-1:=by simpa using h
    rw[show d1.lnk f.lk={ d1 with lk:=f.lk } by unfold Dp.lnk;rw[if_pos hne]];exact ys0 bs d1 { d1 with lk:=f.lk } _ rfl
   ·refine PWr.skip ⟨rfl,?_⟩;have hne:¬ f.lk≠-1:=by simpa using h
    rw[show d1.lnk f.lk=d1 by unfold Dp.lnk;rw[if_neg hne]]
  have g2:=zwj g1 f.lk hf.2;generalize d1.lnk f.lk=d2 at *;have fo:=zvn d2 f H.length (H.length+1) _ (yD d2 [⟨118,0,zC f⟩]) (g2.mono om) hf1;rw[yT]at fo;(repeat refine PWr.seq ?_);refine PWr.rg rfl rfl (fun _ _ h=>h) fun K hK=> ?_;refine sqx (nq2 yF (nq2 f0 f4)) ?_;refine VCx.call (fo) rfl ?_;simp(maxSteps:=3000000) (disch:=omega) only[go_sem,↓reduceIte,reduceCtorEq];refine hK _ _ ?_;clear hK K;refine⟨by rw[qC (by rw[yl];omega),hbs];exact hid _ _,?_⟩;rw[hrd,qT _ _ (by rw[yl];omega),hset];exact Fin.cut rfl (by rw[yl,yl]) hsc (.id (.bool _))
 ·rw[hfin];have hstru:zaa L=(dpN L (as0 sq0) dp0 0 L).flush.en:=rfl;have hG:=zsV L hL L 0 (as0 sq0) dp0 rfl (ztp L) zwx (Nat.zero_le _);have hfl:=(zfc hG).1;have hd0:=zwk H L fl b o (dpN L (as0 sq0) dp0 0 L) [];have ht:=zsl H L fl b o (dpN L (as0 sq0) dp0 0 L) (dpN L (as0 sq0) dp0 0 L).flush [];simp only[qP]at hd0 ht;have fo:=zhL _ H.length (H.length+1) _ hd0 (hG.mono om);rw[ht]at fo;have hgd:=fun d=>zdH H L fl b o d [] 0 om;have hge:=fun d=>zdH H L fl b o d [] 1 om;have hgq:=fun d=>zdH H L fl b o d [] 3 om;simp only[qP,Nat.add_zero,List.getElem?_cons_zero,List.getElem?_cons_succ,kx]at hgd hge hgq;unfold dpB at hgd;refine PWM.at [3] (?_:PWM _ _ _ _ [(3,.ptr H.length 0 0)] _ _) rfl rfl;(repeat refine PWM.seq ?_);refine PWM.rg rfl rfl fun K hK=> ?_;refine sqz ?_;refine VCx.call (fo) rfl ?_;simp(maxSteps:=3000000) (disch:=omega) only[go_sem,↓reduceIte,reduceCtorEq];refine hK _ _ ?_;clear hK K;rw[hstru];generalize (dpN L (as0 sq0) dp0 0 L).flush=d at *;(repeat refine PWM.seq ?_);refine PWM.rg rfl rfl fun K hK=> ?_;refine sqx hgd ?_;refine hK _ _ ?_;clear hK K;refine PWM.ret ⟨b,H.length+3,.msl (H.length+1) (d.en.length * 147) 0 d.en.length 147 true,rfl,hgq d,rfl,?_⟩;have hcut:(kH H L fl b o d).set (H.length+3) ⟨0,0,[.lp b (.deferred none)]⟩=H++(dpB (H.length+1) d::enB d.en::[⟨22,0,[.slice (itL L) L.length fl]⟩,⟨0,0,[.lp b (.deferred none)]⟩,⟨0,0,[.lp (b+1) o]⟩]):=by unfold kH;rw[zjh];rfl
  rw[hcut];refine Fin.base (Fz.mslC (e:=71) (xs:=d.en.flatMap zo) om ?_ ?_ (FzC.refl (zaL _ _)))
  ·rw[List.getElem?_append_right om,qX];rfl
  ·rw[zdO hfl.ok.sq]
def enR(e:En):List PV:=[.int .i64 e.f,.int .i64 e.l,.int .i64 e.ty,.int .i64 e.pa,.int .i64 e.fu,.int .i64 e.sh]
def wtl(j:Nat)(w:Wk):List PV:=[.int .i64 w.old,.int .i64 w.new,.bool w.wt,.int .i64 w.op,.int .i64 w.no,.int .i64 w.sh,.msl j (w.out.length * 6) 0 w.out.length 6 true,.bool w.sk]
def wkc(j:Nat)(L:List It)(fl:Bool)(w:Wk):List PV:=.slice (itL L) L.length fl:: .bool w.hd::(sqc w.sq++wtl j w)
def wkB(j:Nat)(L:List It)(fl:Bool)(w:Wk):Blk:=⟨77,0,wkc j L fl w⟩
def woB(o:List En):Blk:=⟨80,o.length * 6,o.flatMap enR⟩
section
variable {j:Nat} {L:List It} {fl:Bool}
structure WkG(j:Nat)(L:List It)(fl:Bool)(w:Wk):Prop where
 ln:(wkc j L fl w).length=145
 lL:(wkc j L fl w)[0]? =some (.slice (itL L) L.length fl)
 hd:(wkc j L fl w)[1]? =some (.bool w.hd)
 sq:qD 135 (qM 2 (wkc j L fl w))=sqc w.sq
 old:(wkc j L fl w)[137]? =some (.int .i64 w.old)
 new:(wkc j L fl w)[138]? =some (.int .i64 w.new)
 wt:(wkc j L fl w)[139]? =some (.bool w.wt)
 op:(wkc j L fl w)[140]? =some (.int .i64 w.op)
 no:(wkc j L fl w)[141]? =some (.int .i64 w.no)
 sh:(wkc j L fl w)[142]? =some (.int .i64 w.sh)
 out:(wkc j L fl w)[143]? =some (.msl j (w.out.length * 6) 0 w.out.length 6 true)
 sk:(wkc j L fl w)[144]? =some (.bool w.sk)
structure WkS(j:Nat)(L:List It)(fl:Bool)(w:Wk):Prop where
 hd:∀ v,(wkc j L fl w).set 1 (.bool v)=wkc j L fl { w with hd:=v }
 old:∀ v,(wkc j L fl w).set 137 (.int .i64 v)=wkc j L fl { w with old:=v }
 new:∀ v,(wkc j L fl w).set 138 (.int .i64 v)=wkc j L fl { w with new:=v }
 wt:∀ v,(wkc j L fl w).set 139 (.bool v)=wkc j L fl { w with wt:=v }
 op:∀ v,(wkc j L fl w).set 140 (.int .i64 v)=wkc j L fl { w with op:=v }
 no:∀ v,(wkc j L fl w).set 141 (.int .i64 v)=wkc j L fl { w with no:=v }
 sh:∀ v,(wkc j L fl w).set 142 (.int .i64 v)=wkc j L fl { w with sh:=v }
 sk:∀ v,(wkc j L fl w).set 144 (.bool v)=wkc j L fl { w with sk:=v }
end
structure WkH(H:za)(i j:Nat)(L:List It)(fl:Bool)(w:Wk):Prop where
 gi:H[i]? =some (wkB j L fl w)
 gj:H[j]? =some (woB w.out)
 ne:i≠j
structure WkOk(w:Wk)(m:Nat):Prop where
 sq:SqOk w.sq
 n:w.out.length≤m
 sh:0≤w.sh∧w.sh+(if w.wt then 1 else 0)≤w.out.length
 no:0≤w.no∧w.no≤2
 new: -1≤w.new∧w.new<w.out.length
 wt:w.wt=true→0≤w.new
def wR(H:za)(i j:Nat)(L:List It)(fl:Bool)(w:Wk):za:=tw H i j (wkB j L fl w) (woB w.out)
structure WrT(H:za)(i j:Nat)(L:List It)(fl:Bool):Prop where
 gi:∀ w,(wR H i j L fl w)[i]? =some ⟨77,0,wkc j L fl w⟩
 gj:∀ w,(wR H i j L fl w)[j]? =some ⟨80,w.out.length * 6,w.out.flatMap enR⟩
 hd:∀ w v,(wR H i j L fl w).set i ⟨77,0,wkc j L fl { w with hd:=v }⟩=wR H i j L fl { w with hd:=v }
 old:∀ w v,(wR H i j L fl w).set i ⟨77,0,wkc j L fl { w with old:=v }⟩=wR H i j L fl { w with old:=v }
 new:∀ w v,(wR H i j L fl w).set i ⟨77,0,wkc j L fl { w with new:=v }⟩=wR H i j L fl { w with new:=v }
 wt:∀ w v,(wR H i j L fl w).set i ⟨77,0,wkc j L fl { w with wt:=v }⟩=wR H i j L fl { w with wt:=v }
 op:∀ w v,(wR H i j L fl w).set i ⟨77,0,wkc j L fl { w with op:=v }⟩=wR H i j L fl { w with op:=v }
 no:∀ w v,(wR H i j L fl w).set i ⟨77,0,wkc j L fl { w with no:=v }⟩=wR H i j L fl { w with no:=v }
 sh:∀ w v,(wR H i j L fl w).set i ⟨77,0,wkc j L fl { w with sh:=v }⟩=wR H i j L fl { w with sh:=v }
 sk:∀ w v,(wR H i j L fl w).set i ⟨77,0,wkc j L fl { w with sk:=v }⟩=wR H i j L fl { w with sk:=v }
end Go.Proofs.YtpjlfoficnpfoaaGreatDoor.Sc
namespace Go.Proofs.YtpjlfoficnpfoaaGreatDoor.Sc
set_option linter.all false
open Pm Ty Go.RowKit
theorem WkOk.mono{w:Wk}{m n:Nat}(h:WkOk w m)(hm:m≤n):WkOk w n:=⟨h.sq,by have:=h.n;omega,h.sh,h.no,h.new,h.wt⟩
theorem ziX(H:za):CallOk Tryz.prog 9 [] H (.bool true) H:=CallOk.evalT 1000000 kr
def shc(x:Sho):List PV:=fmc x.fr++[.int .i64 x.f,.int .i64 x.l,.int .i64 x.ty,.bool x.ok,.int .i64 x.fi,.bool x.tf]
theorem zjf(x:Sho):(shc x).length=11:=rfl
theorem zkR(x:Sho):(shc x).all PV.cell=true:=rfl
theorem zqQ(n:Nat)(x:Sho):∀ y∈shc x,Scoped n y:=fun y hy=>by
 rcases List.mem_append.1 hy with hy|hy
 ·exact zbo _ _ _ _ _ _ _ _ _ _ _ _ y hy
 ·simp only[qN,qH,or_false]at hy;rcases hy with rfl|rfl|rfl|rfl|rfl|rfl<;>first|exact .int _ _|exact .bool _
def shL(l:List Sho):List PV:=l.flatMap shc
theorem zeQ(l:List Sho):(shL l).length=l.length * 11:=zaT shc 11 l fun _ _=>rfl
theorem zqR(l:List Sho)(k:Nat)(hk:k<l.length):qD 11 (qM (k * 11) (shL l))=shc l[k]:=zbR shc 11 l k hk fun _ _=>rfl
theorem zjg(n:Nat)(l:List Sho):∀ x∈shL l,Scoped n x:=fun x hx=>by obtain⟨u,_,hx⟩:=List.mem_flatMap.1 hx;exact zqQ _ _ x hx
theorem zlI{α:Type}(enc:α→List PV)(N:Nat)(v:α):∀(l:List α) (k:Nat),k<l.length→(∀ x∈l,(enc x).length=N)→(enc v).length=N→zM (l.flatMap enc) (k * N) (enc v)=(l.set k v).flatMap enc
 | [],k,hk,_,_=>by simp at hk
 | a::r,0,_,h,hv=>by
  unfold zM;rw[Nat.zero_mul,List.take_zero,List.nil_append,Nat.zero_add,hv,qQ,List.set_cons_zero,qQ,List.drop_left' (h a (List.mem_cons_self ..))]
 | a::r,k+1,hk,h,hv=>by
  have ih:=zlI enc N v r k (by simpa using hk) (fun x hx=>h x (List.mem_cons_of_mem _ hx)) hv;have ha:=h a (List.mem_cons_self ..);unfold zM at ih ⊢;have e:(k+1) * N=(enc a).length+k * N:=by rw[ha,Nat.add_mul,Nat.one_mul,Nat.add_comm]
  rw[qQ,e,List.take_append,qX,qK om,Nat.add_assoc,←List.drop_drop,List.drop_left,qR,qR,←qR (qD _ _),ih,List.set_cons_succ,qQ]
theorem zt4(l:List Sho)(k:Nat)(x:Sho)(hk:k<l.length):zM (shL l) (k * 11) (shc x)=shL (l.set k x):=zlI shc 11 x l k hk (fun _ _=>rfl) rfl
def zsh:List PV:=[.int .i64 0,.int .i64 0,.slice [] 0 true,.slice [] 0 true,.slice [] 0 true,.int .i64 0,.int .i64 0,.int .i64 0,.bool false,.int .i64 0,.bool false]
theorem zpQ(n:Nat)(H:za):FzC n H zsh (shc zkQ):=⟨.id (.int _ _),.id (.int _ _),Fz.sliceC (xs:=[]) (ys:=[]) trivial (fun h=>by cases h),Fz.sliceC (xs:=[]) (ys:=[]) trivial (fun h=>by cases h),Fz.sliceC (xs:=[]) (ys:=[]) trivial (fun h=>by cases h),.id (.int _ _),.id (.int _ _),.id (.int _ _),.id (.bool _),.id (.int _ _),.id (.bool _),trivial⟩
theorem zni(n:Nat)(H:za):∀ k:Nat,FzC n H ((qL k zsh).flatten) (shL (qL k zkQ))
 | 0=>trivial
 | k+1=>by rw[jB,jB,List.flatten_cons];exact FzC.append (zpQ n H) (zni n H k)
theorem zug(S:List Ent)(out:List Sho)(n:Int)(i j o:Nat)(K:za)(hi:K[i]? =some ⟨49,0,[.msl o 0 0 out.length 11 true]⟩)(hj:K[j]? =some ⟨65,0,[.slice (S.flatMap zo) S.length false]⟩)(ho:K[o]? =some ⟨53,0,shL out⟩)
  (hsq:∀ e∈S,SqL e.2.1) (hn:n<S.length) (hs:∀(j:Nat) (e:Ent),S[j]? =some e→0≤e.1.sh∧e.1.sh<out.length):CallOk Tryz.prog 41 [.int .i64 n,.ptr i 0 0,.ptr j 0 0] K (.agg (shc (zuh S out n))) K:=by
 have hi':∀ X,(K++X)[i]? =some ⟨49,0,[.msl o 0 0 out.length 11 true]⟩:=fun X=>by rw[qC (qI.1 hi).1];exact hi
 have hj':∀ X,(K++X)[j]? =some ⟨65,0,[.slice (S.flatMap zo) S.length false]⟩:=fun X=>by rw[qC (qI.1 hj).1];exact hj
 have ho':∀ X,(K++X)[o]? =some ⟨53,0,shL out⟩:=fun X=>by rw[qC (qI.1 ho).1];exact ho
 unfold zuh;refine CallOk.go Tryz.func41 Tryz.ntmps41 Tryz.results41 ?_;refine PW.e ?_;refine PW.e ?_;by_cases h0:n<0
 ·rw[if_pos h0];refine PW.c (fun h=> ?_) (fun h=> ?_);rotate_left
  ·exact absurd h0 (of_decide_eq_false h)
  refine PW.e ?_;refine PW.ret ⟨.agg zsh,by simp(maxSteps:=3000000) (disch:=omega) only[go_sem,↓reduceIte,reduceCtorEq,zx,zK,List.mapM_cons,List.mapM_nil,Option.pure_def,qZ,Option.bind_some,Array.toList,zsh],?_⟩;exact Fin.base (Fz.aggC (zpQ _ _))
 ·rw[if_neg h0];obtain⟨m,rfl⟩:∃ m:Nat,n=(m:Int):=⟨n.toNat,om⟩;have hm:m<S.length:=om;have e1:=qA hm;rw[qE,e1];dsimp only;have hsh:=hs m _ e1;have g5:(S.flatMap zo)[m * 147+5]? =some (.int .i64 S[m].1.sh):=zcv zo 147 S m 5 hm (fun e he=>zac e (hsq e he)) om;have ln:=zdO hsq;generalize S[m]=e at *;obtain⟨q,hq⟩:∃ q:Nat,e.1.sh=(q:Int):=⟨e.1.sh.toNat,om⟩;rw[hq]at g5 hsh ⊢;have hql:q<out.length:=om;have e2:=qA hql;rw[qE,e2,Option.getD_some];have g6:=zqR out q hql;have l2:=zeQ out;generalize out[q]=x at *;refine PW.c (fun h=> ?_) (fun h=> ?_)
  ·exact absurd (of_decide_eq_true h) h0
  refine PW.skip ?_;(repeat refine PW.seq ?_);refine PW.drawt [] [] mix kr fun K hK=> ?_;simp(maxSteps:=3000000) (disch:=omega) only[go_sem,↓reduceIte,reduceCtorEq,hi',hj',ho',g5,g6,ln,l2];refine hK _ _ ?_;clear hK K;refine PW.ret ⟨.agg (shc x),by simp(maxSteps:=3000000) (disch:=omega) only[go_sem,↓reduceIte,reduceCtorEq,zx,zK,List.mapM_cons,List.mapM_nil,Option.pure_def,qZ,Option.bind_some,Array.toList,zjf,show qD 11 (shc x)=shc x from rfl],?_⟩;exact Fin.base (.id (zw (zqQ _ x)))
theorem zs1{L:List It}(hL:∀ x∈L,SqOk x.s):∀ n,n≤L.length→SqOk (cur L n)
 | 0,_=>by
  show SqOk sq0;exact⟨by decide,by decide,by decide,by decide,by decide,by decide,rfl,rfl⟩
 | n+1,h=>by
  rw[zhV (show n<L.length from om)];split
  ·exact hL _ (qS _)
  ·exact zs1 hL n om
theorem znB{L:List It}(hL:∀ x∈L,SqOk x.s){j:Nat}{e:Ent}(he:(zaa L)[j]? =some e):SqOk e.2.1:=by obtain⟨n,m,hn,hm,_,_,_,_,_,_,h,_⟩:=((zaN L).e j e he).1;rw[h];exact zs1 hL n om
theorem zjb{L:List It}(hL:∀ x∈L,SqOk x.s):(zaa L).length≤L.length:=(zfc (zsV L hL L 0 (as0 sq0) dp0 rfl (ztp L) zwx (Nat.zero_le _))).1.ok.n
def dH(H:za)(S:List Ent)(out:List Sho):za:=H++[⟨65,0,[.slice (S.flatMap zo) S.length false]⟩,⟨53,0,shL out⟩,⟨49,0,[.msl (H.length+1) 0 0 S.length 11 true]⟩]
theorem zss(H:za)(S:List Ent)(out:List Sho)(h:HSc H):HSc (dH H S out):=zey (fun b hb x hx=>by
 simp only[qN,qH,or_false]at hb;rcases hb with rfl|rfl|rfl
 ·rw[qJ]at hx;rw[hx];exact zj fun x hx=>zaL _ _ x hx
 ·exact zjg _ _ x hx
 ·rw[qJ]at hx;rw[hx];exact .msl sp) h
theorem zpn{L:List It}{j:Nat}{e:Ent}(h:EOk L j e):∃(n m:Nat),e.1.f=(n:Int)∧e.1.l=(m:Int)∧n≤m∧m≤n+1∧m<L.length∧(zbV L e).length=m+1 - n∧∀ i,i<m+1 - n→∃ x,L[n+i]? =some x∧(zbV L e)[i]? =some (zcM x):=by
 obtain⟨⟨n,m,hn,hm,e1,e2,e3,_⟩,_⟩:=h;have hml:m=n∨m=n+1:=by
  rcases e3 with h|h
  ·exact .inl h.1
  ·exact .inr h.1
 refine⟨n,m,e1,e2,om,om,hm,?_,fun i hi=> ?_⟩
 ·unfold zbV;rw[e1,e2,qE,qE,List.length_map,List.length_take,List.length_drop];omega
 ·refine⟨L[n+i]'om,qA _,?_⟩;unfold zbV;rw[e1,e2,qE,qE,List.getElem?_map,List.getElem?_take,if_pos hi,List.getElem?_drop,qA (show n+i<L.length from om)];rfl
theorem zsS(e:Ent)(h:SqL e.2.1):qD 135 (qM 6 (zo e))=sqc e.2.1:=by show qD 135 (sqc e.2.1++pic e.2.2)=_;exact List.take_left' (zag _ h)
theorem zm4(e:Ent)(h:SqL e.2.1)(n:Nat):(zo e)[141+n]? =(pic e.2.2)[n]? :=by
 have e1:qM 141 (zo e)=pic e.2.2:=by show qM 135 (sqc e.2.1++pic e.2.2)=_;exact List.drop_left' (zag _ h)
 rw[←List.getElem?_drop,e1]
set_option maxHeartbeats 16000000 in
set_option maxRecDepth 100000 in
theorem zgb(L:List It)(fl:Bool)(hL:∀ x∈L,SqOk x.s)(hc:∀ x∈L,CdOk (zcM x))(hn:L.length≤800000)(H:za):CallOk Tryz.prog 15 [.slice (itL L) L.length fl] H (.slice (shL (zam L)) (zam L).length false) H:=by
 have so:=fun K=>znC L fl hL hn K;have hI:=zaN L;have hsq:=fun(j:Nat) (e:Ent) (he:(zaa L)[j]? =some e)=>znB hL he;have hlen:=zjb hL;have hdl:=zc1 L;have hli:=zbl L hL;unfold zam at hdl ⊢;generalize zaa L=S at *;have hsl:∀ e∈S,SqL e.2.1:=fun e he=>by obtain⟨j,hj⟩:=qO he;exact(hsq j e hj).toL
 have ln:=zdO hsl;have hz:(qL S.length zsh).flatten=(qL S.length zsh).flatten:=rfl;refine CallOk.go Tryz.func15 Tryz.ntmps15 Tryz.results15 ?_;refine PW.e ?_;refine PW.k so ?_;refine PW.e ?_;refine PW.e ?_;refine PW.e ?_;refine PW.at [0,4,5,22,23,24] (?_:PW _ _ _ [(0,.slice (itL L) L.length fl),(4,.ptr (H.length+2) 0 0),(5,.func 41 [] [.ptr (H.length+2) 0 0,.ptr H.length 0 0]),(22,.slice (S.flatMap zo) S.length false),(23,.int .i64 (S.length:Int)),(24,.int .i64 0)] (H++[⟨65,0,[.slice (S.flatMap zo) S.length false]⟩,⟨53,0,(qL S.length zsh).flatten⟩,⟨49,0,[.msl (H.length+1) 0 0 S.length 11 true]⟩]) _) rfl rfl;refine PW.view (Vs.cut (F1:=[(0,.slice (itL L) L.length fl),(4,.ptr (H.length+2) 0 0),(5,.func 41 [] [.ptr (H.length+2) 0 0,.ptr H.length 0 0]),(22,.slice (S.flatMap zo) S.length false),(23,.int .i64 (S.length:Int)),(24,.int .i64 0)]) (H1:=dH H S (zdF L S 0)) (by simp[dH]) (fun hs=> ?_) ?_) ?_
 ·have:=CutH.of (A:=H) (L:=[⟨65,0,[.slice (S.flatMap zo) S.length false]⟩,⟨53,0,(qL S.length zsh).flatten⟩,⟨49,0,[.msl (H.length+1) 0 0 S.length 11 true]⟩]) (K:=[]) (L1:=[⟨65,0,[.slice (S.flatMap zo) S.length false]⟩,⟨53,0,shL (zdF L S 0)⟩,⟨49,0,[.msl (H.length+1) 0 0 S.length 11 true]⟩]) hs ⟨rfl,rfl,⟨.id (zj fun x hx=>zaL _ _ x hx),trivial⟩,rfl,rfl,zni _ _ _,rfl,rfl,⟨.id (.msl sp),trivial⟩,trivial⟩;rw[qP]at this;exact this
 ·have hl:(dH H S (zdF L S 0)).length=H.length+3:=by simp[dH]
  rw[hl];exact⟨.id (zj (zcL _ _)),.id (.ptr om),.id (.func (fun j x hx=>by simp at hx) (fun j x hx=>by
   have hx:=qB hx;simp only[qN,qH,or_false]at hx;rcases hx with rfl|rfl
   ·exact .ptr om
   ·exact .ptr om)),.id (zj fun x hx=>zaL _ _ x hx),.id (.int _ _),.id (.int _ _),trivial⟩
 refine PW.l ?_;suffices hl1:∀ k:Nat,k≤S.length→PL Tryz.prog _ _ [(0,.slice (itL L) L.length fl),(4,.ptr (H.length+2) 0 0),(5,.func 41 [] [.ptr (H.length+2) 0 0,.ptr H.length 0 0]),(22,.slice (S.flatMap zo) S.length false),(23,.int .i64 (S.length:Int)),(24,.int .i64 (k:Int))] (dH H S (zdF L S k)) _ by exact PL.at [0,4,5,22,23,24] (hl1 0 om) rfl rfl
 clear so;refine cnt S.length (fun k hk ih=> ?_) ?_;rotate_left
 ·refine PL.round ?_;refine PW.f (fun K k=>by simp(maxSteps:=3000000) (disch:=omega) only[go_sem,↓reduceIte,reduceCtorEq,ze3 S.length];exact k) ?_;refine PW.u ?_;refine PW.exit ?_;refine PW.f (fun K k=>by simp(maxSteps:=3000000) (disch:=omega) only[go_sem,↓reduceIte,reduceCtorEq,dH];exact k) ?_;refine PW.v (.msl (H.length+1) 0 0 S.length 11 true) ?_;have hon:=zcS L S S.length;rw[hdl];exact Fin.base (Fz.mslC (e:=53) (xs:=shL (zdF L S S.length)) om (apn _ _ 1) (by rw[zeQ,hon]) (FzC.refl (zjg _ _)))
 have ct:=zcA hk;have he:=qA hk;have hE:=hI.e k _ he;have hsE:=hsq k _ he;have hshE:=hI.s k _ he;have r1:=znK hI (show k≤S.length from om) (n:=S[k].1.pa) ⟨hE.2.2.1.1,hE.2.2.1.2⟩;have r2:=znK hI (show k≤S.length from om) (n:=S[k].1.fu) ⟨hE.2.2.2.1.1,hE.2.2.2.1.2⟩;have hol:=zcS L S k;have ro:=fun(n:Int) (hn:n<S.length) K (h1) (h2) (h3)=>zug S (zdF L S k) n (H.length+2) H.length (H.length+1) K h1 h2 h3 hsl hn fun j e he=>by rw[hol];exact hI.s j e he
 have rA:=fun K h1 h2 h3=>ro S[k].1.pa (by have:=hE.2.2.1.2;omega) K h1 h2 h3;have rB:=fun K h1 h2 h3=>ro S[k].1.fu (by have:=hE.2.2.2.1.2;omega) K h1 h2 h3;rw[r1]at rA;rw[r2]at rB;clear ro r1 r2;have ia:qD 147 (qM (k * 147) (S.flatMap zo))=zo S[k]:=zbR zo 147 S k hk fun e he=>zac e (hsl e he);rw[zdF,he]at ih;dsimp only at ih;rw[zzg]at ih;obtain⟨n,m,e1,e2,hnm,hm1,hmL,hPl,hPa⟩:=zpn hE;have hfr:=fun K=>zsD S[k].2.1 (zbV L S[k]) (zb4 (dvN L S k) S[k].1.pa).fr (zb4 (dvN L S k) S[k].1.fu).fr false hsE (fun c hcm=>by
  obtain⟨i,hi⟩:=qO hcm;obtain⟨x,hx,hx2⟩:=hPa i (by have:=(qI.1 hi).1;omega);rw[hx2]at hi;injection hi with hi;rw[←hi];exact hc x (qB hx)) om K
 have hsl':=hsE.toL;generalize zb4 (dvN L S k) S[k].1.pa=ra at *;generalize zb4 (dvN L S k) S[k].1.fu=rb at *;generalize zbV L S[k]=P at *;generalize S[k]=e at *;generalize zdF L S k=out at *;obtain⟨q,hq⟩:∃ q:Nat,e.1.sh=(q:Int):=⟨e.1.sh.toNat,om⟩;have x1:=zac e hsl';have x2:(zo e)[0]? =some (.int .i64 (n:Int)):=by rw[←e1];rfl
 have x3:(zo e)[1]? =some (.int .i64 (m:Int)):=by rw[←e2];rfl
 have x4:(zo e)[2]? =some (.int .i64 e.1.ty):=rfl;have x5:(zo e)[3]? =some (.int .i64 e.1.pa):=rfl;have x6:(zo e)[4]? =some (.int .i64 e.1.fu):=rfl;have x7:(zo e)[5]? =some (.int .i64 (q:Int)):=by rw[←hq];rfl
 have x8:=zsS e hsl';have x9:(zo e)[144]? =some (.bool e.2.2.tf):=zm4 e hsl' 3;have x10:(zo e)[145]? =some (.bool e.2.2.rp):=zm4 e hsl' 4;have x11:(zo e).all PV.cell=true:=by simp[zo,zbf,PV.cell,pic]
 have x12:qD 147 (zo e)=zo e:=qK om;refine PL.round ?_;refine PW.g ct ?_;refine PW.t ?_;refine PW.skip ?_;refine PW.b ?_;refine PW.g (nq2 ln (nq2 ia (nq2 x1 (nq2 x11 x12)))) ?_;refine PW.e ?_;refine PW.g (nq2 x1 x2) ?_;refine PW.view (Vs.ghost 8 39 8 rfl) ?_;have hdl3:(dH H S out).length=H.length+3:=by simp[dH]
 refine PW.at [0,4,5,7,8,9,22,23,24] (?_:PW _ _ _ [(0,.slice (itL L) L.length fl),(4,.ptr (H.length+2) 0 0),(5,.func 41 [] [.ptr (H.length+2) 0 0,.ptr H.length 0 0]),(7,.ptr (H.length+3) 0 0),(8,.msl (H.length+4) 0 0 0 8 true),(9,.int .i64 (n:Int)),(22,.slice (S.flatMap zo) S.length false),(23,.int .i64 (S.length:Int)),(24,.int .i64 (k:Int))] (dH H S out++[⟨71,0,zo e⟩,⟨39,0,[]⟩]) _) (by simp[kp,slot,Nat.beq,dH]) sp;refine PW.l ?_;suffices hl2:∀ j:Nat,j≤P.length→PL Tryz.prog _ _ [(0,.slice (itL L) L.length fl),(4,.ptr (H.length+2) 0 0),(5,.func 41 [] [.ptr (H.length+2) 0 0,.ptr H.length 0 0]),(7,.ptr (H.length+3) 0 0),(8,.msl (H.length+4) (cdL (P.take j)).length 0 j 8 true),(9,.int .i64 ((n+j:Nat):Int)),(22,.slice (S.flatMap zo) S.length false),(23,.int .i64 (S.length:Int)),(24,.int .i64 (k:Int))] (dH H S out++[⟨71,0,zo e⟩,⟨39,(cdL (P.take j)).length,cdL (P.take j)⟩]) _ by exact PL.at [0,4,5,7,8,9,22,23,24] (hl2 0 om) rfl rfl
 intro j hj;induction hd:P.length - j using qU generalizing j with
 | _ d ih2=>
  have hlk:(cdL (P.take j)).length=j * 8:=by rw[zoG,List.length_take,Nat.min_eq_left hj]
  by_cases hjl:j<P.length
  ·have d1:decide (((n+j:Nat):Int)≤(m:Int))=true:=decide_eq_true om;have hnext:=ih2 (P.length - (j+1)) om (j+1) om rfl;obtain⟨x,hx,hPx⟩:=hPa j om;have hnj:n+j<L.length:=om;have hxe:L[n+j]=x:=by rw[qA hnj]at hx;injection hx
   have ec:=ze8 L hL (n+j) 139 8 hnj om;rw[hxe,zoe _ (hL x (qB hx))]at ec;have et:cdL (P.take (j+1))=cdL (P.take j)++cdE (zcM x):=by rw[List.take_add_one,hPx];simp[cdL]
   have ec':qD 8 (qM ((n+j) * 148+139) (itL L))=cdE (zcM x):=ec;rw[et]at hnext;have hA:∀ y∈cdL (P.take j),Scoped H.length y:=zkg _ _;generalize cdL (P.take j)=A at *;have y5:(cdE (zcM x)).length=8:=rfl;have y6:qD 8 (cdE (zcM x))=cdE (zcM x):=rfl;have y7:(cdE (zcM x)).all PV.cell=true:=rfl;generalize cdE (zcM x)=B at *;refine PL.round ?_;refine PW.f (fun K k=>by simp(maxSteps:=3000000) (disch:=omega) only[go_sem,↓reduceIte,reduceCtorEq,dH,x1,x3,d1];exact k) ?_;refine PW.t ?_;refine PW.skip ?_;refine PW.b ?_;refine PW.f (fun K k=>by simp(maxSteps:=3000000) (disch:=omega) only[go_sem,↓reduceIte,reduceCtorEq,hli,ec',y5,y6,y7,hlk];exact k) ?_;refine PW.e ?_;exact PL.at [0,4,5,7,8,9,22,23,24] hnext (by simp[kp,slot,Nat.beq];omega) (by simp[dH])
  ·have hjl':j=P.length:=om;subst hjl';have d1:decide (((n+P.length:Nat):Int)≤(m:Int))=false:=decide_eq_false om;rw[List.take_length]at hlk ⊢;clear ih2;refine PL.round ?_;refine PW.f (fun K k=>by simp(maxSteps:=3000000) (disch:=omega) only[go_sem,↓reduceIte,reduceCtorEq,dH,x1,x3,d1];exact k) ?_;refine PW.u ?_;refine PW.exit ?_;refine PW.view (Vs.trim (F1:=[(0,.slice (itL L) L.length fl),(4,.ptr (H.length+2) 0 0),(5,.func 41 [] [.ptr (H.length+2) 0 0,.ptr H.length 0 0]),(7,.ptr (H.length+3) 0 0),(8,.slice (cdL P) P.length false),(22,.slice (S.flatMap zo) S.length false),(23,.int .i64 (S.length:Int)),(24,.int .i64 (k:Int))]) (H1:=dH H S out++[⟨71,0,zo e⟩]) (K:=[⟨39,(cdL P).length,cdL P⟩]) (fun hh=>zey (fun b hb x hx=> ?_) (zss H S out hh)) (by simp[dH]) (by simp[dH]) ?_) ?_
   ·rw[qJ]at hb;subst hb;exact zaL _ [e] x (by simpa[enB]using hx)
   ·have hl:(dH H S out++[⟨71,0,zo e⟩]:za).length=H.length+4:=by simp[dH]
    rw[hl];exact⟨.id (zj (zcL _ _)),.id (.ptr om),.id (.func (fun j x hx=>by simp at hx) (fun j x hx=>by
     have hx:=qB hx;simp only[qN,qH,or_false]at hx;rcases hx with rfl|rfl
     ·exact .ptr om
     ·exact .ptr om)),.id (.ptr om),Fz.mslC (e:=39) (xs:=cdL P) om sp hlk (FzC.refl (zkg _ _)),.id (zj fun x hx=>zaL _ _ x hx),.id (.int _ _),.id (.int _ _),trivial⟩
   have b1:(H++[⟨65,0,[.slice (S.flatMap zo) S.length false]⟩,⟨53,0,shL out⟩,⟨49,0,[.msl (H.length+1) 0 0 S.length 11 true]⟩,⟨71,0,zo e⟩,⟨53,0,[]⟩,⟨53,0,[]⟩]:za)[H.length+2]? =some ⟨49,0,[.msl (H.length+1) 0 0 out.length 11 true]⟩:=by rw[hol];exact apn _ _ 2
   have b2:(H++[⟨65,0,[.slice (S.flatMap zo) S.length false]⟩,⟨53,0,shL out⟩,⟨49,0,[.msl (H.length+1) 0 0 S.length 11 true]⟩,⟨71,0,zo e⟩,⟨53,0,[]⟩,⟨53,0,[]⟩]:za)[H.length]? =some ⟨65,0,[.slice (S.flatMap zo) S.length false]⟩:=apn _ _ 0;have b3:(H++[⟨65,0,[.slice (S.flatMap zo) S.length false]⟩,⟨53,0,shL out⟩,⟨49,0,[.msl (H.length+1) 0 0 S.length 11 true]⟩,⟨71,0,zo e⟩,⟨53,0,[]⟩,⟨53,0,[]⟩]:za)[H.length+1]? =some ⟨53,0,shL out⟩:=apn _ _ 1;have s1:=zjf;have s2:=zkR;have s3:∀ x:Sho,qD 11 (shc x)=shc x:=fun _=>rfl;have s4:∀ x:Sho,qD 5 (shc x)=fmc x.fr:=fun _=>rfl;have s5:∀ x:Sho,(shc x)[8]? =some (.bool x.ok):=fun _=>rfl;have F7:∀ g:Fm,(fmc g).length=5:=fun _=>rfl;have F5:∀ g:Fm,(fmc g).all PV.cell=true:=fun _=>rfl;have F8:∀ g:Fm,qD 5 (fmc g)=fmc g:=fun _=>rfl;have Z7:zfr.length=5:=rfl;have F9:∀ g:Fm,qM 5 (fmc g)=[]:=fun _=>rfl;refine PW.view (Vs.place 53) (PW.view (Vs.place 53) ?_);refine PW.at [0,4,5,7,8,22,23,24] (?_:PW _ _ _ [(0,.slice (itL L) L.length fl),(4,.ptr (H.length+2) 0 0),(5,.func 41 [] [.ptr (H.length+2) 0 0,.ptr H.length 0 0]),(7,.ptr (H.length+3) 0 0),(8,.slice (cdL P) P.length false),(22,.slice (S.flatMap zo) S.length false),(23,.int .i64 (S.length:Int)),(24,.int .i64 (k:Int))] (H++[⟨65,0,[.slice (S.flatMap zo) S.length false]⟩,⟨53,0,shL out⟩,⟨49,0,[.msl (H.length+1) 0 0 S.length 11 true]⟩,⟨71,0,zo e⟩,⟨53,0,[]⟩,⟨53,0,[]⟩]) _) rfl (by simp[dH]);(repeat refine PW.seq ?_);refine PW.drawi [H.length+4,H.length+5] [(10,[0]),(11,[1])] [(10,0),(11,1)] [50,55] mix kr (by simp<;>omega) fun K hK=> ?_;refine sqx (nq2 x1 (nq2 x5 x6)) ?_;refine VCj.read (fun X hX=>rA X ((hX.out _ sp).trans b1) ((hX.out _ sp).trans b2) ((hX.out _ sp).trans b3)) rfl ?_;refine sqx (nq2 x1 (nq2 x5 x6)) ?_;refine VCj.read (fun X hX=>rB X ((hX.out _ sp).trans b1) ((hX.out _ sp).trans b2) ((hX.out _ sp).trans b3)) rfl ?_;refine sqx (nq2 s1 (nq2 s2 s3)) ?_;refine hK _ _ ?_;clear hK K;unfold shV at ih;generalize zhH e.2.1 P ra.fr rb.fr=X at hfr ih;unfold zez at hfr;refine PW.m (nq2 x1 (nq2 x8 (nq2 s1 (nq2 s4 (nq2 F5 (nq2 F7 (nq2 F8 F9))))))) hfr ?_;suffices h1:PW Tryz.prog _ _ [(0,.slice (itL L) L.length fl),(4,.ptr (H.length+2) 0 0),(5,.func 41 [] [.ptr (H.length+2) 0 0,.ptr H.length 0 0]),(7,.ptr (H.length+3) 0 0),(10,.ptr (H.length+4) 1 0),(11,.ptr (H.length+5) 1 0),(12,.ptr (H.length+6) 0 0),(13,.bool (X.2.1&&(decide (e.1.ty=1)||ra.ok))),(22,.slice (S.flatMap zo) S.length false),(23,.int .i64 (S.length:Int)),(24,.int .i64 (k:Int))] (H++[⟨65,0,[.slice (S.flatMap zo) S.length false]⟩,⟨53,0,shL out⟩,⟨49,0,[.msl (H.length+1) 0 0 S.length 11 true]⟩,⟨71,0,zo e⟩,⟨53,1,shc ra⟩,⟨53,1,shc rb⟩,⟨33,0,fmc X.1⟩]) _ by
    by_cases hty:e.1.ty=1
    ·have d1:(e.1.ty !=1)=false:=by simp[hty]
     rw[decide_eq_true hty,qY,Bool.and_true]at h1;refine PW.g (nq2 x1 (nq2 x4 d1)) ?_;refine PW.us ?_;exact PW.at [0,4,5,7,10,11,12,13,22,23,24] h1 rfl rfl
    ·have d1:(e.1.ty !=1)=true:=by simpa using hty
     rw[decide_eq_false hty,qW]at h1;refine PW.g (nq2 x1 (nq2 x4 d1)) ?_;refine PW.t ?_;cases hok:X.2.1 with
     | false=>
      rw[hok]at h1;refine PW.e ?_;exact PW.at [0,4,5,7,10,11,12,13,22,23,24] h1 rfl rfl
     | true=>rw[hok,qF]at h1;refine PW.g (nq2 s1 s5) ?_;exact PW.at [0,4,5,7,10,11,12,13,22,23,24] h1 rfl rfl
   generalize (X.2.1&&(decide (e.1.ty=1)||ra.ok))=I1 at ih ⊢;suffices h2:PW Tryz.prog _ _ [(0,.slice (itL L) L.length fl),(4,.ptr (H.length+2) 0 0),(5,.func 41 [] [.ptr (H.length+2) 0 0,.ptr H.length 0 0]),(7,.ptr (H.length+3) 0 0),(12,.ptr (H.length+6) 0 0),(13,.bool (I1&&(!decide (e.1.ty=3)||rb.ok))),(22,.slice (S.flatMap zo) S.length false),(23,.int .i64 (S.length:Int)),(24,.int .i64 (k:Int))] (H++[⟨65,0,[.slice (S.flatMap zo) S.length false]⟩,⟨53,0,shL out⟩,⟨49,0,[.msl (H.length+1) 0 0 S.length 11 true]⟩,⟨71,0,zo e⟩,⟨53,1,shc ra⟩,⟨53,1,shc rb⟩,⟨33,0,fmc X.1⟩]) _ by
    by_cases hty:e.1.ty=3
    ·have d1:(e.1.ty==3)=true:=by simp[hty]
     rw[decide_eq_true hty,Bool.not_true,qW]at h2;refine PW.g (nq2 x1 (nq2 x4 d1)) ?_;refine PW.t ?_;cases I1 with
     | false=>
      refine PW.e ?_;exact PW.at [0,4,5,7,12,13,22,23,24] h2 rfl rfl
     | true=>rw[qF]at h2;refine PW.g (nq2 s1 s5) ?_;exact PW.at [0,4,5,7,12,13,22,23,24] h2 rfl rfl
    ·have d1:(e.1.ty==3)=false:=by simp[hty]
     rw[decide_eq_false hty,Bool.not_false,qY,Bool.and_true]at h2;refine PW.g (nq2 x1 (nq2 x4 d1)) ?_;refine PW.us ?_;exact PW.at [0,4,5,7,12,13,22,23,24] h2 rfl rfl
   generalize (I1&&(!decide (e.1.ty=3)||rb.ok))=I2 at ih ⊢;suffices h3:PW Tryz.prog _ _ [(0,.slice (itL L) L.length fl),(4,.ptr (H.length+2) 0 0),(5,.func 41 [] [.ptr (H.length+2) 0 0,.ptr H.length 0 0]),(7,.ptr (H.length+3) 0 0),(12,.ptr (H.length+6) 0 0),(13,.bool I2),(15,.int .i64 (if e.2.2.rp then 3 else 2)),(22,.slice (S.flatMap zo) S.length false),(23,.int .i64 (S.length:Int)),(24,.int .i64 (k:Int))] (H++[⟨65,0,[.slice (S.flatMap zo) S.length false]⟩,⟨53,0,shL out⟩,⟨49,0,[.msl (H.length+1) 0 0 S.length 11 true]⟩,⟨71,0,zo e⟩,⟨53,1,shc ra⟩,⟨53,1,shc rb⟩,⟨33,0,fmc X.1⟩]) _ by
    refine PW.e ?_;refine PW.g (nq2 x1 x10) ?_;cases hrp:e.2.2.rp with
    | false=>
     rw[hrp,if_neg sp]at h3;refine PW.us ?_;exact PW.at [0,4,5,7,12,13,15,22,23,24] h3 rfl rfl
    | true=>rw[hrp,if_pos rfl]at h3;refine PW.t ?_;refine PW.e ?_;exact PW.at [0,4,5,7,12,13,15,22,23,24] h3 rfl rfl
   generalize (if e.2.2.rp then(3:Int)else 2)=fi at ih ⊢;have hql:q<out.length:=om;have lsh:=zeQ out;rw[hq,qE,e1,e2]at ih;refine PW.f (fun K k=>by simp(maxSteps:=3000000) (disch:=omega) only[go_sem,↓reduceIte,reduceCtorEq,x1,x2,x3,x4,x7,x9,fmc,lsh];exact k) ?_;refine PW.e ?_;have hp:=zt4 out q ⟨X.1,(n:Int),(m:Int),e.1.ty,I2,fi,e.2.2.tf⟩ hql;have hps:zM (shL out) (q * 11) (shc ⟨X.1,(n:Int),(m:Int),e.1.ty,I2,fi,e.2.2.tf⟩)=qD (q * 11) (shL out)++(shc ⟨X.1,(n:Int),(m:Int),e.1.ty,I2,fi,e.2.2.tf⟩++qM (q * 11+11) (shL out)):=by unfold zM;rw[qR];rfl
   rw[hps]at hp;refine PL.at [0,4,5,22,23,24] (?_:PL _ _ _ [(0,.slice (itL L) L.length fl),(4,.ptr (H.length+2) 0 0),(5,.func 41 [] [.ptr (H.length+2) 0 0,.ptr H.length 0 0]),(22,.slice (S.flatMap zo) S.length false),(23,.int .i64 (S.length:Int)),(24,.int .i64 ((k+1:Nat):Int))] (dH H S (out.set q ⟨X.1,(n:Int),(m:Int),e.1.ty,I2,fi,e.2.2.tf⟩)++[⟨71,0,zo e⟩,⟨53,1,shc ra⟩,⟨53,1,shc rb⟩,⟨33,0,fmc X.1⟩]) _) (by simp[kp,slot,Nat.beq]) (by unfold dH;rw[←hp];simp[shc,fmc]);refine PL.view (Vs.trim (F1:=[(0,.slice (itL L) L.length fl),(4,.ptr (H.length+2) 0 0),(5,.func 41 [] [.ptr (H.length+2) 0 0,.ptr H.length 0 0]),(22,.slice (S.flatMap zo) S.length false),(23,.int .i64 (S.length:Int)),(24,.int .i64 ((k+1:Nat):Int))]) (H1:=dH H S (out.set q ⟨X.1,(n:Int),(m:Int),e.1.ty,I2,fi,e.2.2.tf⟩)) (zss H S _) (by simp[dH]) rfl ?_) ih;have hl:(dH H S (out.set q ⟨X.1,(n:Int),(m:Int),e.1.ty,I2,fi,e.2.2.tf⟩)).length=H.length+3:=by simp[dH]
   rw[hl];exact⟨.id (zj (zcL _ _)),.id (.ptr om),.id (.func (fun j x hx=>by simp at hx) (fun j x hx=>by
    have hx:=qB hx;simp only[qN,qH,or_false]at hx;rcases hx with rfl|rfl
    ·exact .ptr om
    ·exact .ptr om)),.id (zj fun x hx=>zaL _ _ x hx),.id (.int _ _),.id (.int _ _),trivial⟩
def zdP(out:List En)(p:Int):Prop:=∃ e∈out,e.f=p∨e.l=p
theorem zfV(out:List En)(e:En)(p:Int):zdP (out++[e]) p↔zdP out p∨(e.f=p∨e.l=p):=by
 unfold zdP;constructor
 ·rintro⟨x,hx,h⟩;rcases List.mem_append.1 hx with hx|hx
  ·exact .inl ⟨x,hx,h⟩
  ·rw[qJ]at hx;subst hx;exact .inr h
 ·rintro(⟨x,hx,h⟩|h)
  ·exact⟨x,List.mem_append_left _ hx,h⟩
  ·exact⟨e,by simp,h⟩
theorem zhX(out:List En)(k:Nat)(v p:Int):zdP (out.modify k (zkT v)) p↔zdP out p:=by
 unfold zdP;constructor
 ·rintro⟨x,hx,h⟩;obtain⟨j,hj⟩:=qO hx;rw[jA]at hj;cases hy:out[j]? with
  | none=>rw[hy]at hj;cases hj
  | some y=>rw[hy]at hj;have hj:(if k=j then zkT v y else y)=x:=Option.some.inj hj;refine⟨y,qB hy,?_⟩;split at hj<;>(rw[←hj]at h;exact h)
 ·rintro⟨x,hx,h⟩;obtain⟨j,hj⟩:=qO hx;refine⟨if k=j then zkT v x else x,qB (i:=j) ?_,by split<;>exact h⟩;rw[jA,hj];rfl
structure SkI(L:List It)(w:Wk)(i:Nat):Prop where
 sk:w.sk=false↔∀(p:Nat) (x:It),p<i→L[p]? =some x→x.k=3→(p:Int)=w.op∨zdP w.out p
 op:w.op= -1∨∃(o:Nat) (x:It),w.op=(o:Int)∧o<i∧L[o]? =some x∧x.k=3∧¬ zdP w.out o
 lt:∀ p:Int,zdP w.out p→p<i
theorem SkI.disp{L:List It}{w:Wk}{i:Nat}(h:SkI L w i):SkI L w.disp i:=by
 unfold Wk.disp;split
 ·refine⟨?_,?_,?_⟩
  ·show w.sk=false↔∀(p:Nat) (x:It),p<i→L[p]? =some x→x.k=3→(p:Int)=w.op∨zdP (w.out.modify w.new.toNat (zkT w.sh)) p;simp only[zhX];exact h.sk
  ·show w.op= -1∨∃(o:Nat) (x:It),w.op=(o:Int)∧o<i∧L[o]? =some x∧x.k=3∧¬ zdP (w.out.modify w.new.toNat (zkT w.sh)) o;simp only[zhX];exact h.op
  ·show ∀ p:Int,zdP (w.out.modify w.new.toNat (zkT w.sh)) p→p<i;simp only[zhX];exact h.lt
 ·exact h
theorem SkI.reset{L:List It}{w:Wk}{i:Nat}(h:SkI L w i):SkI L w.reset i:=by have g:=h.disp;exact⟨g.sk,g.op,g.lt⟩
theorem SkI.drop{L:List It}{w:Wk}{i:Nat}(h:SkI L w i):SkI L w.drop i:=by
 have hs:=h.sk;refine⟨?_,.inl rfl,h.lt⟩;show(w.sk||decide (0≤w.op))=false↔∀(p:Nat) (x:It),p<i→L[p]? =some x→x.k=3→(p:Int)= -1∨zdP w.out p;rw[Bool.or_eq_false_iff,decide_eq_false_iff_not,hs];rcases h.op with ho|⟨o,y,ho,h1,h2,h3,h4⟩
 ·rw[ho];exact⟨fun g=>g.1,fun g=>⟨g,om⟩⟩
 ·rw[ho];exact⟨fun g=>absurd (Int.natCast_nonneg o) g.2,fun g=>by
   rcases g o y h1 h2 h3 with h5|h5
   ·omega
   ·exact absurd h5 h4⟩
theorem SkI.next{L:List It}{w:Wk}{i:Nat}{x:It}(h:SkI L w i)(hx:L[i]? =some x)(hk:x.k≠3):SkI L w (i+1):=by
 refine⟨h.sk.trans ⟨fun g p y hp hy k3=> ?_,fun g p y hp hy k3=>g p y om hy k3⟩,?_,fun p hp=>by have:=h.lt p hp;omega⟩
 ·by_cases e:p=i
  ·subst e;rw[hx]at hy;injection hy with hy;rw[hy]at hk;exact absurd k3 hk
  ·exact g p y om hy k3
 ·rcases h.op with ho|⟨o,y,ho,h1,h2⟩
  ·exact .inl ho
  ·exact .inr ⟨o,y,ho,om,h2⟩
theorem SkI.same{L:List It}{w v:Wk}{i:Nat}(h:SkI L w i)(h1:v.sk=w.sk)(h2:v.op=w.op)(h3:v.out=w.out):SkI L v i:=⟨by rw[h1,h2,h3];exact h.sk,by rw[h2,h3];exact h.op,by rw[h3];exact h.lt⟩
theorem SkI.skip{L:List It}{w:Wk}{i:Nat}{x:It}(h:SkI L w i)(hx:L[i]? =some x)(hk:x.k=3)(ho:w.op= -1):SkI L { w with sk:=true } (i+1):=by
 refine⟨⟨fun e=>(by cases e),fun g=> ?_⟩,.inl ho,fun p hp=>by have:=h.lt p hp;omega⟩;rcases g i x om hx hk with h1|h1
 ·have h1:(i:Int)=w.op:=h1;omega
 ·have:=h.lt _ h1;omega
theorem SkI.frame{L:List It}{w:Wk}{i:Nat}{x:It}(hx:L[i]? =some x)(hk:x.k=3)(f:Int)(ty:Int)(hop:w.op= -1)(hf:f≤i)(hlt:∀ p:Int,zdP w.out p→p<i)
  (hs:w.sk=false↔∀(p:Nat) (x:It),p<i→L[p]? =some x→x.k=3→(p:Int)=f∨zdP w.out p):SkI L (w.frame f i ty) (i+1):=by
 have no:SkI L { w with sk:=true } (i+1):=by
  refine⟨⟨fun e=>(by cases e),fun g=> ?_⟩,.inl hop,fun p hp=>by have:=hlt p hp;omega⟩;rcases g i x om hx hk with h1|h1
  ·have h1:(i:Int)=w.op:=h1;omega
  ·have:=hlt _ h1;omega
 have yes:∀ e:En,e.f=f→e.l=(i:Int)→SkI L { w with out:=w.out++[e] } (i+1):=fun e e1 e2=>by
  refine⟨?_,.inl hop,fun p hp=> ?_⟩
  ·show w.sk=false↔∀(p:Nat) (x:It),p<i+1→L[p]? =some x→x.k=3→(p:Int)=w.op∨zdP (w.out++[e]) p;rw[hs];constructor
   ·intro g p y hp hy k3;rw[zfV,e1,e2];by_cases hpi:p=i
    ·exact .inr (.inr (.inr om))
    ·rcases g p y om hy k3 with h1|h1
     ·exact .inr (.inr (.inl h1.symm))
     ·exact .inr (.inl h1)
   ·intro g p y hp hy k3;rcases g p y om hy k3 with h1|h1
    ·omega
    ·rw[zfV,e1,e2]at h1;rcases h1 with h1|h1|h1
     ·exact .inr h1
     ·exact .inl h1.symm
     ·omega
  ·rw[zfV,e1,e2]at hp;rcases hp with h1|h1|h1
   ·have:=hlt p h1;omega
   ·omega
   ·omega
 unfold Wk.frame;split
 ·split
  ·exact no
  ·exact(yes ⟨f,i,ty,w.old,w.new,w.sh⟩ rfl rfl).same rfl rfl rfl
 ·split
  ·exact no
  ·dsimp only;exact((yes ⟨f,i,ty,w.new,-1,0⟩ rfl rfl).disp).same rfl rfl rfl
theorem SkI.step{L:List It}{w:Wk}{i:Nat}{x:It}(h:SkI L w i)(hx:L[i]? =some x):SkI L (w.step L i x) (i+1):=by
 have hd:=h.drop;unfold Wk.step;split
 ·rename_i k3;unfold Wk.picture;dsimp only;split
  ·exact hd.skip hx k3 rfl
  ·split
   ·exact SkI.frame (w:=w.drop) hx k3 i _ rfl (Int.le_refl _) h.lt (hd.sk.trans ⟨fun g p y hp hy k=>by
     rcases g p y hp hy k with h1|h1
     ·have h1:(p:Int)= -1:=h1;omega
     ·exact .inr h1,fun g p y hp hy k=>by
     rcases g p y hp hy k with h1|h1
     ·omega
     ·exact .inr h1⟩)
   ·split
    ·rename_i hp;rw[Bool.and_eq_true,decide_eq_true_eq]at hp;rcases h.op with ho|⟨o,y,ho,h1,h2,h3,h4⟩
     ·omega
     ·exact SkI.frame (w:={ w with op:= -1 }) hx k3 w.op _ rfl om h.lt h.sk
    ·refine⟨?_,.inr ⟨i,x,rfl,om,hx,k3,fun hc=>by have:=h.lt _ hc;omega⟩,fun p hp=>by have:=h.lt p hp;omega⟩;show w.drop.sk=false↔∀(p:Nat) (x:It),p<i+1→L[p]? =some x→x.k=3→(p:Int)=(i:Int)∨zdP w.out p;refine hd.sk.trans ⟨fun g p y hp hy k=> ?_,fun g p y hp hy k=> ?_⟩
     ·by_cases e:p=i
      ·exact .inl om
      ·rcases g p y om hy k with h1|h1
       ·have h1:(p:Int)= -1:=h1;omega
       ·exact .inr h1
     ·rcases g p y om hy k with h1|h1
      ·omega
      ·exact .inr h1
 ·rename_i k3;have hn:=hd.next hx k3
  split
  ·unfold Wk.seq;split
   ·exact hn.reset.same rfl rfl rfl
   ·exact hn
  ·split
   ·unfold Wk.grp;split
    ·exact hn.reset
    ·split<;>exact hn.same rfl rfl rfl
   ·split
    ·exact hn.reset.same rfl rfl rfl
    ·exact hn
theorem SkI.run{L:List It}:∀(r:List It) (i:Nat) (w:Wk),L.drop i=r→i≤L.length→SkI L w i→SkI L (wkN L w (i:Int) r) L.length
 | [],i,w,hr,hi,h=>by
  have:=List.drop_eq_nil_iff.1 hr;rw[show i=L.length from om]at h;exact h
 | x::r,i,w,hr,_,h=>by obtain⟨hi,hx,hr2⟩:=zfg hr;have e:(i:Int)+1=((i+1:Nat):Int):=om;rw[wkN,e];exact SkI.run r (i+1) _ hr2 hi (h.step (by rw[qA hi,hx]))
theorem zo7{s:Sq}{p:Pi}{b:Bool}(us:List (Int×List UInt8))(j:Nat)(hj:j<us.length):zje s p b (us.drop j) j=(decide (us[j].1=1+(j:Int))&&(okR (slT s p b us[j].1 us[j].2)&&zje s p b (us.drop (j+1)) (j+1))):=by rw[qV hj];rfl
set_option maxHeartbeats 4000000 in
set_option maxRecDepth 10000 in
theorem zw6(s:Sq)(c:Cdd)(b:Bool)(hs:SqOk s)(hc:CdOk c)(H:za):CallOk Tryz.prog 24 [.agg (sqc s),.agg (cdE c),.bool b] H (.bool (zh7 s c b)) H:=by
 have fin:∀(b:Bool) (K:za),Fin H (.bool b) H (.bool b) (H++K):=fun b K=>Fin.base (.id (.bool _));have h1:=zbt s;have h2:=zbK s hs;have h3:=zdy s hs;have c1:(cdE c).all PV.cell=true:=rfl;have c2:(cdE c).length=8:=rfl;have c3:qD 6 (cdE c)=pic c.p:=rfl;have c7:(cdE c)[7]? =some (.slice (uq c.us) c.us.length false):=rfl;have ro:=fun K=>zhf s c.p K hs;have ql:=zi4 c.us;unfold zh7;refine CallOk.go Tryz.func24 Tryz.ntmps24 Tryz.results24 ?_;refine PW.g (nq2 h1 c1) ?_;(repeat refine PW.seq ?_);refine PW.drawg mix kr fun K hK=> ?_;simp(disch:=omega) only[go_sem,↓reduceIte,reduceCtorEq,h2,h3,c2,c3,c7];refine VCz.call (fun _=>ro _) rfl ?_;refine sqz ?_;refine hK _ _ ?_;clear hK K;by_cases hn:(c.us.length:Int)=zaQ s c.p;rotate_left
 ·have d1:((c.us.length:Int) !=zaQ s c.p)=true:=by simpa using hn
  rw[decide_eq_false hn,qG];refine PW.c (fun h=> ?_) (fun h=> ?_);rotate_left
  ·rw[d1]at h;cases h
  refine PW.e ?_;refine PW.v (.bool false) ?_;exact fin _ _
 have d1:((c.us.length:Int) !=zaQ s c.p)=false:=by simp[hn]
 rw[decide_eq_true hn,qF];refine PW.c (fun h=> ?_) (fun h=> ?_)
 ·rw[d1]at h;cases h
 refine PW.skip ?_;clear ro d1 hn;refine PW.g (nq2 c2 c7) ?_;refine PW.l ?_;have hun:=hc.n;suffices hl1:∀ j:Nat,j≤c.us.length→zje s c.p b (c.us.drop j) j=zje s c.p b c.us 0→PL Tryz.prog _ _ [(2,.bool b),(3,.ptr H.length 0 0),(4,.ptr (H.length+1) 0 0),(21,.slice (uq c.us) c.us.length false),(22,.int .i64 (c.us.length:Int)),(23,.int .i64 (j:Int))] (H++[⟨29,0,sqc s⟩,⟨39,0,cdE c⟩]) _ by exact PL.at [2,3,4,21,22,23] (hl1 0 om rfl) rfl rfl
 intro j hj hf;induction hd:c.us.length - j using qU generalizing j with
 | _ d ih=>
  refine PL.round ?_;refine PW.e ?_;refine PW.c (fun h=> ?_) (fun h=> ?_)
  ·have hjl:j<c.us.length:=ot h;have ea:=zp8 c.us j hjl;have hnext:=ih (c.us.length - (j+1)) om (j+1) om;have hu:=hc.u _ (qS hjl);rw[zo7 _ _ hjl]at hf;generalize c.us[j]=u at *;have u1:(uq1 u).length=2:=rfl;have u2:(uq1 u).all PV.cell=true:=rfl;have u3:qD 2 (uq1 u)=[.int .i64 u.1,.slice (bs u.2) u.2.length false]:=rfl;have u4:(uq1 u)[0]? =some (.int .i64 u.1):=rfl;have so:=fun K=>zkO s c.p b u.1 u.2 false K hs hu.1 hu.2;refine PW.skip ?_;refine PW.b ?_;refine PW.g (nq2 ea (nq2 ql (nq2 u1 (nq2 u2 u3)))) ?_;by_cases h1':u.1=1+(j:Int);rotate_left
   ·have d2:(u.1 !=1+(j:Int))=true:=by simpa using h1'
    rw[decide_eq_false h1',qG]at hf;refine PW.g (nq2 u1 (nq2 u4 d2)) ?_;refine PW.t ?_;refine PW.e ?_;refine PW.v (.bool false) ?_;rw[←hf];exact fin _ _
   have d2:(u.1 !=1+(j:Int))=false:=by simp[h1']
   rw[decide_eq_true h1',qF]at hf;refine PW.g (nq2 u1 (nq2 u4 d2)) ?_;refine PW.us ?_;cases hsl:slT s c.p b u.1 u.2 with
   | er e a=>
    rw[hsl]at hf so;simp only[okR,qG]at hf;refine PW.f (fun K k=>by simp(disch:=omega) only[go_sem,↓reduceIte,reduceCtorEq,h2,h3,c2,c3,u1,u3];refine VCx.call (so _) rfl ?_;simp(disch:=omega) only[go_sem,↓reduceIte,reduceCtorEq,rvT,ecd];exact k) ?_;have d3:((e:Int)+1 !=0)=true:=by simp;omega
    refine PW.g d3 ?_;refine PW.t ?_;refine PW.e ?_;refine PW.v (.bool false) ?_;rw[←hf];exact fin _ _
   | ok x a=>
    rw[hsl]at hf so;simp only[okR,qF]at hf;refine PW.f (fun K k=>by simp(disch:=omega) only[go_sem,↓reduceIte,reduceCtorEq,h2,h3,c2,c3,u1,u3];refine VCx.call (so _) rfl ?_;simp(disch:=omega) only[go_sem,↓reduceIte,reduceCtorEq,rvT];exact k) ?_;refine PW.e ?_;refine PW.us ?_;refine PW.e ?_;refine PL.keep [2,3,4,21,22,23] ?_;refine PL.view (Vs.trim (F1:=[(2,.bool b),(3,.ptr H.length 0 0),(4,.ptr (H.length+1) 0 0),(21,.slice (uq c.us) c.us.length false),(22,.int .i64 (c.us.length:Int)),(23,.int .i64 ((j+1:Nat):Int))]) (H1:=H++[⟨29,0,sqc s⟩,⟨39,0,cdE c⟩]) (K:=[⟨58,0,uq1 u⟩]) (fun hh=>zey (fun b hb x hx=> ?_) hh) sp (by simp[uq1]) ?_) (hnext hf rfl)
    ·simp only[qN,qH,or_false]at hb;rcases hb with rfl|rfl
     ·exact zbm _ _ x hx
     ·exact zf0 _ _ _ _ x hx
    ·exact⟨.id (.bool _),.id (.ptr sp),.id (.ptr sp),.id (zj (znp _ _)),.id (.int _ _),.id (.int _ _),trivial⟩
  ·have hjl:j=c.us.length:=ofF h;subst hjl;rw[List.drop_length]at hf;rw[←hf];refine PW.exit ?_;refine PW.e ?_;refine PW.v (.bool true) ?_;exact fin _ _
def zit:List PV:=.int .i64 0::(sqc sq0++[.bool false,.bool false,.int .i64 0,.int .i64 0,.int .i64 0,.int .i64 0,.bool false,.bool false,.bool false,.slice [] 0 true,.slice [] 0 true,.int .i64 0])
theorem zpu(L:List It)(j:Nat)(hj:j<L.length):zjG L (L.drop j) j=(zm0 L j L[j]&&zjG L (L.drop (j+1)) (j+1)):=by rw[qV hj];rfl
set_option maxHeartbeats 8000000 in
set_option maxRecDepth 100000 in
theorem zxr(L:List It)(fl:Bool)(hL:∀ x∈L,SqOk x.s)(hn:L.length≤800000)(H:za):CallOk Tryz.prog 22 [.slice (itL L) L.length fl] H (.bool (zhv L)) H:=by
 have fin:∀(b:Bool) (K:za),Fin H (.bool b) H (.bool b) (H++K):=fun b K=>Fin.base (.id (.bool _));have fin0:∀(b:Bool),Fin H (.bool b) H (.bool b) H:=fun b=>Fin.now;have ln:=zbl L hL;refine CallOk.go Tryz.func22 Tryz.ntmps22 Tryz.results22 ?_;refine PW.e ?_;by_cases hL0:L.length=0
 ·have hL1:L=[]:=List.length_eq_zero_iff.1 hL0;subst hL1;refine PW.e ?_;refine PW.t ?_;refine PW.e ?_;refine PW.v (.bool false) ?_;exact fin0 _
 have hpos:0<L.length:=om;have eo:zhv L=(decide (L[0].k=1)&&zjG L L 0):=by
  unfold zhv;cases L with
  | nil=>exact absurd rfl hL0
  | cons y r=>rfl
 rw[eo];clear eo;have y0:=zaK L hL 0 0 hpos om;rw[zdI]at y0;have d0:((L.length:Int)==0)=false:=by simp only[beq_eq_false_iff_ne];omega
 by_cases hk:L[0].k=1;rotate_left
 ·have d1:(L[0].k !=1)=true:=by simpa using hk
  rw[decide_eq_false hk,qG];refine PW.g (nq2 d0 (nq2 ln (nq2 y0 d1))) ?_;refine PW.t ?_;refine PW.e ?_;refine PW.v (.bool false) ?_;exact fin0 _
 have d1:(L[0].k !=1)=false:=by simp[hk]
 rw[decide_eq_true hk,qF];refine PW.g (nq2 d0 (nq2 ln (nq2 y0 d1))) ?_;refine PW.us ?_;clear d0 d1 y0 hk;refine PW.e ?_;refine PW.l ?_;suffices hl1:∀ i:Nat,i≤L.length→zjG L (L.drop i) i=zjG L L 0→PL Tryz.prog _ _ [(0,.slice (itL L) L.length fl),(17,.int .i64 (L.length:Int)),(18,.int .i64 (i:Int))] H _ by exact PL.at [0,17,18] (hl1 0 om rfl) rfl rfl
 intro i hi hf;induction hd:L.length - i using qU generalizing i with
 | _ d ih=>
  refine PL.round ?_;refine PW.e ?_;refine PW.c (fun h=> ?_) (fun h=> ?_)
  ·have hil:i<L.length:=ot h;have hnext:=ih (L.length - (i+1)) om (i+1) om;rw[zpu L i hil]at hf;have ek:=zaK L hL i 0 hil om;have eb:=zaK L hL i 137 hil om;have hx:=hL _ (qS hil);rw[zdI,Nat.add_zero]at ek;have eb':(itc L[i])[137]? =some (.bool L[i].gb):=zfO _ hx 1;rw[eb']at eb;generalize hxg:L[i]=x at *;refine PW.skip ?_;refine PW.b ?_;refine PW.e ?_;refine PW.e ?_;suffices hm:∀ C:List PV,C.length=148→C[0]? =some (.int .i64 (nxI L i).k)→C[139]? =some (.int .i64 (nxI L i).p.ty)→PW Tryz.prog _ _ [(0,.slice (itL L) L.length fl),(17,.int .i64 (L.length:Int)),(18,.int .i64 (i:Int)),(3,.int .i64 (i:Int)),(4,.ptr H.length 0 0)] (H++[⟨43,0,C⟩]) _ by
    by_cases hi1:i+1<L.length
    ·have d2:decide ((i:Int)+1<(L.length:Int))=true:=decide_eq_true om;have e1:=zmR L hL (i+1) hi1;have hx1:=hL _ (qS hi1);have en:nxI L i=L[i+1]:=by unfold nxI;rw[qA hi1];rfl
     rw[en]at hm;generalize L[i+1]=y at *;have z1:=ze7 y hx1;have z2:=zlB y;have z3:qD 148 (itc y)=itc y:=qK om;refine PW.g d2 ?_;refine PW.t ?_;refine PW.g (nq2 ln (nq2 e1 (nq2 z1 (nq2 z2 z3)))) ?_;exact PW.at [0,17,18,3,4] (hm (itc y) z1 (zdI y) (zfO y hx1 3)) rfl sp
    ·have d2:decide ((i:Int)+1<(L.length:Int))=false:=decide_eq_false om;have en:nxI L i=it0:=by unfold nxI;rw[List.getElem?_eq_none om];rfl
     rw[en]at hm;refine PW.g d2 ?_;refine PW.us ?_;exact PW.at [0,17,18,3,4] (hm zit rfl rfl rfl) rfl rfl
   intro C c1 c2 c3;have hfE:zm0 L i x=(if x.k=1 then decide ((nxI L i).k=2)else if x.k=2 then !x.gb&&(decide ((nxI L i).k=3)&&decide ((nxI L i).p.ty=1))else if x.k=4 then decide (i+1=L.length)||decide ((nxI L i).k=1)else true):=rfl;generalize nxI L i=y at *;generalize zm0 L i x=B at *;suffices hr:PW Tryz.prog _ _ [(0,.slice (itL L) L.length fl),(17,.int .i64 (L.length:Int)),(18,.int .i64 (i:Int)),(5,.bool B)] (H++[⟨43,0,C⟩]) _ by
    rw[hfE]at hr;refine PW.e ?_;refine PW.g (nq2 ln ek) ?_;refine PW.block ?_;by_cases k1:x.k=1
    ·rw[if_pos k1]at hr;have hr:PW _ _ _ [(0,.slice (itL L) L.length fl),(17,.int .i64 (L.length:Int)),(18,.int .i64 (i:Int)),(5,.bool (y.k==2))] _ _:=hr;have b1:(x.k==1)=true:=by simp[k1]
     refine PW.g b1 ?_;refine PW.t ?_;refine PW.g (nq2 c1 c2) ?_;exact PW.at [0,17,18,5] hr rfl rfl
    rw[if_neg k1]at hr;have b1:(x.k==1)=false:=by simp[k1]
    refine PW.g b1 ?_;refine PW.u ?_;by_cases k2:x.k=2
    ·rw[if_pos k2]at hr;have b2:(x.k==2)=true:=by simp[k2]
     refine PW.g b2 ?_;refine PW.t ?_;cases hg:x.gb with
     | true=>
      rw[hg]at hr eb;rw[Bool.not_true,qG]at hr;refine PW.g (nq2 ln eb) ?_;exact PW.at [0,17,18,5] hr rfl rfl
     | false=>
      rw[hg]at hr eb;rw[Bool.not_false,qF]at hr;by_cases n3:y.k=3
      ·have b3:(y.k==3)=true:=by simp[n3]
       rw[decide_eq_true n3,qF]at hr;refine PW.g (nq2 ln (nq2 eb (nq2 c1 (nq2 c2 (nq2 c3 b3))))) ?_;exact PW.at [0,17,18,5] hr rfl rfl
      ·have b3:(y.k==3)=false:=by simp[n3]
       rw[decide_eq_false n3,qG]at hr;refine PW.g (nq2 ln (nq2 eb (nq2 c1 (nq2 c2 b3)))) ?_;exact PW.at [0,17,18,5] hr rfl rfl
    rw[if_neg k2]at hr;have b2:(x.k==2)=false:=by simp[k2]
    refine PW.g b2 ?_;refine PW.u ?_;by_cases k4:x.k=4
    ·rw[if_pos k4]at hr;have b4:(x.k==4)=true:=by simp[k4]
     refine PW.g b4 ?_;refine PW.t ?_;by_cases n1:i+1=L.length
     ·have b5:((i:Int)+1==(L.length:Int))=true:=by simp only[beq_iff_eq];omega
      rw[decide_eq_true n1,qY]at hr;refine PW.g b5 ?_;exact PW.at [0,17,18,5] hr rfl rfl
     ·have b5:((i:Int)+1==(L.length:Int))=false:=by simp only[beq_eq_false_iff_ne];omega
      rw[decide_eq_false n1,qW]at hr;refine PW.g (nq2 b5 (nq2 c1 c2)) ?_;exact PW.at [0,17,18,5] hr rfl rfl
    rw[if_neg k4]at hr;have b4:(x.k==4)=false:=by simp[k4]
    refine PW.g b4 ?_;refine PW.us ?_;exact PW.at [0,17,18,5] hr rfl rfl
   clear hfE;cases B with
   | false=>
    rw[qG]at hf;refine PW.e ?_;refine PW.t ?_;refine PW.e ?_;refine PW.v (.bool false) ?_;rw[←hf];exact fin _ _
   | true=>rw[qF]at hf;refine PW.e ?_;refine PW.us ?_;refine PW.e ?_;refine PL.keep [0,17,18] ?_;refine PL.view (Vs.trim (F1:=[(0,.slice (itL L) L.length fl),(17,.int .i64 (L.length:Int)),(18,.int .i64 ((i+1:Nat):Int))]) (H1:=H) (fun h=>h) (Nat.le_refl _) rfl ?_) (hnext hf rfl);exact⟨.id (zj (zcL _ _)),.id (.int _ _),.id (.int _ _),trivial⟩
  ·have hil:i=L.length:=ofF h;subst hil;rw[List.drop_length]at hf;rw[←hf];refine PW.exit ?_;refine PW.e ?_;refine PW.v (.bool true) ?_;exact fin0 _
end Go.Proofs.YtpjlfoficnpfoaaGreatDoor.Sc
