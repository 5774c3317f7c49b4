/-
  Parts of the proof, put together in one text. No condition.
-/
import Derived.Test.YtjgmdlcjbgiekaaGreatDoorQ46
namespace Go.Proofs.YtjgmdlcjbgiekaaGreatDoor.Sc
set_option linter.all false
open Pm Ty Go.RowKit
theorem _root_.Go.Proofs.YtjgmdlcjbgiekaaGreatDoor.Pm.YldOk.introN {P:Program} {H:za} {N l id e ver:Nat} {us:List Value} {fs:List PV} {r:Loop} {p:Nat} {x:PV} {G:Fr} {H':za} (hN:us.length=N) (hr1:r.tmps=us.toArray) (hr2:r.state= .ready) (hr3:r.pending=none) (hps:r.params= #[p]) (hp:p<N)
  (hG:∀ t,slot G t= .undef∨(t<N∧fs[t]? =some (slot G t))) (hid:H[id]? =some ⟨e,ver,[.lp l (.loop r)]⟩)
  (h:PWr P ⟨N,H⟩ l r.assign ((p,x)::G) H (ziW P ⟨N,H⟩ (zkC H H' id e ver l r) id e ver l r)):YldOk P (.yl l us fs) [x] H (.bool true) H':=by
 subst hN
 exact YldOk.intro hr1 hr2 hr3 hps hp hG hid h
theorem zqh (L:List It) (hL:∀ x∈L,SqOk x.s):∀ (r:List It) (k:Nat) (a:As) (d:Dp),L.drop k=r→AsOk L a→DpG d k→k≤L.length→DpG (dpN L a d k r) L.length
 | [],k,a,d,hr,_,hd,hk=>hd.mono hk
 | x::r,k,a,d,hr,ha,hd,hk=>by
  obtain ⟨hkl,hx,hr2⟩:=zjL hr
  obtain ⟨g1,g2⟩:=zmf L hL a k hkl ha
  have e:dpN L a d k (x::r)=dpN L (a.item L k x).1 (d.stepO (a.item L k x).2) ((k+1:Nat):Int) r:=rfl
  rw [e,←hx]
  refine zqh L hL r (k+1) _ _ hr2 g1 ?_ (by omega)
  generalize a.item L k L[k]=q at *
  obtain ⟨a',o⟩:=q
  cases o with
  | none=>exact hd.mono (by omega)
  | some f=>exact zod hd (g2 f rfl)
theorem ztn:DpG dp0 0:=⟨⟨by simp [dp0],by simp [dp0],by simp [dp0],by simp [dp0],by simp [dp0],by simp [dp0],by simp [dp0]⟩,by simp [dp0]⟩
theorem zqG (L:List It):AsOk L (as0 sq0):=⟨⟨by decide,by decide,by decide,by decide,by decide,by decide,rfl,rfl⟩,.inl rfl,by decide⟩
set_option maxHeartbeats 8000000 in
set_option maxRecDepth 100000 in
theorem zra (L:List It) (fl:Bool) (hL:∀ x∈L,SqOk x.s) (hn:L.length≤800000) (H:za):CallOk Tryz.prog 26 [.slice (itL L) L.length fl] H (.slice ((zZ L).flatMap zE) (zZ L).length false) H:=by
 have fo:=fun K=>zno L fl K
 refine CallOk.bodyM (F0:=[(0,.slice (itL L) L.length fl)]) Tryz.func26 rfl Tryz.ntmps26 Tryz.results26 rfl (by kernel_rfl) rfl ?_
 (repeat refine PWM.seq ?_);refine PWM.rg rfl rfl fun K hK=> ?_
 simp (maxSteps:=3000000) (disch:=omega) only [go_sem,↓reduceIte,reduceCtorEq]
 refine hK _ _ ?_;clear hK K
 (repeat refine PWM.seq ?_);refine PWM.rg rfl rfl fun K hK=> ?_
 simp (maxSteps:=3000000) (disch:=omega) only [go_sem,↓reduceIte,reduceCtorEq]
 refine hK _ _ ?_;clear hK K
 refine PWM.view (Vs.ghostH (id:=H.length) (j:=0) 74 147 (hp0 _ _ _) rfl) ?_
 refine PWM.at [0,3] (?_:PWM _ _ _ _ [(0,.slice (itL L) L.length fl),(3,.ptr H.length 0 0)] (H++[dpB (H.length+1) dp0,enB []]) _) rfl (by simp [dpB,enB,dp0])
 (repeat refine PWM.seq ?_);refine PWM.rg rfl rfl fun K hK=> ?_
 simp (maxSteps:=3000000) (disch:=omega) only [go_sem,↓reduceIte,reduceCtorEq]
 refine VCx.call (fo _) rfl ?_;simp (maxSteps:=3000000) (disch:=omega) only [go_sem,↓reduceIte,reduceCtorEq];refine hK _ _ ?_;clear hK K
 refine PWM.at [3,7] (?_:PWM _ _ _ _ [(3,.ptr H.length 0 0),(7,.func 109 [] [.ptr (H.length+2) 0 0])] (H++[dpB (H.length+1) dp0,enB [],⟨22,0,[.slice (itL L) L.length fl]⟩]) _) rfl (by simp)
 (repeat refine PWM.seq ?_);refine PWM.block ?_
 refine PWM.range rfl fun fn us b hus=> ?_
 generalize hob:Obj.loop (zeX fn us _ _ _ b)=ob
 have e1:H++[dpB (H.length+1) dp0,enB [],⟨22,0,[.slice (itL L) L.length fl]⟩]++[⟨0,0,[.lp b (.deferred (some []))]⟩,⟨0,0,[.lp (b+1) ob]⟩]=kH H L fl b ob dp0:=by simp [kH,kx,dp0]
 have e2:(H++[dpB (H.length+1) dp0,enB [],⟨22,0,[.slice (itL L) L.length fl]⟩]).length=H.length+3:=by simp
 rw [e2]
 unfold lpB
 rw [hob,e1]
 have hfin:=fun o d=>zpL H L fl b ob o d []
 simp only [List.append_nil] at hfin
 have hg:=fun d=>zdp H L fl b ob d []
 simp only [List.append_nil] at hg
 refine ⟨.tup [],kH H L fl b ob (dpN L (as0 sq0) dp0 0 L),zrZ L fl hL hn H b ob _ (.yl fun j x hx=> ?_) dp0 ⟨⟨by simp [dp0],by simp [dp0],by simp [dp0],by simp [dp0],by simp [dp0],by simp [dp0],by simp [dp0]⟩,by simp [dp0]⟩ fun d f X hd hf=> ?_,hg _ 3 (by omega),hg _ 4 (by omega),fun o=> ?_⟩
 ·have hx:=List.mem_of_getElem? hx
  obtain ⟨t,_,rfl⟩:=List.mem_map.1 hx
  have:Scoped (H.length+5) (slot [(3,.ptr H.length 0 0),(7,.func 109 [] [.ptr (H.length+2) 0 0])] t):=by
   simp only [slot]
   split
   ·exact .ptr (by omega)
   ·split
    ·exact .func (fun j x hx=>by simp at hx) (fun j x hx=>by
      have hx:=List.mem_of_getElem? hx
      rw [List.mem_singleton] at hx;rw [hx];exact .ptr (by omega))
    ·exact .undef
  exact this
 ·have hf1:=hf.1.toL
  have f0:=zbX f hf1
  have f1:=zcb f
  have f2:=zuJ f hf1
  have f3:=zuK f hf1
  have f4:List.take 145 (zC f)=zC f:=List.take_of_length_le (by omega)
  obtain ⟨Y,hY⟩:∃ Y:Obj→Dp→za,∀ ob d,kH H L fl b ob d++X=Y ob d:=⟨_,fun _ _=>rfl⟩
  have yl:∀ ob d,(Y ob d).length=H.length+5+X.length:=fun ob d=>by rw [←hY,List.length_append,zcT]
  have yd:∀ ob d,DpH (Y ob d) H.length (H.length+1) d:=fun ob d=>by rw [←hY];exact ztf H L fl b ob d X
  have yt:∀ ob d d',tw (Y ob d) H.length (H.length+1) (dpB (H.length+1) d') (enB d'.en)=Y ob d':=fun ob d d'=>by rw [←hY,←hY];exact zpK H L fl b ob d d' X
  have hid:∀ ob d,(Y ob d)[H.length+4]? =some ⟨0,0,[.lp (b+1) ob]⟩:=fun ob d=>by rw [←hY];exact kH_l H L fl b ob d X
  have hset:∀ ob ob' d,(Y ob d).set (H.length+4) ⟨0,0,[.lp (b+1) ob']⟩=Y ob' d:=fun ob ob' d=>by rw [←hY,←hY];exact zpL H L fl b ob ob' d X
  have ysc:∀ ob d d',HSc (Y ob d)→HSc (Y ob d'):=fun ob d d' h=>by rw [←hY] at h ⊢;exact zpM h
  have ys0:∀ ob d d' K,d'.en=d.en→(Y ob d++K).set H.length (dpB (H.length+1) d')=Y ob d'++K:=fun ob d d' K he=>by
   have h1:=yt ob d d'
   unfold tw at h1
   rw [he,zd0 (by rw [List.getElem?_set_ne (by omega)];exact (yd ob d).gj)] at h1
   rw [List.set_append_left _ _ (by rw [yl];omega),h1]
  rw [hY,hY]
  clear hY
  subst hob
  refine YldOk.introN (G:=[(3,.ptr H.length 0 0)]) hus rfl rfl rfl rfl (by show 8<26;omega) (fun t=> ?_) (hid _ _) ?_
  ·by_cases ht:t=3
   ·subst ht;exact .inr ⟨by show 3<26;omega,rfl⟩
   ·refine .inl ?_
    simp only [slot]
    split
    ·rename_i h;exact absurd (Nat.eq_of_beq_eq_true h).symm ht
    ·rfl
  refine PWr.rg rfl rfl (fun _ _ h=>h) fun K hK=> ?_
  simp (maxSteps:=3000000) (disch:=omega) only [go_sem,↓reduceIte,reduceCtorEq,f0,f1]
  refine hK _ _ ?_;clear hK K
  refine ⟨by rw [List.getElem?_append_left (by rw [yl];omega)];exact hid _ _,?_⟩
  rw [List.set_append_left _ _ (by rw [yl];omega),hset]
  generalize hbs:Obj.loop { zeX fn us _ _ _ b with state:=.busy }=bs at *
  generalize hrd:Obj.loop (zeX fn us _ _ _ b)=rd at *
  refine PWr.block ?_
  have yF:∀ d',(Y bs d'++[⟨123,0,zC f⟩])[H.length+5+X.length]? =some ⟨123,0,zC f⟩:=fun d'=>by rw [←yl bs d'];simp
  have yD:∀ d' K,DpH (Y bs d'++K) H.length (H.length+1) d':=fun d' K=>⟨by rw [List.getElem?_append_left (by rw [yl];omega)];exact (yd bs d').gi,by rw [List.getElem?_append_left (by rw [yl];omega)];exact (yd bs d').gj,by omega⟩
  have yT:∀ d' d'' K,tw (Y bs d'++K) H.length (H.length+1) (dpB (H.length+1) d'') (enB d''.en)=Y bs d''++K:=fun d' d'' K=>by rw [zhV _ _ _ _ _ _ (by rw [yl];omega) (by rw [yl];omega),yt]
  have yG:∀ d' K,(Y bs d'++K)[H.length]? =some ⟨118,0,[.msl (H.length+1) (d'.en.length * 147) 0 d'.en.length 147 true,.int .i64 d'.old,.int .i64 d'.new,.bool d'.wt,.int .i64 d'.lk,.int .i64 d'.sh]⟩:=fun d' K=>(yD d' K).gi
  have ySs:∀ d' K B,((Y bs d'++K).set H.length B)[H.length]? =some B:=fun d' K B=>by rw [List.getElem?_set_self (by rw [List.length_append,yl];omega)]
  refine PWr.at [3,4] (?_:PWr _ _ _ _ [(3,.ptr H.length 0 0),(4,.ptr (H.length+5+X.length) 0 0)] _ _) (by rw [←yl rd d];rfl) rfl
  refine PWr.seq_to [3,4] [(3,.ptr H.length 0 0),(4,.ptr (H.length+5+X.length) 0 0)] (Y bs (d.res f.rs)++[⟨123,0,zC f⟩]) ?_ ?_
  ·(repeat refine PWr.seq ?_);refine PWr.rg rfl rfl (fun _ _ h=>h) fun K hK=> ?_
   simp (maxSteps:=3000000) (disch:=omega) only [go_sem,↓reduceIte,reduceCtorEq,yF,f0,f2]
   refine hK _ _ ?_;clear hK K
   refine PWr.cond (t:=f.rs) rfl (fun h=> ?_) (fun h=> ?_)
   ·have fo:=zgW d H.length (H.length+1) _ (yD d [⟨123,0,zC f⟩]) (hd.mono (by omega))
    rw [yT] at fo
    (repeat refine PWr.seq ?_);refine PWr.rg rfl rfl (fun _ _ h=>h) fun K hK=> ?_
    simp (maxSteps:=3000000) (disch:=omega) only [go_sem,↓reduceIte,reduceCtorEq]
    refine VCx.call (fo) rfl ?_;simp (maxSteps:=3000000) (disch:=omega) only [go_sem,↓reduceIte,reduceCtorEq];refine hK _ _ ?_;clear hK K
    (repeat refine PWr.seq ?_);refine PWr.rg rfl rfl (fun _ _ h=>h) fun K hK=> ?_
    simp (maxSteps:=3000000) (disch:=omega) only [go_sem,↓reduceIte,reduceCtorEq,yG,ySs,List.set_set]
    refine hK _ _ ?_;clear hK K
    refine ⟨rfl,?_⟩
    rw [h]
    exact ys0 bs d.flush { d.flush with old:= -1,new:= -1,lk:=0 } _ rfl
   ·refine PWr.skip ⟨rfl,?_⟩
    rw [h];rfl
  have g1:=zs5 hd f.rs
  have hstep:d.step f=((d.res f.rs).lnk f.lk).frame f:=rfl
  have hsc:=ysc rd d (d.step f)
  rw [hstep] at hsc ⊢
  generalize d.res f.rs=d1 at *
  refine PWr.seq_to [3,4] [(3,.ptr H.length 0 0),(4,.ptr (H.length+5+X.length) 0 0)] (Y bs (d1.lnk f.lk)++[⟨123,0,zC f⟩]) ?_ ?_
  ·(repeat refine PWr.seq ?_);refine PWr.rg rfl rfl (fun _ _ h=>h) fun K hK=> ?_
   simp (maxSteps:=3000000) (disch:=omega) only [go_sem,↓reduceIte,reduceCtorEq,yF,f0,f3]
   refine hK _ _ ?_;clear hK K
   refine PWr.cond (t:=f.lk != -1) rfl (fun h=> ?_) (fun h=> ?_)
   ·(repeat refine PWr.seq ?_);refine PWr.rg rfl rfl (fun _ _ h=>h) fun K hK=> ?_
    simp (maxSteps:=3000000) (disch:=omega) only [go_sem,↓reduceIte,reduceCtorEq,yF,yG,f0,f3]
    refine hK _ _ ?_;clear hK K
    refine ⟨rfl,?_⟩
    have hne:f.lk≠-1:=by simpa using h
    rw [show d1.lnk f.lk={ d1 with lk:=f.lk } by unfold Dp.lnk;rw [if_pos hne]]
    exact ys0 bs d1 { d1 with lk:=f.lk } _ rfl
   ·refine PWr.skip ⟨rfl,?_⟩
    have hne:¬ f.lk≠-1:=by simpa using h
    rw [show d1.lnk f.lk=d1 by unfold Dp.lnk;rw [if_neg hne]]
  have g2:=zte g1 f.lk hf.2
  generalize d1.lnk f.lk=d2 at *
  have fo:=zsq d2 f H.length (H.length+1) _ (yD d2 [⟨123,0,zC f⟩]) (g2.mono (by omega)) hf1
  rw [yT] at fo
  (repeat refine PWr.seq ?_);refine PWr.rg rfl rfl (fun _ _ h=>h) fun K hK=> ?_
  simp (maxSteps:=3000000) (disch:=omega) only [go_sem,↓reduceIte,reduceCtorEq,yF,f0,f4]
  refine VCx.call (fo) rfl ?_;simp (maxSteps:=3000000) (disch:=omega) only [go_sem,↓reduceIte,reduceCtorEq];refine hK _ _ ?_;clear hK K
  refine ⟨by rw [List.getElem?_append_left (by rw [yl];omega),hbs];exact hid _ _,?_⟩
  rw [hrd,List.set_append_left _ _ (by rw [yl];omega),hset]
  exact Fin.cut rfl (by rw [yl,yl]) hsc (.id (.bool _))
 ·rw [hfin]
  have hstru:zZ L=(dpN L (as0 sq0) dp0 0 L).flush.en:=rfl
  have hG:=zqh L hL L 0 (as0 sq0) dp0 rfl (zqG L) ztn (Nat.zero_le _)
  have hfl:=(zez hG).1
  have hd0:=ztf H L fl b o (dpN L (as0 sq0) dp0 0 L) []
  have ht:=zpK H L fl b o (dpN L (as0 sq0) dp0 0 L) (dpN L (as0 sq0) dp0 0 L).flush []
  simp only [List.append_nil] at hd0 ht
  have fo:=zgW _ H.length (H.length+1) _ hd0 (hG.mono (by omega))
  rw [ht] at fo
  have hgd:=fun d=>zdp H L fl b o d [] 0 (by omega)
  have hge:=fun d=>zdp H L fl b o d [] 1 (by omega)
  have hgq:=fun d=>zdp H L fl b o d [] 3 (by omega)
  simp only [List.append_nil,Nat.add_zero,List.getElem?_cons_zero,List.getElem?_cons_succ,kx] at hgd hge hgq
  unfold dpB at hgd
  refine PWM.at [3] (?_:PWM _ _ _ _ [(3,.ptr H.length 0 0)] _ _) rfl rfl
  (repeat refine PWM.seq ?_);refine PWM.rg rfl rfl fun K hK=> ?_
  simp (maxSteps:=3000000) (disch:=omega) only [go_sem,↓reduceIte,reduceCtorEq]
  refine VCx.call (fo) rfl ?_;simp (maxSteps:=3000000) (disch:=omega) only [go_sem,↓reduceIte,reduceCtorEq];refine hK _ _ ?_;clear hK K
  rw [hstru]
  generalize (dpN L (as0 sq0) dp0 0 L).flush=d at *
  (repeat refine PWM.seq ?_);refine PWM.rg rfl rfl fun K hK=> ?_
  simp (maxSteps:=3000000) (disch:=omega) only [go_sem,↓reduceIte,reduceCtorEq,hgd]
  refine hK _ _ ?_;clear hK K
  refine PWM.ret ⟨b,H.length+3,.msl (H.length+1) (d.en.length * 147) 0 d.en.length 147 true,rfl,hgq d,rfl,?_⟩
  have hcut:(kH H L fl b o d).set (H.length+3) ⟨0,0,[.lp b (.deferred none)]⟩=H++(dpB (H.length+1) d::enB d.en::[⟨22,0,[.slice (itL L) L.length fl]⟩,⟨0,0,[.lp b (.deferred none)]⟩,⟨0,0,[.lp (b+1) o]⟩]):=by
   unfold kH
   rw [zh2]
   rfl
  rw [hcut]
  refine Fin.base (Fz.mslC (e:=74) (xs:=d.en.flatMap zE) (by omega) ?_ ?_ (FzC.refl (zcZ _ _)))
  ·rw [List.getElem?_append_right (by omega),Nat.add_sub_cancel_left];rfl
  ·rw [zg0 hfl.ok.sq]
def enR (e:En):List PV:=[.int .i64 e.f,.int .i64 e.l,.int .i64 e.ty,.int .i64 e.pa,.int .i64 e.fu,.int .i64 e.sh]
def wtl (j:Nat) (w:Wk):List PV:=[.int .i64 w.old,.int .i64 w.new,.bool w.wt,.int .i64 w.op,.int .i64 w.no,.int .i64 w.sh,.msl j (w.out.length * 6) 0 w.out.length 6 true,.bool w.sk]
def wkc (j:Nat) (L:List It) (fl:Bool) (w:Wk):List PV:=.slice (itL L) L.length fl:: .bool w.hd::(sqc w.sq++wtl j w)
def wkB (j:Nat) (L:List It) (fl:Bool) (w:Wk):Blk:=⟨80,0,wkc j L fl w⟩
def woB (o:List En):Blk:=⟨83,o.length * 6,o.flatMap enR⟩
section
variable {j:Nat} {L:List It} {fl:Bool}
structure WkG (j:Nat) (L:List It) (fl:Bool) (w:Wk):Prop where
 ln:(wkc j L fl w).length=145
 lL:(wkc j L fl w)[0]? =some (.slice (itL L) L.length fl)
 hd:(wkc j L fl w)[1]? =some (.bool w.hd)
 sq:List.take 135 (List.drop 2 (wkc j L fl w))=sqc w.sq
 old:(wkc j L fl w)[137]? =some (.int .i64 w.old)
 new:(wkc j L fl w)[138]? =some (.int .i64 w.new)
 wt:(wkc j L fl w)[139]? =some (.bool w.wt)
 op:(wkc j L fl w)[140]? =some (.int .i64 w.op)
 no:(wkc j L fl w)[141]? =some (.int .i64 w.no)
 sh:(wkc j L fl w)[142]? =some (.int .i64 w.sh)
 out:(wkc j L fl w)[143]? =some (.msl j (w.out.length * 6) 0 w.out.length 6 true)
 sk:(wkc j L fl w)[144]? =some (.bool w.sk)
structure WkS (j:Nat) (L:List It) (fl:Bool) (w:Wk):Prop where
 hd:∀ v,(wkc j L fl w).set 1 (.bool v)=wkc j L fl { w with hd:=v }
 old:∀ v,(wkc j L fl w).set 137 (.int .i64 v)=wkc j L fl { w with old:=v }
 new:∀ v,(wkc j L fl w).set 138 (.int .i64 v)=wkc j L fl { w with new:=v }
 wt:∀ v,(wkc j L fl w).set 139 (.bool v)=wkc j L fl { w with wt:=v }
 op:∀ v,(wkc j L fl w).set 140 (.int .i64 v)=wkc j L fl { w with op:=v }
 no:∀ v,(wkc j L fl w).set 141 (.int .i64 v)=wkc j L fl { w with no:=v }
 sh:∀ v,(wkc j L fl w).set 142 (.int .i64 v)=wkc j L fl { w with sh:=v }
 sk:∀ v,(wkc j L fl w).set 144 (.bool v)=wkc j L fl { w with sk:=v }
end
structure WkH (H:za) (i j:Nat) (L:List It) (fl:Bool) (w:Wk):Prop where
 gi:H[i]? =some (wkB j L fl w)
 gj:H[j]? =some (woB w.out)
 ne:i≠j
structure WkOk (w:Wk) (m:Nat):Prop where
 sq:SqOk w.sq
 n:w.out.length≤m
 sh:0≤w.sh∧w.sh+(if w.wt then 1 else 0)≤w.out.length
 no:0≤w.no∧w.no≤2
 new: -1≤w.new∧w.new<w.out.length
 wt:w.wt=true→0≤w.new
def wR (H:za) (i j:Nat) (L:List It) (fl:Bool) (w:Wk):za:=tw H i j (wkB j L fl w) (woB w.out)
structure WrT (H:za) (i j:Nat) (L:List It) (fl:Bool):Prop where
 gi:∀ w,(wR H i j L fl w)[i]? =some ⟨80,0,wkc j L fl w⟩
 gj:∀ w,(wR H i j L fl w)[j]? =some ⟨83,w.out.length * 6,w.out.flatMap enR⟩
 hd:∀ w v,(wR H i j L fl w).set i ⟨80,0,wkc j L fl { w with hd:=v }⟩=wR H i j L fl { w with hd:=v }
 old:∀ w v,(wR H i j L fl w).set i ⟨80,0,wkc j L fl { w with old:=v }⟩=wR H i j L fl { w with old:=v }
 new:∀ w v,(wR H i j L fl w).set i ⟨80,0,wkc j L fl { w with new:=v }⟩=wR H i j L fl { w with new:=v }
 wt:∀ w v,(wR H i j L fl w).set i ⟨80,0,wkc j L fl { w with wt:=v }⟩=wR H i j L fl { w with wt:=v }
 op:∀ w v,(wR H i j L fl w).set i ⟨80,0,wkc j L fl { w with op:=v }⟩=wR H i j L fl { w with op:=v }
 no:∀ w v,(wR H i j L fl w).set i ⟨80,0,wkc j L fl { w with no:=v }⟩=wR H i j L fl { w with no:=v }
 sh:∀ w v,(wR H i j L fl w).set i ⟨80,0,wkc j L fl { w with sh:=v }⟩=wR H i j L fl { w with sh:=v }
 sk:∀ w v,(wR H i j L fl w).set i ⟨80,0,wkc j L fl { w with sk:=v }⟩=wR H i j L fl { w with sk:=v }
end Go.Proofs.YtjgmdlcjbgiekaaGreatDoor.Sc
namespace Go.Proofs.YtjgmdlcjbgiekaaGreatDoor.Sc
set_option linter.all false
open Pm Ty Go.RowKit
theorem WkOk.mono {w:Wk} {m n:Nat} (h:WkOk w m) (hm:m≤n):WkOk w n:=⟨h.sq,by have:=h.n;omega,h.sh,h.no,h.new,h.wt⟩
theorem zkc (H:za):CallOk Tryz.prog 11 [] H (.bool true) H:=CallOk.evalT 1000000 (by kernel_rfl)
theorem zwr {l:List It} (h:ltB l=true):l.length≤60:=by
 unfold ltB at h
 rw [Bool.and_eq_true,decide_eq_true_eq] at h
 exact h.1
end Go.Proofs.YtjgmdlcjbgiekaaGreatDoor.Sc
