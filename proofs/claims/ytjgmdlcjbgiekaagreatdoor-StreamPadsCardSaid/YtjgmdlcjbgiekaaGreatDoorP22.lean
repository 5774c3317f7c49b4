/-
  Parts of the proof, put together in one text. No condition.
-/
import Derived.Test.YtjgmdlcjbgiekaaGreatDoorP21
import Derived.LaidMore
import Derived.MakeChecks
import Derived.LaidHandle
import Derived.FnData
namespace Go.Proofs.YtjgmdlcjbgiekaaGreatDoor.Sc
set_option linter.all false
open Pm Ty Go.RowKit
theorem _root_.Go.Proofs.YtjgmdlcjbgiekaaGreatDoor.Pm.YldOk.introN {P:Program} {H:za} {N l id e ver:Nat} {us:List Value} {fs:List PV} {r:Loop} {p:Nat} {x:PV} {G:Fr} {H':za} (hN:us.length=N) (hr1:r.tmps=us.toArray) (hr2:r.state= .ready) (hr3:r.pending=none) (hps:r.params= #[p]) (hp:p<N)
  (hG:∀ t,slot G t= .undef∨(t<N∧fs[t]? =some (slot G t))) (hid:H[id]? =some ⟨e,ver,[.lp l (.loop r)]⟩)
  (h:PWr P ⟨N,H⟩ l r.assign ((p,x)::G) H (ziS P ⟨N,H⟩ (zkA H H' id e ver l r) id e ver l r)):YldOk P (.yl l us fs) [x] H (.bool true) H':=by
 subst hN
 exact YldOk.intro hr1 hr2 hr3 hps hp hG hid h
theorem zqe (L:List It) (hL:∀ x∈L,SqOk x.s):∀ (r:List It) (k:Nat) (a:As) (d:Dp),L.drop k=r→AsOk L a→DpG d k→k≤L.length→DpG (dpN L a d k r) L.length
 | [],k,a,d,hr,_,hd,hk=>hd.mono hk
 | x::r,k,a,d,hr,ha,hd,hk=>by
  obtain ⟨hkl,hx,hr2⟩:=zjM hr
  obtain ⟨g1,g2⟩:=zl6 L hL a k hkl ha
  have e:dpN L a d k (x::r)=dpN L (a.item L k x).1 (d.stepO (a.item L k x).2) ((k+1:Nat):Int) r:=rfl
  rw [e,←hx]
  refine zqe L hL r (k+1) _ _ hr2 g1 ?_ (by omega)
  generalize a.item L k L[k]=q at *
  obtain ⟨a',o⟩:=q
  cases o with
  | none=>exact hd.mono (by omega)
  | some f=>exact zod hd (g2 f rfl)
theorem ztr:DpG dp0 0:=⟨⟨by simp [dp0],by simp [dp0],by simp [dp0],by simp [dp0],by simp [dp0],by simp [dp0],by simp [dp0]⟩,by simp [dp0]⟩
theorem zqE (L:List It):AsOk L (as0 sq0):=⟨⟨by decide,by decide,by decide,by decide,by decide,by decide,rfl,rfl⟩,.inl rfl,by decide⟩
set_option maxHeartbeats 8000000 in
set_option maxRecDepth 100000 in
theorem zq8 (L:List It) (fl:Bool) (hL:∀ x∈L,SqOk x.s) (hn:L.length≤800000) (H:za):CallOk Tryz.prog 26 [.slice (itL L) L.length fl] H (.slice ((zbj L).flatMap zF) (zbj L).length false) H:=by
 have fo:=fun K=>znm L fl K
 refine CallOk.bodyM (F0:=[(0,.slice (itL L) L.length fl)]) Tryz.func26 rfl Tryz.ntmps26 Tryz.results26 rfl (by kernel_rfl) rfl ?_
 (repeat refine PWM.seq ?_);refine PWM.rg rfl rfl fun K hK=> ?_
 simp (maxSteps:=3000000) (disch:=omega) only [go_sem,↓reduceIte,reduceCtorEq]
 refine hK _ _ ?_;clear hK K
 (repeat refine PWM.seq ?_);refine PWM.rg rfl rfl fun K hK=> ?_
 simp (maxSteps:=3000000) (disch:=omega) only [go_sem,↓reduceIte,reduceCtorEq]
 refine hK _ _ ?_;clear hK K
 refine PWM.view (Vs.ghostH (id:=H.length) (j:=0) 74 147 (hp0 _ _ _) rfl) ?_
 refine PWM.at [0,3] (?_:PWM _ _ _ _ [(0,.slice (itL L) L.length fl),(3,.ptr H.length 0 0)] (H++[dpB (H.length+1) dp0,enB []]) _) rfl (by simp [dpB,enB,dp0])
 (repeat refine PWM.seq ?_);refine PWM.rg rfl rfl fun K hK=> ?_
 simp (maxSteps:=3000000) (disch:=omega) only [go_sem,↓reduceIte,reduceCtorEq]
 refine VCx.call (fo _) rfl ?_;simp (maxSteps:=3000000) (disch:=omega) only [go_sem,↓reduceIte,reduceCtorEq];refine hK _ _ ?_;clear hK K
 refine PWM.at [3,7] (?_:PWM _ _ _ _ [(3,.ptr H.length 0 0),(7,.func 109 [] [.ptr (H.length+2) 0 0])] (H++[dpB (H.length+1) dp0,enB [],⟨22,0,[.slice (itL L) L.length fl]⟩]) _) rfl (by simp)
 (repeat refine PWM.seq ?_);refine PWM.block ?_
 refine PWM.range rfl fun fn us b hus=> ?_
 generalize hob:Obj.loop (zeX fn us _ _ _ b)=ob
 have e1:H++[dpB (H.length+1) dp0,enB [],⟨22,0,[.slice (itL L) L.length fl]⟩]++[⟨0,0,[.lp b (.deferred (some []))]⟩,⟨0,0,[.lp (b+1) ob]⟩]=kH H L fl b ob dp0:=by simp [kH,kx,dp0]
 have e2:(H++[dpB (H.length+1) dp0,enB [],⟨22,0,[.slice (itL L) L.length fl]⟩]).length=H.length+3:=by simp
 rw [e2]
 unfold lpB
 rw [hob,e1]
 have hfin:=fun o d=>zpK H L fl b ob o d []
 simp only [List.append_nil] at hfin
 have hg:=fun d=>zdk H L fl b ob d []
 simp only [List.append_nil] at hg
 refine ⟨.tup [],kH H L fl b ob (dpN L (as0 sq0) dp0 0 L),zr2 L fl hL hn H b ob _ (.yl fun j x hx=> ?_) dp0 ⟨⟨by simp [dp0],by simp [dp0],by simp [dp0],by simp [dp0],by simp [dp0],by simp [dp0],by simp [dp0]⟩,by simp [dp0]⟩ fun d f X hd hf=> ?_,hg _ 3 (by omega),hg _ 4 (by omega),fun o=> ?_⟩
 ·have hx:=List.mem_of_getElem? hx
  obtain ⟨t,_,rfl⟩:=List.mem_map.1 hx
  have:Scoped (H.length+5) (slot [(3,.ptr H.length 0 0),(7,.func 109 [] [.ptr (H.length+2) 0 0])] t):=by
   simp only [slot]
   split
   ·exact .ptr (by omega)
   ·split
    ·exact .func (fun j x hx=>by simp at hx) (fun j x hx=>by
      have hx:=List.mem_of_getElem? hx
      rw [List.mem_singleton] at hx;rw [hx];exact .ptr (by omega))
    ·exact .undef
  exact this
 ·have hf1:=hf.1.toL
  have f0:=zbU f hf1
  have f1:=zb5 f
  have f2:=zuK f hf1
  have f3:=zuL f hf1
  have f4:List.take 145 (zC f)=zC f:=List.take_of_length_le (by omega)
  obtain ⟨Y,hY⟩:∃ Y:Obj→Dp→za,∀ ob d,kH H L fl b ob d++X=Y ob d:=⟨_,fun _ _=>rfl⟩
  have yl:∀ ob d,(Y ob d).length=H.length+5+X.length:=fun ob d=>by rw [←hY,List.length_append,zcS]
  have yd:∀ ob d,DpH (Y ob d) H.length (H.length+1) d:=fun ob d=>by rw [←hY];exact ztj H L fl b ob d X
  have yt:∀ ob d d',tw (Y ob d) H.length (H.length+1) (dpB (H.length+1) d') (enB d'.en)=Y ob d':=fun ob d d'=>by rw [←hY,←hY];exact zpJ H L fl b ob d d' X
  have hid:∀ ob d,(Y ob d)[H.length+4]? =some ⟨0,0,[.lp (b+1) ob]⟩:=fun ob d=>by rw [←hY];exact kH_l H L fl b ob d X
  have hset:∀ ob ob' d,(Y ob d).set (H.length+4) ⟨0,0,[.lp (b+1) ob']⟩=Y ob' d:=fun ob ob' d=>by rw [←hY,←hY];exact zpK H L fl b ob ob' d X
  have ysc:∀ ob d d',HSc (Y ob d)→HSc (Y ob d'):=fun ob d d' h=>by rw [←hY] at h ⊢;exact zpL h
  have ys0:∀ ob d d' K,d'.en=d.en→(Y ob d++K).set H.length (dpB (H.length+1) d')=Y ob d'++K:=fun ob d d' K he=>by
   have h1:=yt ob d d'
   unfold tw at h1
   rw [he,zdT (by rw [List.getElem?_set_ne (by omega)];exact (yd ob d).gj)] at h1
   rw [List.set_append_left _ _ (by rw [yl];omega),h1]
  rw [hY,hY]
  clear hY
  subst hob
  refine YldOk.introN (G:=[(3,.ptr H.length 0 0)]) hus rfl rfl rfl rfl (by show 8<26;omega) (fun t=> ?_) (hid _ _) ?_
  ·by_cases ht:t=3
   ·subst ht;exact .inr ⟨by show 3<26;omega,rfl⟩
   ·refine .inl ?_
    simp only [slot]
    split
    ·rename_i h;exact absurd (Nat.eq_of_beq_eq_true h).symm ht
    ·rfl
  refine PWr.rg rfl rfl (fun _ _ h=>h) fun K hK=> ?_
  simp (maxSteps:=3000000) (disch:=omega) only [go_sem,↓reduceIte,reduceCtorEq,f0,f1]
  refine hK _ _ ?_;clear hK K
  refine ⟨by rw [List.getElem?_append_left (by rw [yl];omega)];exact hid _ _,?_⟩
  rw [List.set_append_left _ _ (by rw [yl];omega),hset]
  generalize hbs:Obj.loop { zeX fn us _ _ _ b with state:=.busy }=bs at *
  generalize hrd:Obj.loop (zeX fn us _ _ _ b)=rd at *
  refine PWr.block ?_
  have yF:∀ d',(Y bs d'++[⟨123,0,zC f⟩])[H.length+5+X.length]? =some ⟨123,0,zC f⟩:=fun d'=>by rw [←yl bs d'];simp
  have yD:∀ d' K,DpH (Y bs d'++K) H.length (H.length+1) d':=fun d' K=>⟨by rw [List.getElem?_append_left (by rw [yl];omega)];exact (yd bs d').gi,by rw [List.getElem?_append_left (by rw [yl];omega)];exact (yd bs d').gj,by omega⟩
  have yT:∀ d' d'' K,tw (Y bs d'++K) H.length (H.length+1) (dpB (H.length+1) d'') (enB d''.en)=Y bs d''++K:=fun d' d'' K=>by rw [zhU _ _ _ _ _ _ (by rw [yl];omega) (by rw [yl];omega),yt]
  have yG:∀ d' K,(Y bs d'++K)[H.length]? =some ⟨118,0,[.msl (H.length+1) (d'.en.length * 147) 0 d'.en.length 147 true,.int .i64 d'.old,.int .i64 d'.new,.bool d'.wt,.int .i64 d'.lk,.int .i64 d'.sh]⟩:=fun d' K=>(yD d' K).gi
  have ySs:∀ d' K B,((Y bs d'++K).set H.length B)[H.length]? =some B:=fun d' K B=>by rw [List.getElem?_set_self (by rw [List.length_append,yl];omega)]
  refine PWr.at [3,4] (?_:PWr _ _ _ _ [(3,.ptr H.length 0 0),(4,.ptr (H.length+5+X.length) 0 0)] _ _) (by rw [←yl rd d];rfl) rfl
  refine PWr.seq_to [3,4] [(3,.ptr H.length 0 0),(4,.ptr (H.length+5+X.length) 0 0)] (Y bs (d.res f.rs)++[⟨123,0,zC f⟩]) ?_ ?_
  ·(repeat refine PWr.seq ?_);refine PWr.rg rfl rfl (fun _ _ h=>h) fun K hK=> ?_
   simp (maxSteps:=3000000) (disch:=omega) only [go_sem,↓reduceIte,reduceCtorEq,yF,f0,f2]
   refine hK _ _ ?_;clear hK K
   refine PWr.cond (t:=f.rs) rfl (fun h=> ?_) (fun h=> ?_)
   ·have fo:=zgX d H.length (H.length+1) _ (yD d [⟨123,0,zC f⟩]) (hd.mono (by omega))
    rw [yT] at fo
    (repeat refine PWr.seq ?_);refine PWr.rg rfl rfl (fun _ _ h=>h) fun K hK=> ?_
    simp (maxSteps:=3000000) (disch:=omega) only [go_sem,↓reduceIte,reduceCtorEq]
    refine VCx.call (fo) rfl ?_;simp (maxSteps:=3000000) (disch:=omega) only [go_sem,↓reduceIte,reduceCtorEq];refine hK _ _ ?_;clear hK K
    (repeat refine PWr.seq ?_);refine PWr.rg rfl rfl (fun _ _ h=>h) fun K hK=> ?_
    simp (maxSteps:=3000000) (disch:=omega) only [go_sem,↓reduceIte,reduceCtorEq,yG,ySs,List.set_set]
    refine hK _ _ ?_;clear hK K
    refine ⟨rfl,?_⟩
    rw [h]
    exact ys0 bs d.flush { d.flush with old:= -1,new:= -1,lk:=0 } _ rfl
   ·refine PWr.skip ⟨rfl,?_⟩
    rw [h];rfl
  have g1:=zs9 hd f.rs
  have hstep:d.step f=((d.res f.rs).lnk f.lk).frame f:=rfl
  have hsc:=ysc rd d (d.step f)
  rw [hstep] at hsc ⊢
  generalize d.res f.rs=d1 at *
  refine PWr.seq_to [3,4] [(3,.ptr H.length 0 0),(4,.ptr (H.length+5+X.length) 0 0)] (Y bs (d1.lnk f.lk)++[⟨123,0,zC f⟩]) ?_ ?_
  ·(repeat refine PWr.seq ?_);refine PWr.rg rfl rfl (fun _ _ h=>h) fun K hK=> ?_
   simp (maxSteps:=3000000) (disch:=omega) only [go_sem,↓reduceIte,reduceCtorEq,yF,f0,f3]
   refine hK _ _ ?_;clear hK K
   refine PWr.cond (t:=f.lk != -1) rfl (fun h=> ?_) (fun h=> ?_)
   ·(repeat refine PWr.seq ?_);refine PWr.rg rfl rfl (fun _ _ h=>h) fun K hK=> ?_
    simp (maxSteps:=3000000) (disch:=omega) only [go_sem,↓reduceIte,reduceCtorEq,yF,yG,f0,f3]
    refine hK _ _ ?_;clear hK K
    refine ⟨rfl,?_⟩
    have hne:f.lk≠-1:=by simpa using h
    rw [show d1.lnk f.lk={ d1 with lk:=f.lk } by unfold Dp.lnk;rw [if_pos hne]]
    exact ys0 bs d1 { d1 with lk:=f.lk } _ rfl
   ·refine PWr.skip ⟨rfl,?_⟩
    have hne:¬ f.lk≠-1:=by simpa using h
    rw [show d1.lnk f.lk=d1 by unfold Dp.lnk;rw [if_neg hne]]
  have g2:=zti g1 f.lk hf.2
  generalize d1.lnk f.lk=d2 at *
  have fo:=zst d2 f H.length (H.length+1) _ (yD d2 [⟨123,0,zC f⟩]) (g2.mono (by omega)) hf1
  rw [yT] at fo
  (repeat refine PWr.seq ?_);refine PWr.rg rfl rfl (fun _ _ h=>h) fun K hK=> ?_
  simp (maxSteps:=3000000) (disch:=omega) only [go_sem,↓reduceIte,reduceCtorEq,yF,f0,f4]
  refine VCx.call (fo) rfl ?_;simp (maxSteps:=3000000) (disch:=omega) only [go_sem,↓reduceIte,reduceCtorEq];refine hK _ _ ?_;clear hK K
  refine ⟨by rw [List.getElem?_append_left (by rw [yl];omega),hbs];exact hid _ _,?_⟩
  rw [hrd,List.set_append_left _ _ (by rw [yl];omega),hset]
  exact Fin.cut rfl (by rw [yl,yl]) hsc (.id (.bool _))
 ·rw [hfin]
  have hstru:zbj L=(dpN L (as0 sq0) dp0 0 L).flush.en:=rfl
  have hG:=zqe L hL L 0 (as0 sq0) dp0 rfl (zqE L) ztr (Nat.zero_le _)
  have hfl:=(zey hG).1
  have hd0:=ztj H L fl b o (dpN L (as0 sq0) dp0 0 L) []
  have ht:=zpJ H L fl b o (dpN L (as0 sq0) dp0 0 L) (dpN L (as0 sq0) dp0 0 L).flush []
  simp only [List.append_nil] at hd0 ht
  have fo:=zgX _ H.length (H.length+1) _ hd0 (hG.mono (by omega))
  rw [ht] at fo
  have hgd:=fun d=>zdk H L fl b o d [] 0 (by omega)
  have hge:=fun d=>zdk H L fl b o d [] 1 (by omega)
  have hgq:=fun d=>zdk H L fl b o d [] 3 (by omega)
  simp only [List.append_nil,Nat.add_zero,List.getElem?_cons_zero,List.getElem?_cons_succ,kx] at hgd hge hgq
  unfold dpB at hgd
  refine PWM.at [3] (?_:PWM _ _ _ _ [(3,.ptr H.length 0 0)] _ _) rfl rfl
  (repeat refine PWM.seq ?_);refine PWM.rg rfl rfl fun K hK=> ?_
  simp (maxSteps:=3000000) (disch:=omega) only [go_sem,↓reduceIte,reduceCtorEq]
  refine VCx.call (fo) rfl ?_;simp (maxSteps:=3000000) (disch:=omega) only [go_sem,↓reduceIte,reduceCtorEq];refine hK _ _ ?_;clear hK K
  rw [hstru]
  generalize (dpN L (as0 sq0) dp0 0 L).flush=d at *
  (repeat refine PWM.seq ?_);refine PWM.rg rfl rfl fun K hK=> ?_
  simp (maxSteps:=3000000) (disch:=omega) only [go_sem,↓reduceIte,reduceCtorEq,hgd]
  refine hK _ _ ?_;clear hK K
  refine PWM.ret ⟨b,H.length+3,.msl (H.length+1) (d.en.length * 147) 0 d.en.length 147 true,rfl,hgq d,rfl,?_⟩
  have hcut:(kH H L fl b o d).set (H.length+3) ⟨0,0,[.lp b (.deferred none)]⟩=H++(dpB (H.length+1) d::enB d.en::[⟨22,0,[.slice (itL L) L.length fl]⟩,⟨0,0,[.lp b (.deferred none)]⟩,⟨0,0,[.lp (b+1) o]⟩]):=by
   unfold kH
   rw [zh1]
   rfl
  rw [hcut]
  refine Fin.base (Fz.mslC (e:=74) (xs:=d.en.flatMap zF) (by omega) ?_ ?_ (FzC.refl (zcX _ _)))
  ·rw [List.getElem?_append_right (by omega),Nat.add_sub_cancel_left];rfl
  ·rw [zg1 hfl.ok.sq]
def enR (e:En):List PV:=[.int .i64 e.f,.int .i64 e.l,.int .i64 e.ty,.int .i64 e.pa,.int .i64 e.fu,.int .i64 e.sh]
def wtl (j:Nat) (w:Wk):List PV:=[.int .i64 w.old,.int .i64 w.new,.bool w.wt,.int .i64 w.op,.int .i64 w.no,.int .i64 w.sh,.msl j (w.out.length * 6) 0 w.out.length 6 true,.bool w.sk]
def wkc (j:Nat) (L:List It) (fl:Bool) (w:Wk):List PV:=.slice (itL L) L.length fl:: .bool w.hd::(sqc w.sq++wtl j w)
def wkB (j:Nat) (L:List It) (fl:Bool) (w:Wk):Blk:=⟨80,0,wkc j L fl w⟩
def woB (o:List En):Blk:=⟨83,o.length * 6,o.flatMap enR⟩
section
variable {j:Nat} {L:List It} {fl:Bool}
structure WkG (j:Nat) (L:List It) (fl:Bool) (w:Wk):Prop where
 ln:(wkc j L fl w).length=145
 lL:(wkc j L fl w)[0]? =some (.slice (itL L) L.length fl)
 hd:(wkc j L fl w)[1]? =some (.bool w.hd)
 sq:List.take 135 (List.drop 2 (wkc j L fl w))=sqc w.sq
 old:(wkc j L fl w)[137]? =some (.int .i64 w.old)
 new:(wkc j L fl w)[138]? =some (.int .i64 w.new)
 wt:(wkc j L fl w)[139]? =some (.bool w.wt)
 op:(wkc j L fl w)[140]? =some (.int .i64 w.op)
 no:(wkc j L fl w)[141]? =some (.int .i64 w.no)
 sh:(wkc j L fl w)[142]? =some (.int .i64 w.sh)
 out:(wkc j L fl w)[143]? =some (.msl j (w.out.length * 6) 0 w.out.length 6 true)
 sk:(wkc j L fl w)[144]? =some (.bool w.sk)
structure WkS (j:Nat) (L:List It) (fl:Bool) (w:Wk):Prop where
 hd:∀ v,(wkc j L fl w).set 1 (.bool v)=wkc j L fl { w with hd:=v }
 old:∀ v,(wkc j L fl w).set 137 (.int .i64 v)=wkc j L fl { w with old:=v }
 new:∀ v,(wkc j L fl w).set 138 (.int .i64 v)=wkc j L fl { w with new:=v }
 wt:∀ v,(wkc j L fl w).set 139 (.bool v)=wkc j L fl { w with wt:=v }
 op:∀ v,(wkc j L fl w).set 140 (.int .i64 v)=wkc j L fl { w with op:=v }
 no:∀ v,(wkc j L fl w).set 141 (.int .i64 v)=wkc j L fl { w with no:=v }
 sh:∀ v,(wkc j L fl w).set 142 (.int .i64 v)=wkc j L fl { w with sh:=v }
 sk:∀ v,(wkc j L fl w).set 144 (.bool v)=wkc j L fl { w with sk:=v }
end
structure WkH (H:za) (i j:Nat) (L:List It) (fl:Bool) (w:Wk):Prop where
 gi:H[i]? =some (wkB j L fl w)
 gj:H[j]? =some (woB w.out)
 ne:i≠j
structure WkOk (w:Wk) (m:Nat):Prop where
 sq:SqOk w.sq
 n:w.out.length≤m
 sh:0≤w.sh∧w.sh+(if w.wt then 1 else 0)≤w.out.length
 no:0≤w.no∧w.no≤2
 new: -1≤w.new∧w.new<w.out.length
 wt:w.wt=true→0≤w.new
def wR (H:za) (i j:Nat) (L:List It) (fl:Bool) (w:Wk):za:=tw H i j (wkB j L fl w) (woB w.out)
structure WrT (H:za) (i j:Nat) (L:List It) (fl:Bool):Prop where
 gi:∀ w,(wR H i j L fl w)[i]? =some ⟨80,0,wkc j L fl w⟩
 gj:∀ w,(wR H i j L fl w)[j]? =some ⟨83,w.out.length * 6,w.out.flatMap enR⟩
 hd:∀ w v,(wR H i j L fl w).set i ⟨80,0,wkc j L fl { w with hd:=v }⟩=wR H i j L fl { w with hd:=v }
 old:∀ w v,(wR H i j L fl w).set i ⟨80,0,wkc j L fl { w with old:=v }⟩=wR H i j L fl { w with old:=v }
 new:∀ w v,(wR H i j L fl w).set i ⟨80,0,wkc j L fl { w with new:=v }⟩=wR H i j L fl { w with new:=v }
 wt:∀ w v,(wR H i j L fl w).set i ⟨80,0,wkc j L fl { w with wt:=v }⟩=wR H i j L fl { w with wt:=v }
 op:∀ w v,(wR H i j L fl w).set i ⟨80,0,wkc j L fl { w with op:=v }⟩=wR H i j L fl { w with op:=v }
 no:∀ w v,(wR H i j L fl w).set i ⟨80,0,wkc j L fl { w with no:=v }⟩=wR H i j L fl { w with no:=v }
 sh:∀ w v,(wR H i j L fl w).set i ⟨80,0,wkc j L fl { w with sh:=v }⟩=wR H i j L fl { w with sh:=v }
 sk:∀ w v,(wR H i j L fl w).set i ⟨80,0,wkc j L fl { w with sk:=v }⟩=wR H i j L fl { w with sk:=v }
end Go.Proofs.YtjgmdlcjbgiekaaGreatDoor.Sc
namespace Go.Proofs.YtjgmdlcjbgiekaaGreatDoor.Sc
set_option linter.all false
open Pm Ty Go.RowKit
theorem WkOk.mono {w:Wk} {m n:Nat} (h:WkOk w m) (hm:m≤n):WkOk w n:=⟨h.sq,by have:=h.n;omega,h.sh,h.no,h.new,h.wt⟩
theorem zqy (H:za):CallOk Tryz.prog 11 [] H (.bool true) H:=CallOk.evalT 1000000 (by kernel_rfl)
theorem lt60 {l:List It} (h:ltB l=true):l.length≤60:=by
 unfold ltB at h
 rw [Bool.and_eq_true,decide_eq_true_eq] at h
 exact h.1
def shc (x:Sho):List PV:=fmc x.fr++[.int .i64 x.f,.int .i64 x.l,.int .i64 x.ty,.bool x.ok,.int .i64 x.fi,.bool x.tf]
theorem zh0 (x:Sho):(shc x).length=11:=rfl
theorem zjm (x:Sho):(shc x).all PV.cell=true:=rfl
theorem zou (n:Nat) (x:Sho):∀ y∈shc x,Scoped n y:=fun y hy=>by
 rcases List.mem_append.1 hy with hy|hy
 ·exact za5 _ _ _ _ _ _ _ _ _ _ _ _ y hy
 ·simp only [List.mem_cons,List.not_mem_nil,or_false] at hy
  rcases hy with rfl|rfl|rfl|rfl|rfl|rfl<;>first|exact .int _ _|exact .bool _
def shL (l:List Sho):List PV:=l.flatMap shc
theorem zfN (l:List Sho):(shL l).length=l.length * 11:=zaF shc 11 l fun _ _=>rfl
theorem zow (l:List Sho) (k:Nat) (hk:k<l.length):List.take 11 (List.drop (k * 11) (shL l))=shc l[k]:=zch shc 11 l k hk fun _ _=>rfl
theorem zov (n:Nat) (l:List Sho):∀ x∈shL l,Scoped n x:=fun x hx=>by
 obtain ⟨u,_,hx⟩:=List.mem_flatMap.1 hx
 exact zou _ _ x hx
theorem zj1 {α:Type} (enc:α→List PV) (N:Nat) (v:α):∀ (l:List α) (k:Nat),k<l.length→(∀ x∈l,(enc x).length=N)→(enc v).length=N→zN (l.flatMap enc) (k * N) (enc v)=(l.set k v).flatMap enc
 | [],k,hk,_,_=>by simp at hk
 | a::r,0,_,h,hv=>by
  unfold zN
  rw [Nat.zero_mul,List.take_zero,List.nil_append,Nat.zero_add,hv,List.flatMap_cons,List.set_cons_zero,List.flatMap_cons,List.drop_left' (h a (List.mem_cons_self ..))]
 | a::r,k+1,hk,h,hv=>by
  have ih:=zj1 enc N v r k (by simpa using hk) (fun x hx=>h x (List.mem_cons_of_mem _ hx)) hv
  have ha:=h a (List.mem_cons_self ..)
  unfold zN at ih ⊢
  have e:(k+1) * N=(enc a).length+k * N:=by rw [ha,Nat.add_mul,Nat.one_mul,Nat.add_comm]
  rw [List.flatMap_cons,e,List.take_append,Nat.add_sub_cancel_left,List.take_of_length_le (by omega),Nat.add_assoc,←List.drop_drop,List.drop_left,List.append_assoc,List.append_assoc,←List.append_assoc (List.take _ _),ih,List.set_cons_succ,List.flatMap_cons]
theorem zrh (l:List Sho) (k:Nat) (x:Sho) (hk:k<l.length):zN (shL l) (k * 11) (shc x)=shL (l.set k x):=zj1 shc 11 x l k hk (fun _ _=>rfl) rfl
def zsh:List PV:=[.int .i64 0,.int .i64 0,.slice [] 0 true,.slice [] 0 true,.slice [] 0 true,.int .i64 0,.int .i64 0,.int .i64 0,.bool false,.int .i64 0,.bool false]
theorem znA (n:Nat) (H:za):FzC n H zsh (shc zjl):=⟨.id (.int _ _),.id (.int _ _),Fz.sliceC (xs:=[]) (ys:=[]) trivial (fun h=>by cases h),Fz.sliceC (xs:=[]) (ys:=[]) trivial (fun h=>by cases h),Fz.sliceC (xs:=[]) (ys:=[]) trivial (fun h=>by cases h),.id (.int _ _),.id (.int _ _),.id (.int _ _),.id (.bool _),.id (.int _ _),.id (.bool _),trivial⟩
theorem zlq (n:Nat) (H:za):∀ k:Nat,FzC n H ((List.replicate k zsh).flatten) (shL (List.replicate k zjl))
 | 0=>trivial
 | k+1=>by
  rw [List.replicate_succ,List.replicate_succ,List.flatten_cons]
  exact FzC.append (znA n H) (zlq n H k)
theorem zro (S:List Ent) (out:List Sho) (n:Int) (i j o:Nat) (K:za) (hi:K[i]? =some ⟨49,0,[.msl o 0 0 out.length 11 true]⟩) (hj:K[j]? =some ⟨68,0,[.slice (S.flatMap zF) S.length false]⟩) (ho:K[o]? =some ⟨53,0,shL out⟩)
  (hsq:∀ e∈S,SqL e.2.1) (hn:n<S.length) (hs:∀ (j:Nat) (e:Ent),S[j]? =some e→0≤e.1.sh∧e.1.sh<out.length):CallOk Tryz.prog 44 [.int .i64 n,.ptr i 0 0,.ptr j 0 0] K (.agg (shc (zrq S out n))) K:=by
 have hi':∀ X,(K++X)[i]? =some ⟨49,0,[.msl o 0 0 out.length 11 true]⟩:=fun X=>by rw [List.getElem?_append_left (List.getElem?_eq_some_iff.1 hi).1];exact hi
 have hj':∀ X,(K++X)[j]? =some ⟨68,0,[.slice (S.flatMap zF) S.length false]⟩:=fun X=>by rw [List.getElem?_append_left (List.getElem?_eq_some_iff.1 hj).1];exact hj
 have ho':∀ X,(K++X)[o]? =some ⟨53,0,shL out⟩:=fun X=>by rw [List.getElem?_append_left (List.getElem?_eq_some_iff.1 ho).1];exact ho
 unfold zrq
 refine CallOk.body (F0:=[(0,.int .i64 n),(1,.ptr i 0 0),(2,.ptr j 0 0)]) Tryz.func44 rfl Tryz.ntmps44 Tryz.results44 rfl (by kernel_rfl) rfl ?_
 refine PW.e ?_
 refine PW.e ?_
 by_cases h0:n<0
 ·rw [if_pos h0]
  (repeat refine PW.seq ?_);refine PW.cond (t:=_) rfl (fun h=> ?_) (fun h=> ?_)
  rotate_left
  ·exact absurd h0 (of_decide_eq_false h)
  refine PW.e ?_
  refine PW.ret ⟨.agg zsh,by simp (maxSteps:=3000000) (disch:=omega) only [go_sem,↓reduceIte,reduceCtorEq,zd,zg,List.mapM_cons,List.mapM_nil,Option.pure_def,Option.bind_eq_bind,Option.bind_some,Array.toList,zsh],?_⟩
  exact Fin.base (Fz.aggC (znA _ _))
 ·rw [if_neg h0]
  obtain ⟨m,rfl⟩:∃ m:Nat,n=(m:Int):=⟨n.toNat,by omega⟩
  have hm:m<S.length:=by omega
  have e1:=List.getElem?_eq_getElem hm
  rw [Int.toNat_natCast,e1]
  dsimp only
  have hsh:=hs m _ e1
  have g5:(S.flatMap zF)[m * 147+5]? =some (.int .i64 S[m].1.sh):=zeA zF 147 S m 5 hm (fun e he=>zb6 e (hsq e he)) (by omega)
  have ln:=zg1 hsq
  generalize S[m]=e at *
  obtain ⟨q,hq⟩:∃ q:Nat,e.1.sh=(q:Int):=⟨e.1.sh.toNat,by omega⟩
  rw [hq] at g5 hsh ⊢
  have hql:q<out.length:=by omega
  have e2:=List.getElem?_eq_getElem hql
  rw [Int.toNat_natCast,e2,Option.getD_some]
  have g6:=zow out q hql
  have l2:=zfN out
  generalize out[q]=x at *
  (repeat refine PW.seq ?_);refine PW.cond (t:=_) rfl (fun h=> ?_) (fun h=> ?_)
  ·exact absurd (of_decide_eq_true h) h0
  refine PW.skip ?_
  (repeat refine PW.seq ?_);refine PW.drawt [] [] mix (by kernel_rfl) fun K hK=> ?_
  simp (maxSteps:=3000000) (disch:=omega) only [go_sem,↓reduceIte,reduceCtorEq,hi',hj',ho',g5,g6,ln,l2]
  refine hK _ _ ?_;clear hK K
  refine PW.ret ⟨.agg (shc x),by simp (maxSteps:=3000000) (disch:=omega) only [go_sem,↓reduceIte,reduceCtorEq,zd,zg,List.mapM_cons,List.mapM_nil,Option.pure_def,Option.bind_eq_bind,Option.bind_some,Array.toList,zh0,show List.take 11 (shc x)=shc x from rfl],?_⟩
  exact Fin.base (.id (zB (zou _ x)))
theorem zql {L:List It} (hL:∀ x∈L,SqOk x.s):∀ n,n≤L.length→SqOk (cur L n)
 | 0,_=>by
  show SqOk sq0
  exact ⟨by decide,by decide,by decide,by decide,by decide,by decide,rfl,rfl⟩
 | n+1,h=>by
  rw [zg4 (show n<L.length by omega)]
  split
  ·exact hL _ (List.getElem_mem _)
  ·exact zql hL n (by omega)
theorem zq7 {L:List It} (hL:∀ x∈L,SqOk x.s) {j:Nat} {e:Ent} (he:(zbj L)[j]? =some e):SqOk e.2.1:=by
 obtain ⟨n,m,hn,hm,_,_,_,_,_,_,h,_⟩:=((zgj L).e j e he).1
 rw [h];exact zql hL n (by omega)
theorem zoa {L:List It} (hL:∀ x∈L,SqOk x.s):(zbj L).length≤L.length:=(zey (zqe L hL L 0 (as0 sq0) dp0 rfl (zqE L) ztr (Nat.zero_le _))).1.ok.n
def dH (H:za) (S:List Ent) (out:List Sho):za:=H++[⟨68,0,[.slice (S.flatMap zF) S.length false]⟩,⟨53,0,shL out⟩,⟨49,0,[.msl (H.length+1) 0 0 S.length 11 true]⟩]
theorem zpS (H:za) (S:List Ent) (out:List Sho) (h:HSc H):HSc (dH H S out):=ziz (fun b hb x hx=>by
 simp only [List.mem_cons,List.not_mem_nil,or_false] at hb
 rcases hb with rfl|rfl|rfl
 ·rw [List.mem_singleton] at hx
  rw [hx];exact zr fun x hx=>zcX _ _ x hx
 ·exact zov _ _ x hx
 ·rw [List.mem_singleton] at hx
  rw [hx];exact .msl (by simp)) h
theorem zm7 {L:List It} {j:Nat} {e:Ent} (h:EOk L j e):∃ (n m:Nat),e.1.f=(n:Int)∧e.1.l=(m:Int)∧n≤m∧m≤n+1∧m<L.length∧(zc5 L e).length=m+1 - n∧∀ i,i<m+1 - n→∃ x,L[n+i]? =some x∧(zc5 L e)[i]? =some (zd4 x):=by
 obtain ⟨⟨n,m,hn,hm,e1,e2,e3,_⟩,_⟩:=h
 have hml:m=n∨m=n+1:=by
  rcases e3 with h|h
  ·exact .inl h.1
  ·exact .inr h.1
 refine ⟨n,m,e1,e2,by omega,by omega,hm,?_,fun i hi=> ?_⟩
 ·unfold zc5
  rw [e1,e2,Int.toNat_natCast,Int.toNat_natCast,List.length_map,List.length_take,List.length_drop]
  omega
 ·refine ⟨L[n+i]'(by omega),List.getElem?_eq_getElem _,?_⟩
  unfold zc5
  rw [e1,e2,Int.toNat_natCast,Int.toNat_natCast,List.getElem?_map,List.getElem?_take,if_pos hi,List.getElem?_drop,List.getElem?_eq_getElem (show n+i<L.length by omega)]
  rfl
theorem zuT (e:Ent) (h:SqL e.2.1):List.take 135 (List.drop 6 (zF e))=sqc e.2.1:=by
 show List.take 135 (sqc e.2.1++pic e.2.2)=_
 exact List.take_left' (zac _ h)
theorem zqc (e:Ent) (h:SqL e.2.1) (n:Nat):(zF e)[141+n]? =(pic e.2.2)[n]? :=by
 have e1:List.drop 141 (zF e)=pic e.2.2:=by
  show List.drop 135 (sqc e.2.1++pic e.2.2)=_
  exact List.drop_left' (zac _ h)
 rw [←List.getElem?_drop,e1]
set_option maxHeartbeats 16000000 in
set_option maxRecDepth 100000 in
theorem zfy (L:List It) (fl:Bool) (hL:∀ x∈L,SqOk x.s) (hc:∀ x∈L,CdOk (zd4 x)) (hn:L.length≤800000) (H:za):CallOk Tryz.prog 17 [.slice (itL L) L.length fl] H (.slice (shL (zfj L)) (zfj L).length false) H:=by
 have so:=fun K=>zq8 L fl hL hn K
 have hI:=zgj L
 have hsq:=fun (j:Nat) (e:Ent) (he:(zbj L)[j]? =some e)=>zq7 hL he
 have hlen:=zoa hL
 have hdl:=zj7 L
 have hli:=zcg L hL
 unfold zfj at hdl ⊢
 generalize zbj L=S at *
 have hsl:∀ e∈S,SqL e.2.1:=fun e he=>by
  obtain ⟨j,hj⟩:=List.getElem?_of_mem he
  exact (hsq j e hj).toL
 have ln:=zg1 hsl
 have hz:(List.replicate S.length zsh).flatten=(List.replicate S.length zsh).flatten:=rfl
 refine CallOk.body (F0:=[(0,.slice (itL L) L.length fl)]) Tryz.func17 rfl Tryz.ntmps17 Tryz.results17 rfl (by kernel_rfl) rfl ?_
 refine PW.e ?_
 refine PW.f (fun K k=>by simp (maxSteps:=3000000) (disch:=omega) only [go_sem,↓reduceIte,reduceCtorEq];refine VCx.call (so _) rfl ?_;simp (maxSteps:=3000000) (disch:=omega) only [go_sem,↓reduceIte,reduceCtorEq];exact k) ?_
 refine PW.e ?_
 refine PW.e ?_
 refine PW.e ?_
 refine PW.at [0,4,5,22,23,24] (?_:PW _ _ _ [(0,.slice (itL L) L.length fl),(4,.ptr (H.length+2) 0 0),(5,.func 44 [] [.ptr (H.length+2) 0 0,.ptr H.length 0 0]),(22,.slice (S.flatMap zF) S.length false),(23,.int .i64 (S.length:Int)),(24,.int .i64 0)] (H++[⟨68,0,[.slice (S.flatMap zF) S.length false]⟩,⟨53,0,(List.replicate S.length zsh).flatten⟩,⟨49,0,[.msl (H.length+1) 0 0 S.length 11 true]⟩]) _) rfl rfl
 refine PW.view (Vs.cut (F1:=[(0,.slice (itL L) L.length fl),(4,.ptr (H.length+2) 0 0),(5,.func 44 [] [.ptr (H.length+2) 0 0,.ptr H.length 0 0]),(22,.slice (S.flatMap zF) S.length false),(23,.int .i64 (S.length:Int)),(24,.int .i64 0)]) (H1:=dH H S (zcn L S 0)) (by simp [dH]) (fun hs=> ?_) ?_) ?_
 ·have:=CutH.of (A:=H) (L:=[⟨68,0,[.slice (S.flatMap zF) S.length false]⟩,⟨53,0,(List.replicate S.length zsh).flatten⟩,⟨49,0,[.msl (H.length+1) 0 0 S.length 11 true]⟩]) (K:=[]) (L1:=[⟨68,0,[.slice (S.flatMap zF) S.length false]⟩,⟨53,0,shL (zcn L S 0)⟩,⟨49,0,[.msl (H.length+1) 0 0 S.length 11 true]⟩]) hs ⟨rfl,rfl,⟨.id (zr fun x hx=>zcX _ _ x hx),trivial⟩,rfl,rfl,zlq _ _ _,rfl,rfl,⟨.id (.msl (by simp)),trivial⟩,trivial⟩
  rw [List.append_nil] at this
  exact this
 ·have hl:(dH H S (zcn L S 0)).length=H.length+3:=by simp [dH]
  rw [hl]
  exact ⟨.id (zr (zcT _ _)),.id (.ptr (by omega)),.id (.func (fun j x hx=>by simp at hx) (fun j x hx=>by
   have hx:=List.mem_of_getElem? hx
   simp only [List.mem_cons,List.not_mem_nil,or_false] at hx
   rcases hx with rfl|rfl
   ·exact .ptr (by omega)
   ·exact .ptr (by omega))),.id (zr fun x hx=>zcX _ _ x hx),.id (.int _ _),.id (.int _ _),trivial⟩
 (repeat refine PW.seq ?_);refine PW.block (PW.loop ?_)
 suffices hl1:∀ k:Nat,k≤S.length→PL Tryz.prog _ _ [(0,.slice (itL L) L.length fl),(4,.ptr (H.length+2) 0 0),(5,.func 44 [] [.ptr (H.length+2) 0 0,.ptr H.length 0 0]),(22,.slice (S.flatMap zF) S.length false),(23,.int .i64 (S.length:Int)),(24,.int .i64 (k:Int))] (dH H S (zcn L S k)) _ by
  exact PL.at [0,4,5,22,23,24] (hl1 0 (by omega)) rfl rfl
 clear so
 refine cnt S.length (fun k hk ih=> ?_) ?_
 rotate_left
 ·refine PL.round ?_;refine PW.f (fun K k=>by simp (maxSteps:=3000000) (disch:=omega) only [go_sem,↓reduceIte,reduceCtorEq,zit S.length];exact k) ?_;(repeat refine PW.seq ?_);refine PW.cond (t:=_) rfl (fun h=> ?_) (fun h=> ?_)
  ·cases h
  refine PW.exit ?_
  refine PW.f (fun K k=>by simp (maxSteps:=3000000) (disch:=omega) only [go_sem,↓reduceIte,reduceCtorEq,dH];exact k) ?_
  refine PW.ret ⟨.msl (H.length+1) 0 0 S.length 11 true,by simp (maxSteps:=3000000) (disch:=omega) only [go_sem,↓reduceIte,reduceCtorEq,zd,zg,List.mapM_cons,List.mapM_nil,Option.pure_def,Option.bind_eq_bind,Option.bind_some,Array.toList],?_⟩
  have hon:=zcy L S S.length
  rw [hdl]
  exact Fin.base (Fz.mslC (e:=53) (xs:=shL (zcn L S S.length)) (by omega) (apn _ _ 1) (by rw [zfN,hon]) (FzC.refl (zov _ _)))
 have ct:=zgQ hk
 have he:=List.getElem?_eq_getElem hk
 have hE:=hI.e k _ he
 have hsE:=hsq k _ he
 have hshE:=hI.s k _ he
 have r1:=zlL hI (show k≤S.length by omega) (n:=S[k].1.pa) ⟨hE.2.2.1.1,hE.2.2.1.2⟩
 have r2:=zlL hI (show k≤S.length by omega) (n:=S[k].1.fu) ⟨hE.2.2.2.1.1,hE.2.2.2.1.2⟩
 have hol:=zcy L S k
 have ro:=fun (n:Int) (hn:n<S.length) K (h1) (h2) (h3)=>zro S (zcn L S k) n (H.length+2) H.length (H.length+1) K h1 h2 h3 hsl hn fun j e he=>by rw [hol];exact hI.s j e he
 have rA:=fun K h1 h2 h3=>ro S[k].1.pa (by have:=hE.2.2.1.2;omega) K h1 h2 h3
 have rB:=fun K h1 h2 h3=>ro S[k].1.fu (by have:=hE.2.2.2.1.2;omega) K h1 h2 h3
 rw [r1] at rA
 rw [r2] at rB
 clear ro r1 r2
 have ia:List.take 147 (List.drop (k * 147) (S.flatMap zF))=zF S[k]:=zch zF 147 S k hk fun e he=>zb6 e (hsl e he)
 rw [zcn,he] at ih
 dsimp only at ih
 rw [zv1] at ih
 obtain ⟨n,m,e1,e2,hnm,hm1,hmL,hPl,hPa⟩:=zm7 hE
 have hfr:=fun K=>zp0 S[k].2.1 (zc5 L S[k]) (zeg (dvN L S k) S[k].1.pa).fr (zeg (dvN L S k) S[k].1.fu).fr false hsE (fun c hcm=>by
  obtain ⟨i,hi⟩:=List.getElem?_of_mem hcm
  obtain ⟨x,hx,hx2⟩:=hPa i (by have:=(List.getElem?_eq_some_iff.1 hi).1;omega)
  rw [hx2] at hi
  injection hi with hi
  rw [←hi];exact hc x (List.mem_of_getElem? hx)) (by omega) K
 have hsl':=hsE.toL
 generalize zeg (dvN L S k) S[k].1.pa=ra at *
 generalize zeg (dvN L S k) S[k].1.fu=rb at *
 generalize zc5 L S[k]=P at *
 generalize S[k]=e at *
 generalize zcn L S k=out at *
 obtain ⟨q,hq⟩:∃ q:Nat,e.1.sh=(q:Int):=⟨e.1.sh.toNat,by omega⟩
 have x1:=zb6 e hsl'
 have x2:(zF e)[0]? =some (.int .i64 (n:Int)):=by rw [←e1];rfl
 have x3:(zF e)[1]? =some (.int .i64 (m:Int)):=by rw [←e2];rfl
 have x4:(zF e)[2]? =some (.int .i64 e.1.ty):=rfl
 have x5:(zF e)[3]? =some (.int .i64 e.1.pa):=rfl
 have x6:(zF e)[4]? =some (.int .i64 e.1.fu):=rfl
 have x7:(zF e)[5]? =some (.int .i64 (q:Int)):=by rw [←hq];rfl
 have x8:=zuT e hsl'
 have x9:(zF e)[144]? =some (.bool e.2.2.tf):=zqc e hsl' 3
 have x10:(zF e)[145]? =some (.bool e.2.2.rp):=zqc e hsl' 4
 have x11:(zF e).all PV.cell=true:=by simp [zF,zcs,PV.cell,pic]
 have x12:List.take 147 (zF e)=zF e:=List.take_of_length_le (by omega)
 refine PL.round ?_;refine PW.f (fun K k=>by simp (maxSteps:=3000000) (disch:=omega) only [go_sem,↓reduceIte,reduceCtorEq,ct];exact k) ?_;(repeat refine PW.seq ?_);refine PW.cond (t:=_) rfl (fun h=> ?_) (fun h=> ?_)
 rotate_left
 ·cases h
 refine PW.skip ?_;(repeat refine PW.seq ?_);refine PW.block ?_
 refine PW.f (fun K k=>by simp (maxSteps:=3000000) (disch:=omega) only [go_sem,↓reduceIte,reduceCtorEq,ln,ia,x1,x11,x12];exact k) ?_
 refine PW.e ?_
 refine PW.f (fun K k=>by simp (maxSteps:=3000000) (disch:=omega) only [go_sem,↓reduceIte,reduceCtorEq,x1,x2];exact k) ?_
 refine PW.view (Vs.ghost 8 39 8 rfl) ?_
 have hdl3:(dH H S out).length=H.length+3:=by simp [dH]
 refine PW.at [0,4,5,7,8,9,22,23,24] (?_:PW _ _ _ [(0,.slice (itL L) L.length fl),(4,.ptr (H.length+2) 0 0),(5,.func 44 [] [.ptr (H.length+2) 0 0,.ptr H.length 0 0]),(7,.ptr (H.length+3) 0 0),(8,.msl (H.length+4) 0 0 0 8 true),(9,.int .i64 (n:Int)),(22,.slice (S.flatMap zF) S.length false),(23,.int .i64 (S.length:Int)),(24,.int .i64 (k:Int))] (dH H S out++[⟨74,0,zF e⟩,⟨39,0,[]⟩]) _) (by simp [kp,slot,Nat.beq,dH]) (by simp)
 (repeat refine PW.seq ?_);refine PW.block (PW.loop ?_)
 suffices hl2:∀ j:Nat,j≤P.length→PL Tryz.prog _ _ [(0,.slice (itL L) L.length fl),(4,.ptr (H.length+2) 0 0),(5,.func 44 [] [.ptr (H.length+2) 0 0,.ptr H.length 0 0]),(7,.ptr (H.length+3) 0 0),(8,.msl (H.length+4) (cdL (P.take j)).length 0 j 8 true),(9,.int .i64 ((n+j:Nat):Int)),(22,.slice (S.flatMap zF) S.length false),(23,.int .i64 (S.length:Int)),(24,.int .i64 (k:Int))] (dH H S out++[⟨74,0,zF e⟩,⟨39,(cdL (P.take j)).length,cdL (P.take j)⟩]) _ by
  exact PL.at [0,4,5,7,8,9,22,23,24] (hl2 0 (by omega)) rfl rfl
 intro j hj
 induction hd:P.length - j using Nat.strongRecOn generalizing j with
 | _ d ih2=>
  have hlk:(cdL (P.take j)).length=j * 8:=by rw [zmu,List.length_take,Nat.min_eq_left hj]
  by_cases hjl:j<P.length
  ·have d1:decide (((n+j:Nat):Int)≤(m:Int))=true:=decide_eq_true (by omega)
   have hnext:=ih2 (P.length - (j+1)) (by omega) (j+1) (by omega) rfl
   obtain ⟨x,hx,hPx⟩:=hPa j (by omega)
   have hnj:n+j<L.length:=by omega
   have hxe:L[n+j]=x:=by rw [List.getElem?_eq_getElem hnj] at hx;injection hx
   have ec:=zfQ L hL (n+j) 139 8 hnj (by omega)
   rw [hxe,ztk _ (hL x (List.mem_of_getElem? hx))] at ec
   have et:cdL (P.take (j+1))=cdL (P.take j)++cdE (zd4 x):=by
    rw [List.take_add_one,hPx]
    simp [cdL]
   have ec':List.take 8 (List.drop ((n+j) * 148+139) (itL L))=cdE (zd4 x):=ec
   rw [et] at hnext
   have hA:∀ y∈cdL (P.take j),Scoped H.length y:=ziN _ _
   generalize cdL (P.take j)=A at *
   have y5:(cdE (zd4 x)).length=8:=rfl
   have y6:List.take 8 (cdE (zd4 x))=cdE (zd4 x):=rfl
   have y7:(cdE (zd4 x)).all PV.cell=true:=rfl
   generalize cdE (zd4 x)=B at *
   refine PL.round ?_;refine PW.f (fun K k=>by simp (maxSteps:=3000000) (disch:=omega) only [go_sem,↓reduceIte,reduceCtorEq,dH,x1,x3,d1];exact k) ?_
   (repeat refine PW.seq ?_);refine PW.cond (t:=_) rfl (fun h=> ?_) (fun h=> ?_)
   rotate_left
   ·cases h
   refine PW.skip ?_;(repeat refine PW.seq ?_);refine PW.block ?_
   refine PW.f (fun K k=>by simp (maxSteps:=3000000) (disch:=omega) only [go_sem,↓reduceIte,reduceCtorEq,hli,ec',y5,y6,y7,hlk];exact k) ?_
   refine PW.e ?_
   exact PL.at [0,4,5,7,8,9,22,23,24] hnext (by simp [kp,slot,Nat.beq];omega) (by simp [dH])
  ·have hjl':j=P.length:=by omega
   subst hjl'
   have d1:decide (((n+P.length:Nat):Int)≤(m:Int))=false:=decide_eq_false (by omega)
   rw [List.take_length] at hlk ⊢
   clear ih2
   refine PL.round ?_;refine PW.f (fun K k=>by simp (maxSteps:=3000000) (disch:=omega) only [go_sem,↓reduceIte,reduceCtorEq,dH,x1,x3,d1];exact k) ?_
   (repeat refine PW.seq ?_);refine PW.cond (t:=_) rfl (fun h=> ?_) (fun h=> ?_)
   ·cases h
   refine PW.exit ?_
   refine PW.view (Vs.trim (F1:=[(0,.slice (itL L) L.length fl),(4,.ptr (H.length+2) 0 0),(5,.func 44 [] [.ptr (H.length+2) 0 0,.ptr H.length 0 0]),(7,.ptr (H.length+3) 0 0),(8,.slice (cdL P) P.length false),(22,.slice (S.flatMap zF) S.length false),(23,.int .i64 (S.length:Int)),(24,.int .i64 (k:Int))]) (H1:=dH H S out++[⟨74,0,zF e⟩]) (K:=[⟨39,(cdL P).length,cdL P⟩]) (fun hh=>ziz (fun b hb x hx=> ?_) (zpS H S out hh)) (by simp [dH]) (by simp [dH]) ?_) ?_
   ·rw [List.mem_singleton] at hb
    subst hb
    exact zcX _ [e] x (by simpa [enB] using hx)
   ·have hl:(dH H S out++[⟨74,0,zF e⟩]:za).length=H.length+4:=by simp [dH]
    rw [hl]
    exact ⟨.id (zr (zcT _ _)),.id (.ptr (by omega)),.id (.func (fun j x hx=>by simp at hx) (fun j x hx=>by
     have hx:=List.mem_of_getElem? hx
     simp only [List.mem_cons,List.not_mem_nil,or_false] at hx
     rcases hx with rfl|rfl
     ·exact .ptr (by omega)
     ·exact .ptr (by omega))),.id (.ptr (by omega)),Fz.mslC (e:=39) (xs:=cdL P) (by omega) (by simp) hlk (FzC.refl (ziN _ _)),.id (zr fun x hx=>zcX _ _ x hx),.id (.int _ _),.id (.int _ _),trivial⟩
   have b1:(H++[⟨68,0,[.slice (S.flatMap zF) S.length false]⟩,⟨53,0,shL out⟩,⟨49,0,[.msl (H.length+1) 0 0 S.length 11 true]⟩,⟨74,0,zF e⟩,⟨53,0,[]⟩,⟨53,0,[]⟩]:za)[H.length+2]? =some ⟨49,0,[.msl (H.length+1) 0 0 out.length 11 true]⟩:=by rw [hol];exact apn _ _ 2
   have b2:(H++[⟨68,0,[.slice (S.flatMap zF) S.length false]⟩,⟨53,0,shL out⟩,⟨49,0,[.msl (H.length+1) 0 0 S.length 11 true]⟩,⟨74,0,zF e⟩,⟨53,0,[]⟩,⟨53,0,[]⟩]:za)[H.length]? =some ⟨68,0,[.slice (S.flatMap zF) S.length false]⟩:=apn _ _ 0
   have b3:(H++[⟨68,0,[.slice (S.flatMap zF) S.length false]⟩,⟨53,0,shL out⟩,⟨49,0,[.msl (H.length+1) 0 0 S.length 11 true]⟩,⟨74,0,zF e⟩,⟨53,0,[]⟩,⟨53,0,[]⟩]:za)[H.length+1]? =some ⟨53,0,shL out⟩:=apn _ _ 1
   have s1:=zh0
   have s2:=zjm
   have s3:∀ x:Sho,List.take 11 (shc x)=shc x:=fun _=>rfl
   have s4:∀ x:Sho,List.take 5 (shc x)=fmc x.fr:=fun _=>rfl
   have s5:∀ x:Sho,(shc x)[8]? =some (.bool x.ok):=fun _=>rfl
   have F7:∀ g:Fm,(fmc g).length=5:=fun _=>rfl
   have F5:∀ g:Fm,(fmc g).all PV.cell=true:=fun _=>rfl
   have F8:∀ g:Fm,List.take 5 (fmc g)=fmc g:=fun _=>rfl
   have Z7:zfr.length=5:=rfl
   have F9:∀ g:Fm,List.drop 5 (fmc g)=[]:=fun _=>rfl
   refine PW.view (Vs.place 53) (PW.view (Vs.place 53) ?_)
   refine PW.at [0,4,5,7,8,22,23,24] (?_:PW _ _ _ [(0,.slice (itL L) L.length fl),(4,.ptr (H.length+2) 0 0),(5,.func 44 [] [.ptr (H.length+2) 0 0,.ptr H.length 0 0]),(7,.ptr (H.length+3) 0 0),(8,.slice (cdL P) P.length false),(22,.slice (S.flatMap zF) S.length false),(23,.int .i64 (S.length:Int)),(24,.int .i64 (k:Int))] (H++[⟨68,0,[.slice (S.flatMap zF) S.length false]⟩,⟨53,0,shL out⟩,⟨49,0,[.msl (H.length+1) 0 0 S.length 11 true]⟩,⟨74,0,zF e⟩,⟨53,0,[]⟩,⟨53,0,[]⟩]) _) rfl (by simp [dH])
   (repeat refine PW.seq ?_);refine PW.drawi [H.length+4,H.length+5] [(10,[0]),(11,[1])] [(10,0),(11,1)] [50,55] mix (by kernel_rfl) (by simp<;>omega) fun K hK=> ?_
   simp (maxSteps:=3000000) (disch:=omega) only [go_sem,↓reduceIte,reduceCtorEq,x1,x5,x6]
   refine VCj.read (fun X hX=>rA X ((hX.out _ (by simp)).trans b1) ((hX.out _ (by simp)).trans b2) ((hX.out _ (by simp)).trans b3)) rfl ?_
   simp (maxSteps:=3000000) (disch:=omega) only [go_sem,↓reduceIte,reduceCtorEq,x1,x5,x6]
   refine VCj.read (fun X hX=>rB X ((hX.out _ (by simp)).trans b1) ((hX.out _ (by simp)).trans b2) ((hX.out _ (by simp)).trans b3)) rfl ?_
   simp (maxSteps:=3000000) (disch:=omega) only [go_sem,↓reduceIte,reduceCtorEq,s1,s2,s3]
   refine hK _ _ ?_;clear hK K
   unfold shV at ih
   generalize zhn e.2.1 P ra.fr rb.fr=X at hfr ih
   unfold zdZ at hfr
   refine PW.f (fun K k=>by simp (maxSteps:=3000000) (disch:=omega) only [go_sem,↓reduceIte,reduceCtorEq,x1,x8,s1,s4,F5,F7,F8,F9];refine VCx.call (hfr _) rfl ?_;simp (maxSteps:=3000000) (disch:=omega) only [go_sem,↓reduceIte,reduceCtorEq,x1,x8,s1,s4,F5,F7,F8,F9];exact k) ?_
   suffices h1:PW Tryz.prog _ _ [(0,.slice (itL L) L.length fl),(4,.ptr (H.length+2) 0 0),(5,.func 44 [] [.ptr (H.length+2) 0 0,.ptr H.length 0 0]),(7,.ptr (H.length+3) 0 0),(10,.ptr (H.length+4) 1 0),(11,.ptr (H.length+5) 1 0),(12,.ptr (H.length+6) 0 0),(13,.bool (X.2.1&&(decide (e.1.ty=1)||ra.ok))),(22,.slice (S.flatMap zF) S.length false),(23,.int .i64 (S.length:Int)),(24,.int .i64 (k:Int))] (H++[⟨68,0,[.slice (S.flatMap zF) S.length false]⟩,⟨53,0,shL out⟩,⟨49,0,[.msl (H.length+1) 0 0 S.length 11 true]⟩,⟨74,0,zF e⟩,⟨53,1,shc ra⟩,⟨53,1,shc rb⟩,⟨33,0,fmc X.1⟩]) _ by
    by_cases hty:e.1.ty=1
    ·have d1:(e.1.ty !=1)=false:=by simp [hty]
     rw [decide_eq_true hty,Bool.true_or,Bool.and_true] at h1
     refine PW.f (fun K k=>by simp (maxSteps:=3000000) (disch:=omega) only [go_sem,↓reduceIte,reduceCtorEq,x1,x4,d1];exact k) ?_
     (repeat refine PW.seq ?_);refine PW.cond (t:=_) rfl (fun h=> ?_) (fun h=> ?_)
     ·cases h
     refine PW.skip ?_
     exact PW.at [0,4,5,7,10,11,12,13,22,23,24] h1 rfl rfl
    ·have d1:(e.1.ty !=1)=true:=by simpa using hty
     rw [decide_eq_false hty,Bool.false_or] at h1
     refine PW.f (fun K k=>by simp (maxSteps:=3000000) (disch:=omega) only [go_sem,↓reduceIte,reduceCtorEq,x1,x4,d1];exact k) ?_
     (repeat refine PW.seq ?_);refine PW.cond (t:=_) rfl (fun h=> ?_) (fun h=> ?_)
     rotate_left
     ·cases h
     cases hok:X.2.1 with
     | false=>
      rw [hok] at h1
      refine PW.e ?_
      exact PW.at [0,4,5,7,10,11,12,13,22,23,24] h1 rfl rfl
     | true=>
      rw [hok,Bool.true_and] at h1
      refine PW.f (fun K k=>by simp (maxSteps:=3000000) (disch:=omega) only [go_sem,↓reduceIte,reduceCtorEq,s1,s5];exact k) ?_
      exact PW.at [0,4,5,7,10,11,12,13,22,23,24] h1 rfl rfl
   generalize (X.2.1&&(decide (e.1.ty=1)||ra.ok))=I1 at ih ⊢
   suffices h2:PW Tryz.prog _ _ [(0,.slice (itL L) L.length fl),(4,.ptr (H.length+2) 0 0),(5,.func 44 [] [.ptr (H.length+2) 0 0,.ptr H.length 0 0]),(7,.ptr (H.length+3) 0 0),(12,.ptr (H.length+6) 0 0),(13,.bool (I1&&(!decide (e.1.ty=3)||rb.ok))),(22,.slice (S.flatMap zF) S.length false),(23,.int .i64 (S.length:Int)),(24,.int .i64 (k:Int))] (H++[⟨68,0,[.slice (S.flatMap zF) S.length false]⟩,⟨53,0,shL out⟩,⟨49,0,[.msl (H.length+1) 0 0 S.length 11 true]⟩,⟨74,0,zF e⟩,⟨53,1,shc ra⟩,⟨53,1,shc rb⟩,⟨33,0,fmc X.1⟩]) _ by
    by_cases hty:e.1.ty=3
    ·have d1:(e.1.ty==3)=true:=by simp [hty]
     rw [decide_eq_true hty,Bool.not_true,Bool.false_or] at h2
     refine PW.f (fun K k=>by simp (maxSteps:=3000000) (disch:=omega) only [go_sem,↓reduceIte,reduceCtorEq,x1,x4,d1];exact k) ?_
     (repeat refine PW.seq ?_);refine PW.cond (t:=_) rfl (fun h=> ?_) (fun h=> ?_)
     rotate_left
     ·cases h
     cases I1 with
     | false=>
      refine PW.e ?_
      exact PW.at [0,4,5,7,12,13,22,23,24] h2 rfl rfl
     | true=>
      rw [Bool.true_and] at h2
      refine PW.f (fun K k=>by simp (maxSteps:=3000000) (disch:=omega) only [go_sem,↓reduceIte,reduceCtorEq,s1,s5];exact k) ?_
      exact PW.at [0,4,5,7,12,13,22,23,24] h2 rfl rfl
    ·have d1:(e.1.ty==3)=false:=by simp [hty]
     rw [decide_eq_false hty,Bool.not_false,Bool.true_or,Bool.and_true] at h2
     refine PW.f (fun K k=>by simp (maxSteps:=3000000) (disch:=omega) only [go_sem,↓reduceIte,reduceCtorEq,x1,x4,d1];exact k) ?_
     (repeat refine PW.seq ?_);refine PW.cond (t:=_) rfl (fun h=> ?_) (fun h=> ?_)
     ·cases h
     refine PW.skip ?_
     exact PW.at [0,4,5,7,12,13,22,23,24] h2 rfl rfl
   generalize (I1&&(!decide (e.1.ty=3)||rb.ok))=I2 at ih ⊢
   suffices h3:PW Tryz.prog _ _ [(0,.slice (itL L) L.length fl),(4,.ptr (H.length+2) 0 0),(5,.func 44 [] [.ptr (H.length+2) 0 0,.ptr H.length 0 0]),(7,.ptr (H.length+3) 0 0),(12,.ptr (H.length+6) 0 0),(13,.bool I2),(15,.int .i64 (if e.2.2.rp then 3 else 2)),(22,.slice (S.flatMap zF) S.length false),(23,.int .i64 (S.length:Int)),(24,.int .i64 (k:Int))] (H++[⟨68,0,[.slice (S.flatMap zF) S.length false]⟩,⟨53,0,shL out⟩,⟨49,0,[.msl (H.length+1) 0 0 S.length 11 true]⟩,⟨74,0,zF e⟩,⟨53,1,shc ra⟩,⟨53,1,shc rb⟩,⟨33,0,fmc X.1⟩]) _ by
    refine PW.e ?_
    refine PW.f (fun K k=>by simp (maxSteps:=3000000) (disch:=omega) only [go_sem,↓reduceIte,reduceCtorEq,x1,x10];exact k) ?_
    cases hrp:e.2.2.rp with
    | false=>
     rw [hrp,if_neg (by simp)] at h3
     (repeat refine PW.seq ?_);refine PW.cond (t:=_) rfl (fun h=> ?_) (fun h=> ?_)
     ·cases h
     refine PW.skip ?_
     exact PW.at [0,4,5,7,12,13,15,22,23,24] h3 rfl rfl
    | true=>
     rw [hrp,if_pos rfl] at h3
     (repeat refine PW.seq ?_);refine PW.cond (t:=_) rfl (fun h=> ?_) (fun h=> ?_)
     rotate_left
     ·cases h
     refine PW.e ?_
     exact PW.at [0,4,5,7,12,13,15,22,23,24] h3 rfl rfl
   generalize (if e.2.2.rp then (3:Int) else 2)=fi at ih ⊢
   have hql:q<out.length:=by omega
   have lsh:=zfN out
   rw [hq,Int.toNat_natCast,e1,e2] at ih
   refine PW.f (fun K k=>by simp (maxSteps:=3000000) (disch:=omega) only [go_sem,↓reduceIte,reduceCtorEq,x1,x2,x3,x4,x7,x9,fmc,lsh];exact k) ?_
   refine PW.e ?_
   have hp:=zrh out q ⟨X.1,(n:Int),(m:Int),e.1.ty,I2,fi,e.2.2.tf⟩ hql
   have hps:zN (shL out) (q * 11) (shc ⟨X.1,(n:Int),(m:Int),e.1.ty,I2,fi,e.2.2.tf⟩)=List.take (q * 11) (shL out)++(shc ⟨X.1,(n:Int),(m:Int),e.1.ty,I2,fi,e.2.2.tf⟩++List.drop (q * 11+11) (shL out)):=by unfold zN;rw [List.append_assoc];rfl
   rw [hps] at hp
   refine PL.at [0,4,5,22,23,24] (?_:PL _ _ _ [(0,.slice (itL L) L.length fl),(4,.ptr (H.length+2) 0 0),(5,.func 44 [] [.ptr (H.length+2) 0 0,.ptr H.length 0 0]),(22,.slice (S.flatMap zF) S.length false),(23,.int .i64 (S.length:Int)),(24,.int .i64 ((k+1:Nat):Int))] (dH H S (out.set q ⟨X.1,(n:Int),(m:Int),e.1.ty,I2,fi,e.2.2.tf⟩)++[⟨74,0,zF e⟩,⟨53,1,shc ra⟩,⟨53,1,shc rb⟩,⟨33,0,fmc X.1⟩]) _) (by simp [kp,slot,Nat.beq]) (by unfold dH;rw [←hp];simp [shc,fmc])
   refine PL.view (Vs.trim (F1:=[(0,.slice (itL L) L.length fl),(4,.ptr (H.length+2) 0 0),(5,.func 44 [] [.ptr (H.length+2) 0 0,.ptr H.length 0 0]),(22,.slice (S.flatMap zF) S.length false),(23,.int .i64 (S.length:Int)),(24,.int .i64 ((k+1:Nat):Int))]) (H1:=dH H S (out.set q ⟨X.1,(n:Int),(m:Int),e.1.ty,I2,fi,e.2.2.tf⟩)) (zpS H S _) (by simp [dH]) rfl ?_) ih
   have hl:(dH H S (out.set q ⟨X.1,(n:Int),(m:Int),e.1.ty,I2,fi,e.2.2.tf⟩)).length=H.length+3:=by simp [dH]
   rw [hl]
   exact ⟨.id (zr (zcT _ _)),.id (.ptr (by omega)),.id (.func (fun j x hx=>by simp at hx) (fun j x hx=>by
    have hx:=List.mem_of_getElem? hx
    simp only [List.mem_cons,List.not_mem_nil,or_false] at hx
    rcases hx with rfl|rfl
    ·exact .ptr (by omega)
    ·exact .ptr (by omega))),.id (zr fun x hx=>zcX _ _ x hx),.id (.int _ _),.id (.int _ _),trivial⟩
set_option maxHeartbeats 1600000 in
theorem zmU (x:Sho) (H:za):CallOk Tryz.prog 19 [.agg (shc x),.agg (shc x)] H (.bool true) H:=by
 have eq:=fun K=>znp x.fr K
 have s1:=zh0 x
 have s2:=zjm x
 have s4:List.take 5 (shc x)=fmc x.fr:=rfl
 have g1:(shc x)[5]? =some (.int .i64 x.f):=rfl
 have g2:(shc x)[6]? =some (.int .i64 x.l):=rfl
 have g3:(shc x)[7]? =some (.int .i64 x.ty):=rfl
 have g4:(shc x)[8]? =some (.bool x.ok):=rfl
 have g5:(shc x)[9]? =some (.int .i64 x.fi):=rfl
 have g6:(shc x)[10]? =some (.bool x.tf):=rfl
 refine CallOk.body (F0:=[(0,.agg (shc x)),(1,.agg (shc x))]) Tryz.func19 rfl Tryz.ntmps19 Tryz.results19 rfl (by kernel_rfl) rfl ?_
 refine PW.f (fun K k=>by simp (maxSteps:=3000000) (disch:=omega) only [go_sem,↓reduceIte,reduceCtorEq,s2];exact k) ?_
 refine PW.f (fun K k=>by simp (maxSteps:=3000000) (disch:=omega) only [go_sem,↓reduceIte,reduceCtorEq,s1,s4,g1,g2,g3,g4,g5,g6];refine VCx.call (eq _) rfl ?_;simp (maxSteps:=3000000) (disch:=omega) only [go_sem,↓reduceIte,reduceCtorEq,s1,s4,g1,g2,g3,g4,g5,g6];exact k) ?_
 (refine PW.ret ⟨_,rfl,?_⟩;first|refine .inl ⟨?_,rfl⟩|refine Fin.base (.id' ?_ (.bool _))|refine Fin.base (.id' ?_ (.int _ _)))
 rfl
theorem zl7 (x:It) (h:SqOk x.s) (n:Nat) (v:PV):(itc x).set (136+n) v= .int .i64 x.k::(sqc x.s++(.bool x.gc:: .bool x.gb:: .int .i64 x.gt::(cdc x.p x.U x.us++[.int .i64 x.pad])).set n v):=by
 unfold itc
 rw [show 136+n=(135+n)+1 by omega,List.set_cons_succ,List.set_append_right _ _ (by rw [zjg x.s h];omega),zjg x.s h,Nat.add_sub_cancel_left]
theorem zni (x:It) (h:SqOk x.s) (v:Int):itc { x with pad:=v }=(itc x).set 147 (.int .i64 v):=(zl7 x h 11 _).symm
theorem zr4 (x:It) (h:SqOk x.s) (U:List (List UInt8)):itc { x with U:=U }=(itc x).set 145 (usr U):=(zl7 x h 9 _).symm
theorem ze9 {P:It→Prop} {l:List It} {k:Nat} {f:It→It} (h:∀ x∈l,P x) (hf:∀ x,P x→P (f x)):∀ x∈l.modify k f,P x:=fun x hx=>by
 obtain ⟨j,hj⟩:=List.getElem?_of_mem hx
 rw [List.getElem?_modify] at hj
 cases hy:l[j]? with
 | none=>rw [hy] at hj;cases hj
 | some y=>
  rw [hy] at hj
  have hj:(if k=j then f y else y)=x:=Option.some.inj hj
  have:=h y (List.mem_of_getElem? hy)
  split at hj
  ·rw [←hj];exact hf y this
  ·rw [←hj];exact this
theorem ze8 (f:It→It) (hf:∀ x,zcr (f x)=zcr x):∀ (l:List It) (k:Nat),(l.modify k f).map zcr=l.map zcr
 | [],k=>by simp
 | a::r,0=>by simp [hf]
 | a::r,k+1=>by simp only [List.modify_succ_cons,List.map_cons,ze8 f hf r k]
def zhl (pads:List Int) (k:Nat):Int:=match pads[k]? with|some v=>if 0<v then v.tmod 100 else 0|none=>0
def mdN (pads:List Int) (u:List UInt8) (l:List It):Nat→List It
 | 0=>l
 | k+1=>((mdN pads u l k).modify k fun x=>{ x with pad:=zhl pads k }).modify k fun x=>{ x with U:=[u] }
theorem zl2 (pads:List Int) (u:List UInt8) (l:List It):∀ k,(mdN pads u l k).length=l.length
 | 0=>rfl
 | k+1=>by rw [mdN,List.length_modify,List.length_modify,zl2 pads u l k]
theorem zjS (pads:List Int) (u:List UInt8) (l:List It):∀ k,(mdN pads u l k).map zcr=l.map zcr
 | 0=>rfl
 | k+1=>by
  rw [mdN,ze8,ze8,zjS pads u l k]
  ·intro x;rfl
  ·intro x;rfl
theorem zip {P:It→Prop} (pads:List Int) (u:List UInt8) {l:List It} (h:∀ x∈l,P x) (h1:∀ (x:It) (v:Int),P x→P { x with pad:=v }) (h2:∀ (x:It) (U:List (List UInt8)),P x→P { x with U:=U }):∀ k,∀ x∈mdN pads u l k,P x
 | 0=>h
 | k+1=>by
  rw [mdN]
  exact ze9 (ze9 (zip pads u h h1 h2 k) fun x hx=>h1 x _ hx) fun x hx=>h2 x _ hx
theorem ziw (M:List It) (hM:∀ x∈M,SqOk x.s) (k:Nat) (hk:k<M.length) (v:Int):(itL M).set (k * 148+147) (.int .i64 v)=itL (M.modify k fun x=>{ x with pad:=v }):=
 zez itc 148 147 _ (by omega) (fun x=>{ x with pad:=v }) M k hk (fun x hx=>zeu x (hM x hx)) fun x hx=>zni x (hM x hx) v
theorem zr6 (M:List It) (hM:∀ x∈M,SqOk x.s) (k:Nat) (hk:k<M.length) (U:List (List UInt8)):(itL M).set (k * 148+145) (usr U)=itL (M.modify k fun x=>{ x with U:=U }):=
 zez itc 148 145 _ (by omega) (fun x=>{ x with U:=U }) M k hk (fun x hx=>zeu x (hM x hx)) fun x hx=>zr4 x (hM x hx) U
theorem zjQ {f g:It→It} (h:∀ x,g (f x)=g x):∀ (l:List It) (k:Nat),(l.modify k f).modify k g=l.modify k g
 | [],k=>by simp
 | a::r,0=>by simp [h]
 | a::r,k+1=>by simp only [List.modify_succ_cons,zjQ h r k]
theorem zmH {n:Nat} {H:za} {v w:PV} (hv:Fz n H v w):∀ {xs:List PV} {k:Nat},(∀ x∈xs,Scoped n x)→FzC n H (xs.set k v) (xs.set k w)
 | [],k,_=>by simp [FzC]
 | x::r,0,h=>⟨hv,FzC.refl fun y hy=>h y (List.mem_cons_of_mem _ hy)⟩
 | x::r,k+1,h=>⟨.id (h x (List.mem_cons_self ..)),zmH hv fun y hy=>h y (List.mem_cons_of_mem _ hy)⟩
theorem zqs {l:List It} (hok:∀ x∈l,ItOk x) (h:ltB l=true):∀ x∈l,CdOk (zd4 x):=fun x hx=>by
 unfold ltB at h
 rw [Bool.and_eq_true] at h
 have:=List.all_eq_true.1 h.2 x hx
 unfold ltI at this
 simp only [Bool.and_eq_true,decide_eq_true_eq] at this
 exact ⟨by have:=this.1.2.2;show x.us.length≤_;omega,fun u hu=>⟨(hok x hx).ut u hu,by have:=of_decide_eq_true (List.all_eq_true.1 this.2.2 u hu);omega⟩⟩
set_option maxHeartbeats 8000000 in
set_option maxRecDepth 100000 in
theorem zpG (l:List It) (pads:List Int) (u:List UInt8) (f f2 f3:Bool) (H:za) (hok:∀ x∈l,ItOk x) (hp:∀ v∈pads,zgS v):CallOk Tryz.prog 7 [.slice (itL l) l.length f,.slice (pads.map (PV.int .i64)) pads.length f2,.slice (bs u) u.length f3] H (.bool true) H:=by
 have hs:∀ x∈l,SqOk x.s:=fun x hx=>(hok x hx).s
 have lo:=fun K=>zr0 l f K hs
 have ln:=zcg l hs
 refine CallOk.body (F0:=[(0,.slice (itL l) l.length f),(1,.slice (pads.map (PV.int .i64)) pads.length f2),(2,.slice (bs u) u.length f3)]) Tryz.func7 rfl Tryz.ntmps7 Tryz.results7 rfl (by kernel_rfl) rfl ?_
 refine PW.e ?_
 cases hlt:ltB l with
 | false=>
  rw [hlt] at lo
  refine PW.f (fun K k=>by simp (maxSteps:=3000000) (disch:=omega) only [go_sem,↓reduceIte,reduceCtorEq];refine VCx.call (lo _) rfl ?_;simp (maxSteps:=3000000) (disch:=omega) only [go_sem,↓reduceIte,reduceCtorEq];exact k) ?_
  (repeat refine PW.seq ?_);refine PW.cond (t:=_) rfl (fun h=> ?_) (fun h=> ?_)
  rotate_left
  ·cases h
  refine PW.f (fun K k=>by simp (maxSteps:=3000000) (disch:=omega) only [go_sem,↓reduceIte,reduceCtorEq];refine VCx.call (zqy _) rfl ?_;simp (maxSteps:=3000000) (disch:=omega) only [go_sem,↓reduceIte,reduceCtorEq];exact k) ?_
  (refine PW.ret ⟨_,rfl,?_⟩;first|refine .inl ⟨?_,rfl⟩|refine Fin.base (.id' ?_ (.bool _))|refine Fin.base (.id' ?_ (.int _ _)))
  rfl
 | true=>
 rw [hlt] at lo
 by_cases hu:256<u.length
 ·have d1:decide ((256:Int)<(u.length:Int))=true:=decide_eq_true (by omega)
  refine PW.f (fun K k=>by simp (maxSteps:=3000000) (disch:=omega) only [go_sem,↓reduceIte,reduceCtorEq];refine VCx.call (lo _) rfl ?_;simp (maxSteps:=3000000) (disch:=omega) only [go_sem,↓reduceIte,reduceCtorEq,ze,d1];exact k) ?_
  (repeat refine PW.seq ?_);refine PW.cond (t:=_) rfl (fun h=> ?_) (fun h=> ?_)
  rotate_left
  ·cases h
  refine PW.f (fun K k=>by simp (maxSteps:=3000000) (disch:=omega) only [go_sem,↓reduceIte,reduceCtorEq];refine VCx.call (zqy _) rfl ?_;simp (maxSteps:=3000000) (disch:=omega) only [go_sem,↓reduceIte,reduceCtorEq];exact k) ?_
  (refine PW.ret ⟨_,rfl,?_⟩;first|refine .inl ⟨?_,rfl⟩|refine Fin.base (.id' ?_ (.bool _))|refine Fin.base (.id' ?_ (.int _ _)))
  rfl
 have d1:decide ((256:Int)<(u.length:Int))=false:=decide_eq_false (by omega)
 refine PW.f (fun K k=>by simp (maxSteps:=3000000) (disch:=omega) only [go_sem,↓reduceIte,reduceCtorEq];refine VCx.call (lo _) rfl ?_;simp (maxSteps:=3000000) (disch:=omega) only [go_sem,↓reduceIte,reduceCtorEq,ze,d1];exact k) ?_
 (repeat refine PW.seq ?_);refine PW.cond (t:=_) rfl (fun h=> ?_) (fun h=> ?_)
 ·cases h
 refine PW.skip ?_
 clear d1 lo
 have h60:=lt60 hlt
 have hcd:=zqs hok hlt
 have hmlen:=zl2 pads u l
 have hms:∀ k,∀ x∈mdN pads u l k,SqOk x.s:=zip pads u hs (fun _ _ h=>h) (fun _ _ h=>h)
 have hmc:∀ k,∀ x∈mdN pads u l k,CdOk (zd4 x):=zip (P:=fun x=>CdOk (zd4 x)) pads u hcd (fun _ _ h=>⟨h.n,h.u⟩) (fun _ _ h=>⟨h.n,h.u⟩)
 suffices hm:PW Tryz.prog _ _ [(0,.slice (itL l) l.length f),(1,.slice (pads.map (PV.int .i64)) pads.length f2),(2,.slice (bs u) u.length f3),(7,.msl H.length (l.length * 148) 0 l.length 148 true)] (H++[⟨43,l.length * 148,itL l⟩]) _ by
  cases l with
  | nil=>
   refine PW.e ?_
   refine PW.view (Vs.ghost 7 43 148 rfl) ?_
   exact PW.at [0,1,2,7] hm rfl rfl
  | cons x0 r0=>
   generalize hl:x0::r0=l at *
   have hl0:¬ l.length=0:=by rw [←hl];simp
   refine PW.f (fun K k=>by simp (maxSteps:=3000000) (disch:=omega) only [go_sem,↓reduceIte,reduceCtorEq,ln,hl0];exact k) ?_
   exact PW.at [0,1,2,7] hm rfl rfl
 refine PW.e ?_
 (repeat refine PW.seq ?_);refine PW.block (PW.loop ?_)
 suffices hl1:∀ k:Nat,k≤l.length→PL Tryz.prog _ _ [(0,.slice (itL l) l.length f),(1,.slice (pads.map (PV.int .i64)) pads.length f2),(2,.slice (bs u) u.length f3),(7,.msl H.length (l.length * 148) 0 l.length 148 true),(8,.int .i64 (k:Int))] (H++[⟨43,l.length * 148,itL (mdN pads u l k)⟩]) _ by
  exact PL.at [0,1,2,7,8] (hl1 0 (by omega)) rfl rfl
 refine cnt l.length (fun k hk ih=> ?_) ?_
 ·have ct:=zgQ hk
  have hmk:=hms k
  have hml:=hmlen k
  have e0:=ziw (mdN pads u l k) hmk k (by omega) 0
  have e1:=fun (v:Int)=>ziw (mdN pads u l k) hmk k (by omega) v
  have e2:=fun v=>zjQ (f:=fun x:It=>{ x with pad:=(0:Int) }) (g:=fun x=>{ x with pad:=v }) (fun _=>rfl) (mdN pads u l k) k
  have e3:=zr6 ((mdN pads u l k).modify k fun x=>{ x with pad:=zhl pads k }) (ze9 hmk fun _ h=>h) k (by rw [List.length_modify];omega) [u]
  have hsc:∀ x∈itL ((mdN pads u l k).modify k fun x=>{ x with pad:=zhl pads k }),Scoped (H.length+1) x:=zcT _ _
  rw [mdN,←e3] at ih
  clear e3
  have lnk:∀ M:List It,M.length=l.length→(∀ x∈M,SqOk x.s)→(itL M).length=l.length * 148:=fun M h1 h2=>by rw [zcg M h2,h1]
  have ln0:=lnk _ hml hmk
  have ln1:=lnk ((mdN pads u l k).modify k fun x=>{ x with pad:=(0:Int) }) (by rw [List.length_modify];exact hml) (ze9 hmk fun _ h=>h)
  have ln2:=lnk ((mdN pads u l k).modify k fun x=>{ x with pad:=zhl pads k }) (by rw [List.length_modify];exact hml) (ze9 hmk fun _ h=>h)
  have el:∀ x:PV,(itL (mdN pads u l k)).length=l.length * 148:=fun _=>ln0
  refine PL.round ?_;refine PW.f (fun K k=>by simp (maxSteps:=3000000) (disch:=omega) only [go_sem,↓reduceIte,reduceCtorEq,ct];exact k) ?_;(repeat refine PW.seq ?_);refine PW.cond (t:=_) rfl (fun h=> ?_) (fun h=> ?_)
  rotate_left
  ·cases h
  refine PW.skip ?_;(repeat refine PW.seq ?_);refine PW.block ?_
  refine PW.f (fun K k=>by simp (maxSteps:=3000000) (disch:=omega) only [go_sem,↓reduceIte,reduceCtorEq,ln0,e0];exact k) ?_
  suffices hm:PW Tryz.prog _ _ [(0,.slice (itL l) l.length f),(1,.slice (pads.map (PV.int .i64)) pads.length f2),(2,.slice (bs u) u.length f3),(7,.msl H.length (l.length * 148) 0 l.length 148 true),(8,.int .i64 (k:Int))] (H++[⟨43,l.length * 148,itL ((mdN pads u l k).modify k fun x=>{ x with pad:=zhl pads k })⟩]) _ by
   by_cases hkp:k<pads.length
   ·have d1:=zgQ hkp
    have ep:=List.getElem?_eq_getElem hkp
    have epm:(pads.map (PV.int .i64))[k]? =some (.int .i64 pads[k]):=by rw [List.getElem?_map,ep];rfl
    have hpad:zhl pads k=if 0<pads[k] then pads[k].tmod 100 else 0:=by unfold zhl;rw [ep]
    have hv:=hp pads[k] (List.getElem_mem hkp)
    generalize pads[k]=v at *
    by_cases h0:0<v
    ·have d2:decide (0<v)=true:=decide_eq_true h0
     rw [if_pos h0] at hpad
     rw [hpad] at hm
     refine PW.f (fun K k=>by simp (maxSteps:=3000000) (disch:=omega) only [go_sem,↓reduceIte,reduceCtorEq,d1,epm,d2,List.length_map];exact k) ?_
     (repeat refine PW.seq ?_);refine PW.cond (t:=_) rfl (fun h=> ?_) (fun h=> ?_)
     rotate_left
     ·cases h
     have hw:IntKind.i64.wrap (v.tmod 100)=v.tmod 100:=by
      have:v.tmod 100=v%100:=zP _ _ (by omega)
      rw [this];exact w64 _ (by omega)
     refine PW.f (fun K k=>by simp (maxSteps:=3000000) (disch:=omega) only [go_sem,↓reduceIte,reduceCtorEq,epm,List.length_map,ln1,hw];exact k) ?_
     have e4:=ziw ((mdN pads u l k).modify k fun x=>{ x with pad:=(0:Int) }) (ze9 hmk fun _ h=>h) k (by rw [List.length_modify];omega) (v.tmod 100)
     rw [e2] at e4
     exact PW.at [0,1,2,7,8] hm rfl (by rw [←e4])
    ·have d2:decide (0<v)=false:=decide_eq_false h0
     rw [if_neg h0] at hpad
     rw [hpad] at hm
     refine PW.f (fun K k=>by simp (maxSteps:=3000000) (disch:=omega) only [go_sem,↓reduceIte,reduceCtorEq,d1,epm,d2,List.length_map];exact k) ?_
     (repeat refine PW.seq ?_);refine PW.cond (t:=_) rfl (fun h=> ?_) (fun h=> ?_)
     ·cases h
     refine PW.skip ?_
     exact PW.at [0,1,2,7,8] hm rfl rfl
   ·have d1:decide ((k:Int)<(pads.length:Int))=false:=decide_eq_false (by omega)
    have hpad:zhl pads k=0:=by unfold zhl;rw [List.getElem?_eq_none (by omega)]
    rw [hpad] at hm
    refine PW.f (fun K k=>by simp (maxSteps:=3000000) (disch:=omega) only [go_sem,↓reduceIte,reduceCtorEq,d1,List.length_map];exact k) ?_
    (repeat refine PW.seq ?_);refine PW.cond (t:=_) rfl (fun h=> ?_) (fun h=> ?_)
    ·cases h
    refine PW.skip ?_
    exact PW.at [0,1,2,7,8] hm rfl rfl
  refine PW.f (fun K k=>by simp (maxSteps:=3000000) (disch:=omega) only [go_sem,↓reduceIte,reduceCtorEq,ln2];exact k) ?_
  refine PW.e ?_
  generalize (mdN pads u l k).modify k (fun x=>{ x with pad:=zhl pads k })=M at *
  refine PL.at [0,1,2,7,8] (?_:PL _ _ _ [(0,.slice (itL l) l.length f),(1,.slice (pads.map (PV.int .i64)) pads.length f2),(2,.slice (bs u) u.length f3),(7,.msl H.length (l.length * 148) 0 l.length 148 true),(8,.int .i64 ((k+1:Nat):Int))] (H++[⟨43,l.length * 148,(itL M).set (k * 148+145) (.slice [.slice (bs u) u.length f3] 1 true)⟩]) _) rfl rfl
  refine PL.view (Vs.cut (F1:=[(0,.slice (itL l) l.length f),(1,.slice (pads.map (PV.int .i64)) pads.length f2),(2,.slice (bs u) u.length f3),(7,.msl H.length (l.length * 148) 0 l.length 148 true),(8,.int .i64 ((k+1:Nat):Int))]) (H1:=H++[⟨43,l.length * 148,(itL M).set (k * 148+145) (usr [u])⟩]) (by simp) (fun hs=> ?_) ?_) ih
  ·have:=CutH.of (A:=H) (L:=[⟨43,l.length * 148,(itL M).set (k * 148+145) (.slice [.slice (bs u) u.length f3] 1 true)⟩]) (K:=[]) (L1:=[⟨43,l.length * 148,(itL M).set (k * 148+145) (usr [u])⟩]) hs ⟨rfl,rfl,zmH (Fz.sliceC (xs:=[.slice (bs u) u.length f3]) (ys:=[u].flatMap zi9) ⟨Fz.sliceC (FzC.refl (zq _ _)) (fun h=>by cases h),trivial⟩ (fun h=>by cases h)) (fun x hx=>(zcT _ _ x hx)),trivial⟩
   rw [List.append_nil] at this
   exact this
  ·rw [show (H++[⟨43,l.length * 148,(itL M).set (k * 148+145) (usr [u])⟩]:za).length=H.length+1 by simp]
   exact ⟨.id (zr (zcT _ _)),.id (zr fun x hx=>by obtain ⟨v,_,rfl⟩:=List.mem_map.1 hx;exact .int _ _),.id (zr (zq _ _)),.id (.msl (by omega)),.id (.int _ _),trivial⟩
 ·refine PL.round ?_;refine PW.f (fun K k=>by simp (maxSteps:=3000000) (disch:=omega) only [go_sem,↓reduceIte,reduceCtorEq,zit l.length];exact k) ?_;(repeat refine PW.seq ?_);refine PW.cond (t:=_) rfl (fun h=> ?_) (fun h=> ?_)
  ·cases h
  refine PW.exit ?_
  have hM:=hms l.length
  have hMc:=hmc l.length
  have hMl:=hmlen l.length
  have hD:zfj l=zfj (mdN pads u l l.length):=zns (zjS pads u l l.length).symm
  have f1:=fun K=>zfy l f hs hcd (by omega) K
  have f2:=fun K=>zfy (mdN pads u l l.length) false hM hMc (by omega) K
  rw [←hD,hMl] at f2
  have hsc:=zcT H.length (mdN pads u l l.length)
  have hln:=zcg _ hM
  rw [hMl] at hln
  generalize mdN pads u l l.length=M at *
  refine PW.view (Vs.trim (F1:=[(0,.slice (itL l) l.length f),(7,.slice (itL M) l.length false)]) (H1:=H) (K:=[⟨43,l.length * 148,itL M⟩]) (fun h=>h) (Nat.le_refl _) rfl ?_) ?_
  ·exact ⟨.id (zr (zcT _ _)),Fz.mslC (e:=43) (xs:=itL M) (Nat.le_refl _) (by simp) hln (FzC.refl hsc),trivial⟩
  refine PW.f (fun K k=>by simp (maxSteps:=3000000) (disch:=omega) only [go_sem,↓reduceIte,reduceCtorEq];refine VCx.call (f1 _) rfl ?_;simp (maxSteps:=3000000) (disch:=omega) only [go_sem,↓reduceIte,reduceCtorEq];refine VCx.call (f2 _) rfl ?_;simp (maxSteps:=3000000) (disch:=omega) only [go_sem,↓reduceIte,reduceCtorEq];exact k) ?_
  have hDn:(zfj l).length≤60:=by rw [zj7];have:=zoa hs;omega
  generalize zfj l=D at *
  have lD:=zfN D
  refine PW.f (fun K k=>by simp (maxSteps:=3000000) (disch:=omega) only [go_sem,↓reduceIte,reduceCtorEq,bne_self_eq_false];exact k) ?_
  (repeat refine PW.seq ?_);refine PW.cond (t:=_) rfl (fun h=> ?_) (fun h=> ?_)
  ·cases h
  refine PW.skip ?_
  refine PW.e ?_
  (repeat refine PW.seq ?_);refine PW.block (PW.loop ?_)
  suffices hl1:∀ j:Nat,j≤D.length→PL Tryz.prog _ _ [(9,.slice (shL D) D.length false),(10,.slice (shL D) D.length false),(11,.int .i64 (j:Int))] H _ by
   exact PL.at [9,10,11] (hl1 0 (by omega)) rfl rfl
  refine cnt D.length (fun j hj ih=> ?_) ?_
  ·have ct:=zgQ hj
   have ea:=zow D j hj
   generalize D[j]=x at *
   have ss:=fun K=>zmU x K
   refine PL.round ?_;refine PW.f (fun K k=>by simp (maxSteps:=3000000) (disch:=omega) only [go_sem,↓reduceIte,reduceCtorEq,ct];exact k) ?_;(repeat refine PW.seq ?_);refine PW.cond (t:=_) rfl (fun h=> ?_) (fun h=> ?_)
   rotate_left
   ·cases h
   refine PW.skip ?_;(repeat refine PW.seq ?_);refine PW.block ?_
   (repeat refine PW.seq ?_);refine PW.drawg mix (by kernel_rfl) fun K hK=> ?_;simp (maxSteps:=3000000) (disch:=omega) only [go_sem,↓reduceIte,reduceCtorEq,lD,ea]
   refine VCz.call (fun _=>ss _) rfl ?_
   simp (maxSteps:=3000000) (disch:=omega) only [go_sem,↓reduceIte,reduceCtorEq]
   refine hK _ _ ?_;clear hK K
   (repeat refine PW.seq ?_);refine PW.cond (t:=_) rfl (fun h=> ?_) (fun h=> ?_)
   ·cases h
   refine PW.skip ?_
   refine PW.e ?_
   exact PL.at [9,10,11] ih rfl rfl
  ·refine PL.round ?_;refine PW.f (fun K k=>by simp (maxSteps:=3000000) (disch:=omega) only [go_sem,↓reduceIte,reduceCtorEq,zit D.length];exact k) ?_;(repeat refine PW.seq ?_);refine PW.cond (t:=_) rfl (fun h=> ?_) (fun h=> ?_)
   ·cases h
   refine PW.exit ?_
   refine PW.f (fun K k=>by simp (maxSteps:=3000000) (disch:=omega) only [go_sem,↓reduceIte,reduceCtorEq];refine VCx.call (zqy _) rfl ?_;simp (maxSteps:=3000000) (disch:=omega) only [go_sem,↓reduceIte,reduceCtorEq];exact k) ?_
   (refine PW.ret ⟨_,rfl,?_⟩;first|refine .inl ⟨?_,rfl⟩|refine Fin.base (.id' ?_ (.bool _))|refine Fin.base (.id' ?_ (.int _ _)))
   rfl
end Go.Proofs.YtjgmdlcjbgiekaaGreatDoor.Sc
namespace Go.Proofs.YtjgmdlcjbgiekaaGreatDoor.Pm
set_option linter.all false
open Go.ChangeShapes Go.WideShapes Go.ChangeAt Go.RowKit
variable {P:Program} {W:World}
theorem zjc {t e:TypeId} {n fuel:Nat} {k:IntKind} {cs:List Value} {z:List Int} {p:List MemPlace} (ht:P.underlying t=some (.array n e)) (he:P.underlying e=some (.int k)) (hc:P.cellsOf e=1)
  (h:DataW.trod (fun _=>()) P W 0 (fun _=>true) false fuel t cs=some (.agg (z.map fun x=>.lit (.int k x)),p)):∀ (j:Nat) (x:Int),z[j]? =some x→cs[j]? =some (.int k x):=by
 obtain ⟨xs,m,rfl,hx,hlen,hn,hel⟩:=DataW.trod_array ht h
 intro j x hj
 simp only [Prod.mk.injEq,DataW.agg.injEq] at hx
 have hx1:=congrArg (fun l=>l[j]?) hx.1
 simp only [List.getElem?_map,hj,Option.map_some] at hx1
 cases hy:xs[j]? with
 | none=>rw [hy] at hx1;cases hx1
 | some y=>
  rw [hy] at hx1
  simp only [Option.map_some,Option.some.injEq] at hx1
  have hjn:j<n:=by rw [←hn];exact (List.getElem?_eq_some_iff.1 hy).1
  have hd:=hel j hjn
  rw [hy,hc,Nat.mul_one] at hd
  obtain ⟨r,e1,e2,_⟩:=DataW.trod_int he hd
  rw [e2] at hx1
  simp only [DataW.lit.injEq,Lit.int.injEq,true_and] at hx1
  subst hx1
  have:=congrArg (fun l=>l[0]?) e1
  simpa using this
theorem zes:∀ {l:List (String×DataW Unit)} {ps:List MemPlace},DataW.LaidVars P W l ps→∀ x∈l,∃ g t cs fuel p,P.globalNamed x.1=some g∧(P.globals[g]?).map (·.type)=some t∧W.var? P x.1=some cs∧DataW.trod (fun _=>()) P W 0 (fun _=>true) false fuel t cs.toList=some (x.2,p)
 | [],_,_,x,hx=>by cases hx
 | (n,d)::r,ps,h,x,hx=>by
  obtain ⟨g,t,cs,fuel,p,q,h1,h2,h3,h4,h5,_⟩:=h
  rcases List.mem_cons.1 hx with rfl|hx
  ·exact ⟨g,t,cs,fuel,p,h1,h2,h3,h4⟩
  ·exact zes h5 x hx
theorem zjY {l:List (String×DataW Unit)} {nm:String} {g n:Nat} {t e:TypeId} {k:IntKind} {z:List Int} (h:laidMet P l W) (hm:(nm,DataW.agg (z.map fun x=>.lit (.int k x)))∈l) (hg:P.globalNamed nm=some g) (ht:(P.globals[g]?).map (·.type)=some t)
  (hu:P.underlying t=some (.array n e)) (he:P.underlying e=some (.int k)) (hc:P.cellsOf e=1):∀ (j:Nat) (x:Int),z[j]? =some x→(Ctx.start W).M g j=some (.int k x):=fun j x hj=>by
 obtain ⟨ps,hv,_⟩:=h
 obtain ⟨g',t',cs,fuel,p,h1,h2,h3,h4⟩:=zes hv _ hm
 obtain rfl:=Option.some.inj (hg.symm.trans h1)
 obtain rfl:=Option.some.inj (ht.symm.trans h2)
 have h5:=zjc hu he hc h4 j x hj
 show W.cell? ⟨g,j,none⟩=_
 rw [World.var?_cell hg h3 j,←h5]
 simp
theorem zsa {l:List (String×DataW Unit)} (h:laidMetH Tryz.prog l W) (hl:(l.all fun x=>x.2.handleName?.isNone)=true)
  (h1 : ("cutroom/quant.alternateScan", Rows.laid_cutroom_quant_alternateScan) ∈ l)
  (h2 : ("cutroom/quant.defaultIntra", Rows.laid_cutroom_quant_defaultIntra) ∈ l)
  :Glob (Ctx.start W).M:=by
 rw [MakeChecks.laidMetH_plain _ _ _ hl] at h
 intro g l hg
 unfold zuD at hg
 split at hg
 ·rename_i e
  subst e
  obtain rfl:=Option.some.inj hg
  intro j x hj
  unfold zwz at hj
  rw [List.getElem?_map,Option.map_eq_some_iff] at hj
  obtain ⟨y,hy,rfl⟩:=hj
  exact zjY (t:=151) h (k:=.i64) h1 (by kernel_rfl) (by kernel_rfl) Tryz.underlying151 Tryz.underlying3 (by kernel_rfl) j y hy
 split at hg
 ·rename_i e
  subst e
  obtain rfl:=Option.some.inj hg
  intro j x hj
  unfold zpY at hj
  rw [List.getElem?_map,Option.map_eq_some_iff] at hj
  obtain ⟨y,hy,rfl⟩:=hj
  exact zjY (t:=27) h (k:=.u8) h2 (by kernel_rfl) (by kernel_rfl) Tryz.underlying27 Tryz.underlying5 (by kernel_rfl) j y hy
 cases hg
end Go.Proofs.YtjgmdlcjbgiekaaGreatDoor.Pm
