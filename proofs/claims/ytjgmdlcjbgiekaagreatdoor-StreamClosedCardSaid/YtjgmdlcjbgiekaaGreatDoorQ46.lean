/-
  Parts of the proof, put together in one text. No condition.
-/
import Derived.Test.YtjgmdlcjbgiekaaGreatDoorQ42
import Derived.Test.YtjgmdlcjbgiekaaGreatDoorQ45
namespace Go.Proofs.YtjgmdlcjbgiekaaGreatDoor.Sc
set_option linter.all false
open Pm Ty Go.RowKit
theorem zwj (s t:Sq) (hs:SqL s) (ht:SqL t):zdm Tryz.prog .neq 29 (.agg (sqc s)) (.agg (sqc t))=some (.bool (!sqE s t)):=by
 have e:∀ x y,zdm Tryz.prog .neq 29 x y=match zaP Tryz.prog 12 29 x y with|some b=>peq .neq b|none=>none:=fun x y=>by kernel_rfl
 rw [e,zrF,zl2 _ _ _ _ _ _ (zrd _ _ _ _ _ _ _ _ (zv3 s hs) (zv3 t ht) (eqU _ _ hs.ia ht.ia) (zv2 s hs) (zv2 t ht) (eqU _ _ hs.ie ht.ie)) (ztR Tryz.prog) (sqA s t) (sq6 ..)]
 rfl
theorem zsE (a:As) (s:Sq) (ha:SqL a.sq):(za6 a).drop 135=[.bool a.kn,.int .i64 a.op,.bool a.rs,.int .i64 a.lk]:=List.drop_left' (zab _ ha)
set_option maxHeartbeats 4000000 in
set_option maxRecDepth 100000 in
theorem zr1 (L:List It) (fl:Bool) (k:Nat) (hk:k<L.length) (hL:∀ x∈L,SqOk x.s) (a:As) (i:Nat) (H:za) (hi:H[i]? =some (asB a)) (ha:SqOk a.sq) (hop:OpR L a.op):
  CallOk Tryz.prog 110 [.ptr i 0 0,.slice (itL L) L.length fl,.int .i64 (k:Int)] H (fmO (a.item L k L[k]).2) (H.set i (asB (a.item L k L[k]).1)):=by
 have hil:i<H.length:=(List.getElem?_eq_some_iff.1 hi).1
 have ha':=ha.toL
 have hi':∀ K,(H++K)[i]? =some (asB a):=fun K=>by rw [List.getElem?_append_left hil];exact hi
 have pc:=fun K=>zqD L fl k hk hL a i (H++K) (hi' K) ha hop
 have ln:=zcU L hL
 have hx:=hL _ (List.getElem_mem hk)
 have ik:=zfQ L hL k 0 hk (by omega)
 have is:List.take 135 (List.drop (k * 148+1) (itL L))=sqc L[k].s:=by rw [zfP L hL k 1 135 hk (by omega)];exact zws _ hx
 have ic:(itL L)[k * 148+136]? =some (.bool L[k].gc):=by rw [zfQ L hL k 136 hk (by omega)];exact zk4 _ hx 0
 have ib:(itL L)[k * 148+137]? =some (.bool L[k].gb):=by rw [zfQ L hL k 137 hk (by omega)];exact zk4 _ hx 1
 rw [zwu,Nat.add_zero] at ik
 have vs:=fun K=>zhU L[k].s K hx
 have ne:=zwj a.sq L[k].s ha' hx.toL
 have q1:=zab _ hx.toL
 have q2:=zb5 L[k].s
 have af:=fun b o K=>ziZ H K i b (fmO o) hil (zle _ _)
 have hX4:∀ K b,(H++K).set i (asB b)=H.set i (asB b)++K:=fun K b=>List.set_append_left _ _ hil
 simp only [hX4] at pc
 generalize hr:a.item L k L[k]=r
 unfold As.item at hr
 generalize L[k]=x at *
 have z1:(zC fm0).length=145:=rfl
 have z3:List.drop 145 (zC fm0)=[]:=rfl
 have hlen:∀ b,(H.set i (asB b)).length=H.length:=fun b=>by simp
 have hY0:∀ b F,(H.set i (asB b)++[F])[H.length]? =some F:=fun b F=>by rw [List.getElem?_append_right (by simp)];simp
 have hYs:∀ b F B,(H.set i (asB b)++[F]).set H.length B=H.set i (asB b)++[B]:=fun b F B=>by rw [List.set_append_right _ _ (by simp)];simp
 have hYi:∀ b K,(H.set i (asB b)++K)[i]? =some ⟨201,0,za6 b⟩:=fun b K=>by rw [List.getElem?_append_left (by simp;omega),List.getElem?_set_self hil];rfl
 have hYj:∀ b K c,(H.set i (asB b)++K).set i ⟨201,0,za6 c⟩=H.set i (asB c)++K:=fun b K c=>by rw [List.set_append_left _ _ (by simp;omega),List.set_set];rfl
 have hret:∀ b f v (Fx:Fr) (Y:za),slot Fx 6= .ptr H.length 0 0→slot Fx 7= .bool v→Y=H.set i (asB b)++[⟨123,0,zC f⟩]→fmO r.2= .tup [.agg (zC f),.bool v]→b=r.1→SqL f.sq→zoM Tryz.prog [.cell 6 123,.tmp 7] (Pm.Fin H (fmO r.2) (H.set i (asB r.1))) .ret Fx Y:=fun b f v Fx Y h6 h7 e3 e1 e2 hf=>by
  subst e3
  have w1:=zbX f hf
  have w2:List.take 145 (zC f)=zC f:=List.take_of_length_le (by omega)
  refine ⟨.tup [.agg (zC f),.bool v],by simp (maxSteps:=3000000) (disch:=omega) only [go_sem,↓reduceIte,reduceCtorEq,hY0,w1,w2,h6,h7,zd,zg,List.mapM_cons,List.mapM_nil,Option.pure_def,Option.bind_eq_bind,Option.bind_some],?_⟩
  have:=af b r.2 [⟨123,0,zC f⟩]
  rw [e1] at this ⊢
  rw [e2] at this ⊢
  exact this
 refine CallOk.body (F0:=[(0,.ptr i 0 0),(1,.slice (itL L) L.length fl),(2,.int .i64 (k:Int))]) Tryz.func110 rfl Tryz.ntmps110 Tryz.results110 rfl (by kernel_rfl) rfl ?_
 refine PW.e ?_
 refine PW.at [0,1,2,6,7] (?_:PW _ _ _ [(0,.ptr i 0 0),(1,.slice (itL L) L.length fl),(2,.int .i64 (k:Int)),(6,.ptr H.length 0 0),(7,.bool false)] (H.set i (asB a)++[⟨123,0,zC fm0⟩]) _) rfl (by rw [zd0 hi];rfl)
 refine PW.f (fun K k=>by simp (maxSteps:=3000000) (disch:=omega) only [go_sem,↓reduceIte,reduceCtorEq,ln];exact k) ?_
 refine PW.f (fun K k=>by simp (maxSteps:=3000000) (disch:=omega) only [go_sem,↓reduceIte,reduceCtorEq,ln,ik];exact k) ?_
 by_cases h3:x.k=3
 ·rw [if_pos h3] at hr
  (repeat refine PW.seq ?_);refine PW.cond (t:=_) rfl (fun h=> ?_) (fun h=> ?_)
  rotate_left
  ·simp [h3] at h
  rw [zd0 hi]
  have pc':=pc [⟨123,0,zC fm0⟩]
  have hfm:∃ f v,fmO (a.pic L k x.p).2= .tup [.agg (zC f),.bool v]∧SqL f.sq:=by
   unfold As.pic
   split
   ·exact ⟨fm0,false,rfl,⟨rfl,rfl⟩⟩
   ·split
    ·exact ⟨_,true,rfl,ha'⟩
    ·split
     ·exact ⟨_,true,rfl,ha'⟩
     ·split
      ·exact ⟨fm0,false,rfl,⟨rfl,rfl⟩⟩
      ·exact ⟨fm0,false,rfl,⟨rfl,rfl⟩⟩
  obtain ⟨f,v,e1,hf⟩:=hfm
  have w1:=zbX f hf
  rw [e1] at pc'
  refine PW.f (fun K k=>by simp (maxSteps:=3000000) (disch:=omega) only [go_sem,↓reduceIte,reduceCtorEq];refine VCx.call (pc') rfl ?_;simp (maxSteps:=3000000) (disch:=omega) only [go_sem,↓reduceIte,reduceCtorEq,hY0,hYs,z1,z3,w1,zcb,List.append_nil];exact k) ?_
  refine PW.ret (hret _ f v _ _ rfl rfl rfl ?_ ?_ hf)
  ·rw [←hr];exact e1
  ·rw [←hr]
 rw [if_neg h3] at hr
 (repeat refine PW.seq ?_);refine PW.cond (t:=_) rfl (fun h=> ?_) (fun h=> ?_)
 ·simp [h3] at h
 have l1:=zbZ a ha'
 have s1:=ziX a ha' (-1)
 refine PW.skip ?_
 refine PW.f (fun K k=>by simp (maxSteps:=3000000) (disch:=omega) only [go_sem,↓reduceIte,reduceCtorEq,hYi,hYj,l1,s1];exact k) ?_
 refine PW.f (fun K k=>by simp (maxSteps:=3000000) (disch:=omega) only [go_sem,↓reduceIte,reduceCtorEq,ln,ik];exact k) ?_
 have hz:SqL fm0.sq:=⟨rfl,rfl⟩
 have z5:(zC fm0).all PV.cell=true:=rfl
 have l2:=zbZ { a with op:= -1 } ha'
 have clr:=fun X hX=>zqu { a with op:= -1 } i X hX ha'
 have hXa:∀ b K,(H.set i (asB b)++K)[i]? =some (asB b):=fun b K=>hYi b K
 have hXs:∀ b c K,(H.set i (asB b)++K).set i (asB c)=H.set i (asB c)++K:=fun b c K=>hYj b K c
 have clr':=fun K=>clr _ (hXa { a with op:= -1 } K)
 simp only [hXs] at clr'
 have l3:=zbZ (As.clr { a with op:= -1 }) ha'
 refine PW.at [0,6,7,8,29] (?_:PW _ _ _ [(0,.ptr i 0 0),(6,.ptr H.length 0 0),(7,.bool false),(8,.ip (itL L) (k * 148)),(29,.int .i64 x.k)] (H.set i (asB { a with op:= -1 })++[⟨123,0,zC fm0⟩]) _) rfl rfl
 (repeat refine PW.seq ?_);refine PW.block ?_
 refine PW.e ?_
 by_cases h1:x.k=1
 ·rw [if_pos h1] at hr
  (repeat refine PW.seq ?_);refine PW.cond (t:=_) rfl (fun h=> ?_) (fun h=> ?_)
  rotate_left
  ·simp [h1] at h
  unfold As.seq at hr
  dsimp only at hr
  have u1:=zlu { a with op:= -1 } ha'
  have u2:=zqF { a with op:= -1 } ha'
  dsimp only at u1 u2
  suffices hrest:PW Tryz.prog _ _ [(0,.ptr i 0 0),(6,.ptr H.length 0 0),(7,.bool false),(8,.ip (itL L) (k * 148)),(47,.bool (!(a.kn&&sqE a.sq x.s)))] (H.set i (asB { a with op:= -1 })++[⟨123,0,zC fm0⟩]) _ by
   cases hkn:a.kn with
   | false=>
    rw [hkn] at hrest l2 u1 u2
    (repeat refine PW.seq ?_);refine PW.drawg mix (by kernel_rfl) fun K hK=> ?_;simp (maxSteps:=3000000) (disch:=omega) only [go_sem,↓reduceIte,reduceCtorEq,hYi,l2,u1,u2];refine hK _ _ ?_;clear hK K
    exact PW.at [0,6,7,8,47] hrest rfl rfl
   | true=>
    rw [hkn] at hrest l2 u1 u2
    (repeat refine PW.seq ?_);refine PW.drawg mix (by kernel_rfl) fun K hK=> ?_;simp (maxSteps:=3000000) (disch:=omega) only [go_sem,↓reduceIte,reduceCtorEq,hYi,l2,u1,u2,ln,is,↓ne];refine hK _ _ ?_;clear hK K
    exact PW.at [0,6,7,8,47] hrest rfl rfl
  cases hk2:(a.kn&&sqE a.sq x.s) with
  | true=>
   rw [if_pos hk2] at hr
   refine PW.us ?_
   refine PW.f (fun K k=>by simp (maxSteps:=3000000) (disch:=omega) only [go_sem,↓reduceIte,reduceCtorEq,hY0,hYs,z1,z3,z5];exact k) ?_
   refine PW.ret (hret { a with op:= -1 } fm0 false _ _ rfl rfl rfl ?_ ?_ hz)
   ·subst hr;rfl
   ·subst hr;rfl
  | false=>
   rw [if_neg (by rw [hk2];simp)] at hr
   refine PW.t ?_
   refine PW.f (fun K k=>by simp (maxSteps:=3000000) (disch:=omega) only [go_sem,↓reduceIte,reduceCtorEq];refine VCx.call (clr' _) rfl ?_;simp (maxSteps:=3000000) (disch:=omega) only [go_sem,↓reduceIte,reduceCtorEq];exact k) ?_
   have d1:=zsE (As.clr { a with op:= -1 }) a.sq ha'
   have d2:∀ X v,(sqc x.s++X).set 135 v=sqc x.s++X.set 0 v:=fun X v=>by
    rw [List.set_append_right _ _ (by rw [q1];omega),q1]
   have d3:List.take 135 (sqc x.s)=sqc x.s:=List.take_of_length_le (by omega)
   have d4:(H.set i (asB (As.clr { a with op:= -1 })))[i]? =some ⟨201,0,za6 (As.clr { a with op:= -1 })⟩:=by rw [List.getElem?_set_self hil];rfl
   have d5:∀ K B,((H.set i (asB (As.clr { a with op:= -1 }))++K).set i B)[i]? =some B:=fun K B=>by rw [List.getElem?_set_self (by simp;omega)]
   (repeat refine PW.seq ?_);refine PW.drawi [i] [(0,[0]),(50,[0]),(51,[0]),(61,[0]),(62,[0]),(63,[0]),(64,[0])] [] [60] mix (by kernel_rfl) (by simp<;>omega) fun K hK=> ?_
   simp (maxSteps:=3000000) (disch:=omega) only [go_sem,↓reduceIte,reduceCtorEq,hYi,l3,ln,is,q1,q2]
   refine VCj.read (fun _ _=>vs _) rfl ?_;simp (maxSteps:=3000000) (disch:=omega) only [go_sem,↓reduceIte,reduceCtorEq,hYi,d1,d2,d5,l3,q1,q2,List.length_append,List.set_set];refine hK _ _ ?_;clear hK K
   refine PW.at [0,6,7] (?_:PW _ _ _ [(0,.ptr i 0 0),(6,.ptr H.length 0 0),(7,.bool false)] (H.set i (asB { As.clr { a with op:= -1 } with sq:=x.s,kn:=zbM x.s })++[⟨123,0,zC fm0⟩]) _) rfl (hYj _ _ { As.clr { a with op:= -1 } with sq:=x.s,kn:=zbM x.s })
   refine PW.f (fun K k=>by simp (maxSteps:=3000000) (disch:=omega) only [go_sem,↓reduceIte,reduceCtorEq,hY0,hYs,z1,z3,z5];exact k) ?_
   refine PW.ret (hret { As.clr { a with op:= -1 } with sq:=x.s,kn:=zbM x.s } fm0 false _ _ rfl rfl rfl ?_ ?_ hz)
   ·subst hr;rfl
   ·subst hr;rfl
 rw [if_neg h1] at hr
 (repeat refine PW.seq ?_);refine PW.cond (t:=_) rfl (fun h=> ?_) (fun h=> ?_)
 ·simp [h1] at h
 refine PW.e ?_
 by_cases h2:x.k=2
 ·rw [if_pos h2] at hr
  (repeat refine PW.seq ?_);refine PW.cond (t:=_) rfl (fun h=> ?_) (fun h=> ?_)
  rotate_left
  ·simp [h2] at h
  unfold As.grp at hr
  (repeat refine PW.seq ?_);refine PW.block ?_
  refine PW.f (fun K k=>by simp (maxSteps:=3000000) (disch:=omega) only [go_sem,↓reduceIte,reduceCtorEq,ln,ic];exact k) ?_
  cases hc:x.gc with
  | true=>
   rw [hc] at hr
   refine PW.t ?_
   refine PW.f (fun K k=>by simp (maxSteps:=3000000) (disch:=omega) only [go_sem,↓reduceIte,reduceCtorEq];refine VCx.call (clr' _) rfl ?_;simp (maxSteps:=3000000) (disch:=omega) only [go_sem,↓reduceIte,reduceCtorEq];exact k) ?_
   refine PW.f (fun K k=>by simp (maxSteps:=3000000) (disch:=omega) only [go_sem,↓reduceIte,reduceCtorEq,hY0,hYs,z1,z3,z5];exact k) ?_
   refine PW.ret (hret (As.clr { a with op:= -1 }) fm0 false _ _ rfl rfl rfl ?_ ?_ hz)
   ·subst hr;rfl
   ·subst hr;rfl
  | false=>
   rw [hc] at hr
   refine PW.u ?_
   refine PW.f (fun K k=>by simp (maxSteps:=3000000) (disch:=omega) only [go_sem,↓reduceIte,reduceCtorEq,ln,ib];exact k) ?_
   cases hb:x.gb with
   | true=>
    rw [hb] at hr
    refine PW.t ?_
    have s4:=zf4 { a with op:= -1 } ha' 2
    dsimp only at s4
    refine PW.f (fun K k=>by simp (maxSteps:=3000000) (disch:=omega) only [go_sem,↓reduceIte,reduceCtorEq,hYi,hYj,l2,s4];exact k) ?_
    refine PW.f (fun K k=>by simp (maxSteps:=3000000) (disch:=omega) only [go_sem,↓reduceIte,reduceCtorEq,hY0,hYs,z1,z3,z5];exact k) ?_
    refine PW.ret (hret { a with op:= -1,lk:=2 } fm0 false _ _ rfl rfl rfl ?_ ?_ hz)
    ·subst hr;rfl
    ·subst hr;rfl
   | false=>
    rw [hb] at hr
    refine PW.u ?_
    have s4:=zf4 { a with op:= -1 } ha' 0
    dsimp only at s4
    refine PW.f (fun K k=>by simp (maxSteps:=3000000) (disch:=omega) only [go_sem,↓reduceIte,reduceCtorEq,hYi,hYj,l2,s4];exact k) ?_
    refine PW.f (fun K k=>by simp (maxSteps:=3000000) (disch:=omega) only [go_sem,↓reduceIte,reduceCtorEq,hY0,hYs,z1,z3,z5];exact k) ?_
    refine PW.ret (hret { a with op:= -1,lk:=0 } fm0 false _ _ rfl rfl rfl ?_ ?_ hz)
    ·subst hr;rfl
    ·subst hr;rfl
 rw [if_neg h2] at hr
 (repeat refine PW.seq ?_);refine PW.cond (t:=_) rfl (fun h=> ?_) (fun h=> ?_)
 ·simp [h2] at h
 refine PW.e ?_
 by_cases h4:x.k=4
 ·rw [if_pos h4] at hr
  (repeat refine PW.seq ?_);refine PW.cond (t:=_) rfl (fun h=> ?_) (fun h=> ?_)
  rotate_left
  ·simp [h4] at h
  refine PW.f (fun K k=>by simp (maxSteps:=3000000) (disch:=omega) only [go_sem,↓reduceIte,reduceCtorEq];refine VCx.call (clr' _) rfl ?_;simp (maxSteps:=3000000) (disch:=omega) only [go_sem,↓reduceIte,reduceCtorEq];exact k) ?_
  have s4:=zsF (As.clr { a with op:= -1 }) ha' false
  refine PW.f (fun K k=>by simp (maxSteps:=3000000) (disch:=omega) only [go_sem,↓reduceIte,reduceCtorEq,hYi,hYj,l3,s4];exact k) ?_
  refine PW.f (fun K k=>by simp (maxSteps:=3000000) (disch:=omega) only [go_sem,↓reduceIte,reduceCtorEq,hY0,hYs,z1,z3,z5];exact k) ?_
  refine PW.ret (hret (As.fin { a with op:= -1 }) fm0 false _ _ rfl rfl rfl ?_ ?_ hz)
  ·subst hr;rfl
  ·subst hr;rfl
 ·rw [if_neg h4] at hr
  (repeat refine PW.seq ?_);refine PW.cond (t:=_) rfl (fun h=> ?_) (fun h=> ?_)
  ·simp [h4] at h
  refine PW.skip ?_
  refine PW.f (fun K k=>by simp (maxSteps:=3000000) (disch:=omega) only [go_sem,↓reduceIte,reduceCtorEq,hY0,hYs,z1,z3,z5];exact k) ?_
  refine PW.ret (hret { a with op:= -1 } fm0 false _ _ rfl rfl rfl ?_ ?_ hz)
  ·subst hr;rfl
  ·subst hr;rfl
theorem zpN (L:List It) (hL:∀ x∈L,SqOk x.s) (a:As) (k:Nat) (hk:k<L.length) (ha:SqOk a.sq) (hop:OpR L a.op):SqOk (a.item L k L[k]).1.sq∧OpR L (a.item L k L[k]).1.op∧∀ f,(a.item L k L[k]).2=some f→SqOk f.sq:=by
 have h0:OpR L (-1):=.inl rfl
 have hx:=hL _ (List.getElem_mem hk)
 unfold As.item
 split
 ·unfold As.pic
  split
  ·exact ⟨ha,h0,fun f h=>by cases h⟩
  ·split
   ·exact ⟨ha,h0,fun f h=>by cases h;exact ha⟩
   ·split
    ·exact ⟨ha,h0,fun f h=>by cases h;exact ha⟩
    ·split
     ·exact ⟨ha,.inr ⟨k,rfl,hk⟩,fun f h=>by cases h⟩
     ·exact ⟨ha,h0,fun f h=>by cases h⟩
 ·split
  ·unfold As.seq
   split
   ·exact ⟨ha,h0,fun f h=>by cases h⟩
   ·exact ⟨hx,h0,fun f h=>by cases h⟩
  ·split
   ·unfold As.grp
    split
    ·exact ⟨ha,h0,fun f h=>by cases h⟩
    ·split
     ·exact ⟨ha,h0,fun f h=>by cases h⟩
     ·exact ⟨ha,h0,fun f h=>by cases h⟩
   ·split
    ·exact ⟨ha,h0,fun f h=>by cases h⟩
    ·exact ⟨ha,h0,fun f h=>by cases h⟩
end Go.Proofs.YtjgmdlcjbgiekaaGreatDoor.Sc
namespace Go.Proofs.YtjgmdlcjbgiekaaGreatDoor.Pm
set_option linter.all false
open Go.RowKit
variable {P:Program} {H:za} {F:Fr}
theorem zdA {all:List Oper} {K K':Fr→za→Prop} (hk:∀ F H,K F H→K' F H):∀ (l:List Oper) (F:Fr) (H:za),zbj P all l K F H→zbj P all l K' F H
 | [],F,H,h=>hk _ _ h
 | o::r,F,H,h=>by
  simp only [zbj] at h ⊢
  split at h
  ·rename_i b hb
   refine ⟨fun hb'=> ?_,fun hb'=>zdA hk r _ _ (h.2 hb')⟩
   have h1:=h.1 hb'
   split at h1
   ·obtain ⟨R,h2,h3⟩:=h1
    exact ⟨R,h2,fun v H' hR=>zdA hk r _ _ (h3 v H' hR)⟩
   ·split at h1
    ·exact zdA hk r _ _ h1
    ·exact h1.elim
  ·exact h.elim
section rules
variable {E:Env} {Q:Exit→Fr→za→Prop}
def YQ (P:Program) (ds:List (Option Nat)) (o:Oper) (x:Operand) (xs:Array Operand) (rest:List Oper) (K:Fr→za→Prop):Fr→za→Prop:=fun F' H'=>
 zac ds F' o=some true∧∃ v H'',YldOk P (ev (slot F') x) (xs.toList.map (ev (slot F'))) H' v H''∧VO P ds rest (some (put F' o.dst v,H'')) K
theorem PW.ry {id:Nat} {ops:Array Oper} (n:Nat) {o:Oper} {x:Operand} {xs:Array Operand} {ts:Array TypeId} (hd:ops.toList.all (zR E.N)=true) (hnd:ops.toList.all zaK=true) (hn:ops.toList.drop n=o::ops.toList.drop (n+1)) (ho:o.op= .call ⟨.value x,xs,ts⟩)
  (h:∀ K:Fr→za→Prop,(∀ F' H',Q .normal F' H'→K F' H')→VO P (ops.toList.map (·.dst)) (ops.toList.take n) (some (F,H)) (YQ P (ops.toList.map (·.dst)) o x xs (ops.toList.drop (n+1)) K)):
  PW P E (.region id ops false) F H Q:=by
 refine PW.region_y n hd hnd (zdA ?_ _ _ _ (zag _ _ _ (h _ fun _ _ h=>h)))
 rintro F' H' ⟨h1,v,H'',h2,h3⟩
 exact ⟨o,ops.toList.drop (n+1),x,xs,ts,v,H'',hn,zu _ _ _ h1,ho,h2,zag _ _ _ h3⟩
theorem PWr.rg {l id:Nat} {ops:Array Oper} (hd:ops.toList.all (zR E.N)=true) (hn:ops.toList.all zaK=true) (lo:∀ F H,¬ Q .outgrown F H) (h:∀ K:Fr→za→Prop,(∀ F' H',Q .normal F' H'→K F' H')→VO P (ops.toList.map (·.dst)) ops.toList (some (F,H)) K):
  PWr P E l (.region id ops false) F H Q:=PWr.region hd hn lo (zag _ _ _ (h _ fun _ _ h=>h))
theorem PWr.at {l:Nat} {c:Code} {F2:Fr} {H2:za} (ks:List Nat) (h:PWr P E l c F2 H2 Q) (hF:kp ks F=F2) (hH:H=H2):PWr P E l c F H Q:=PWr.keep ks (by rw [hF,hH];exact h)
theorem PWr.mono {l:Nat} {c:Code} {Q':Exit→Fr→za→Prop} (h:PWr P E l c F H Q) (hq:∀ e F H,Q e F H→Q' e F H):PWr P E l c F H Q':=fun hs C a w hd hw hf=>
 wpIn_mono (h hs C a w hd hw hf) fun _ _ _ ⟨C',F',H',q1,q2,q3,q4,q5,q6⟩=>⟨C',F',H',q1,q2,q3,q4,q5,hq _ _ _ q6⟩
theorem PWr.seq_to {l:Nat} {x y:Code} (ks:List Nat) (F1:Fr) (H1:za) (hx:PWr P E l x F H (zgf (fun F' H'=>kp ks F'=F1∧H'=H1) Q)) (hy:PWr P E l y F1 H1 Q):PWr P E l (.seq x y) F H Q:=
 PWr.seq (hx.mono fun e F' H' hq=>by
  cases e with
  | normal=>obtain ⟨h1,h2⟩:=hq;subst h1;subst h2;exact hy.keep ks
  | _=>exact hq)
end rules
section rules
variable {E:Env} {D:List Deferred} {Q:Exit→List Deferred→Fr→za→Prop}
theorem PWM.rg {id:Nat} {ops:Array Oper} (hd:ops.toList.all (zR E.N)=true) (hn:ops.toList.all zaK=true) (h:∀ K:Fr→za→Prop,(∀ F' H',Q .normal D F' H'→K F' H')→VO P (ops.toList.map (·.dst)) ops.toList (some (F,H)) K):
  PWM P E (.region id ops false) D F H Q:=PWM.region hd hn (zag _ _ _ (h _ fun _ _ h=>h))
theorem PWM.at {c:Code} {F2:Fr} {H2:za} (ks:List Nat) (h:PWM P E c D F2 H2 Q) (hF:kp ks F=F2) (hH:H=H2):PWM P E c D F H Q:=PWM.keep ks (by rw [hF,hH];exact h)
theorem PWM.view {c:Code} {F2:Fr} {H2:za} (hv:Vs E F H F2 H2) (h:PWM P E c D F2 H2 Q):PWM P E c D F H Q:=fun hs C a w hd hw hf=>by
 obtain ⟨C2,g1,g2,g3⟩:=hv hs C a w hw hf
 exact wpIn_mono (h hs C2 a w hd g2 g3) fun _ _ _ hp=>hp.trans g1 (.refl _ _)
end rules
end Go.Proofs.YtjgmdlcjbgiekaaGreatDoor.Pm
namespace Go.Proofs.YtjgmdlcjbgiekaaGreatDoor.Sc
set_option linter.all false
open Pm Ty Go.RowKit
theorem zno (L:List It) (fl:Bool) (H:za):CallOk Tryz.prog 55 [.slice (itL L) L.length fl] H (.func 109 [] [.ptr H.length 0 0]) (H++[⟨22,0,[.slice (itL L) L.length fl]⟩]):=by
 refine CallOk.body (F0:=[(0,.slice (itL L) L.length fl)]) Tryz.func55 rfl Tryz.ntmps55 Tryz.results55 rfl (by kernel_rfl) rfl ?_
 refine PW.e ?_
 refine PW.e ?_
 refine PW.ret ⟨.func 109 [] [.ptr H.length 0 0],by simp (maxSteps:=3000000) (disch:=omega) only [go_sem,↓reduceIte,reduceCtorEq,zd,zg,List.mapM_cons,List.mapM_nil,Option.pure_def,Option.bind_eq_bind,Option.bind_some,Array.toList],?_⟩
 exact .inl ⟨rfl,rfl⟩
structure AsOk (L:List It) (a:As):Prop where
 sq:SqOk a.sq
 op:OpR L a.op
 lk: -1≤a.lk∧a.lk≤2
def zvm (f:FmY):Prop:=SqOk f.sq∧-1≤f.lk∧f.lk≤2
theorem zmf (L:List It) (hL:∀ x∈L,SqOk x.s) (a:As) (k:Nat) (hk:k<L.length) (h:AsOk L a):AsOk L (a.item L k L[k]).1∧∀ f,(a.item L k L[k]).2=some f→zvm f:=by
 obtain ⟨q1,q2,q3⟩:=zpN L hL a k hk h.sq h.op
 have h0: -1≤(-1:Int)∧(-1:Int)≤2:=by omega
 have hl:=h.lk
 have key:(-1≤(a.item L k L[k]).1.lk∧(a.item L k L[k]).1.lk≤2)∧∀ f,(a.item L k L[k]).2=some f→-1≤f.lk∧f.lk≤2:=by
  unfold As.item
  split
  ·unfold As.pic
   split
   ·exact ⟨hl,fun f h=>by cases h⟩
   ·split
    ·exact ⟨h0,fun f h=>by cases h;exact hl⟩
    ·split
     ·exact ⟨h0,fun f h=>by cases h;exact hl⟩
     ·split
      ·exact ⟨hl,fun f h=>by cases h⟩
      ·exact ⟨hl,fun f h=>by cases h⟩
  ·split
   ·unfold As.seq
    split
    ·exact ⟨hl,fun f h=>by cases h⟩
    ·exact ⟨h0,fun f h=>by cases h⟩
   ·split
    ·unfold As.grp
     split
     ·exact ⟨h0,fun f h=>by cases h⟩
     ·split
      ·exact ⟨by show -1≤(2:Int)∧(2:Int)≤2;omega,fun f h=>by cases h⟩
      ·exact ⟨by show -1≤(0:Int)∧(0:Int)≤2;omega,fun f h=>by cases h⟩
    ·split
     ·exact ⟨h0,fun f h=>by cases h⟩
     ·exact ⟨hl,fun f h=>by cases h⟩
 exact ⟨⟨q1,q2,key.1⟩,fun f hf=>⟨q3 f hf,key.2 f hf⟩⟩
theorem DpG.mono {d:Dp} {m n:Nat} (h:DpG d m) (hm:m≤n):DpG d n:=⟨⟨h.ok.sq,by have:=h.ok.n;omega,h.ok.sh,h.ok.lk,h.ok.new,h.ok.old,h.ok.wt⟩,h.cnt⟩
theorem zs5 {d:Dp} {m:Nat} (h:DpG d m) (rs:Bool):DpG (d.res rs) m:=by
 unfold Dp.res
 split
 ·obtain ⟨⟨⟨q1,q2,q3,q4,q5,q6,q7⟩,q8⟩,q9⟩:=zez h
  have f3:=(zbh d).2.2.1
  have f4:=zhK d
  refine ⟨⟨q1,q2,q3,by simp only;omega,by simp only;omega,by simp only;omega,fun h=> ?_⟩,q8⟩
  simp only at h
  rw [f3] at h;cases h
 ·exact h
theorem zte {d:Dp} {m:Nat} (h:DpG d m) (lk:Int) (hl: -1≤lk∧lk≤2):DpG (d.lnk lk) m:=by
 unfold Dp.lnk
 split
 ·rename_i hne
  exact ⟨⟨h.ok.sq,h.ok.n,h.ok.sh,by simp only;omega,h.ok.new,h.ok.old,h.ok.wt⟩,h.cnt⟩
 ·exact h
theorem zod {d:Dp} {f:FmY} {m:Nat} (h:DpG d m) (hf:zvm f):DpG (d.step f) (m+1):=zsa (zte (zs5 h _) _ hf.2) hf.1.toL
def kx (L:List It) (fl:Bool) (n b:Nat) (ob:Obj):za:=[⟨22,0,[.slice (itL L) L.length fl]⟩,⟨0,0,[.lp b (.deferred (some []))]⟩,⟨0,0,[.lp (b+1) ob]⟩]
def kH (H:za) (L:List It) (fl:Bool) (b:Nat) (ob:Obj) (d:Dp):za:=H++(dpB (H.length+1) d::enB d.en::kx L fl H.length b ob)
theorem zcT (H:za) (L:List It) (fl:Bool) (b:Nat) (ob:Obj) (d:Dp):(kH H L fl b ob d).length=H.length+5:=by simp [kH,kx]
theorem zdp (H:za) (L:List It) (fl:Bool) (b:Nat) (ob:Obj) (d:Dp) (X:za) (j:Nat) (hj:j<5):(kH H L fl b ob d++X)[H.length+j]? =(dpB (H.length+1) d::enB d.en::kx L fl H.length b ob)[j]? :=by
 rw [List.getElem?_append_left (by rw [zcT];omega),kH,List.getElem?_append_right (by omega),Nat.add_sub_cancel_left]
theorem kH_c (H:za) (L:List It) (fl:Bool) (b:Nat) (ob:Obj) (d:Dp) (X:za):(kH H L fl b ob d++X)[H.length+2]? =some ⟨22,0,[.slice (itL L) L.length fl]⟩:=zdp H L fl b ob d X 2 (by omega)
theorem kH_l (H:za) (L:List It) (fl:Bool) (b:Nat) (ob:Obj) (d:Dp) (X:za):(kH H L fl b ob d++X)[H.length+4]? =some ⟨0,0,[.lp (b+1) ob]⟩:=zdp H L fl b ob d X 4 (by omega)
theorem ztf (H:za) (L:List It) (fl:Bool) (b:Nat) (ob:Obj) (d:Dp) (X:za):DpH (kH H L fl b ob d++X) H.length (H.length+1) d:=
 ⟨zdp H L fl b ob d X 0 (by omega),zdp H L fl b ob d X 1 (by omega),by omega⟩
theorem zh2 (H K:za) (j:Nat) (B:Blk):(H++K).set (H.length+j) B=H++K.set j B:=by
 rw [List.set_append_right _ _ (by omega),Nat.add_sub_cancel_left]
theorem zpK (H:za) (L:List It) (fl:Bool) (b:Nat) (ob:Obj) (d d':Dp) (X:za):tw (kH H L fl b ob d++X) H.length (H.length+1) (dpB (H.length+1) d') (enB d'.en)=kH H L fl b ob d'++X:=by
 rw [zhV _ _ _ _ _ _ (by rw [zcT];omega) (by rw [zcT];omega)]
 congr 1
 unfold tw kH
 have e0:=fun K B=>zh2 H K 0 B
 simp only [Nat.add_zero] at e0
 rw [e0,zh2]
 rfl
theorem zpL (H:za) (L:List It) (fl:Bool) (b:Nat) (ob ob':Obj) (d:Dp) (X:za):(kH H L fl b ob d++X).set (H.length+4) ⟨0,0,[.lp (b+1) ob']⟩=kH H L fl b ob' d++X:=by
 rw [List.set_append_left _ _ (by rw [zcT];omega)]
 congr 1
 unfold kH
 rw [zh2]
 rfl
theorem zpM {H:za} {L:List It} {fl:Bool} {b:Nat} {ob:Obj} {d d':Dp} {X:za} (h:HSc (kH H L fl b ob d++X)):HSc (kH H L fl b ob d'++X):=by
 rw [←zpK H L fl b ob d d' X]
 exact zsZ (zqi _ _ _ (by simp [zcT];omega)) (zcZ _ _) h
theorem _root_.Go.Proofs.YtjgmdlcjbgiekaaGreatDoor.Pm.HSc.snoc {A:za} (h:HSc A) {k:Blk} (hk:∀ x∈k.cells,Scoped (A.length+1) x):HSc (A++[k]):=fun j k' hk' x hx=>by
 rw [List.length_append]
 rcases zD hk' with ⟨_,hk'⟩|⟨_,rfl⟩
 ·exact (h j k' hk' x hx).mono (by simp)
 ·exact hk x hx
theorem zjL {α:Type} {l:List α} {k:Nat} {x:α} {r:List α} (h:l.drop k=x::r):∃ hk:k<l.length,l[k]=x∧l.drop (k+1)=r:=by
 have hk:k<l.length:=by
  rcases Nat.lt_or_ge k l.length with h1|h1
  ·exact h1
  ·rw [List.drop_eq_nil_of_le h1] at h;cases h
 rw [List.drop_eq_getElem_cons hk] at h
 injection h with h1 h2
 exact ⟨hk,h1,h2⟩
set_option maxHeartbeats 4000000 in
set_option maxRecDepth 100000 in
theorem zrZ (L:List It) (fl:Bool) (hL:∀ x∈L,SqOk x.s) (hn:L.length≤800000) (H:za) (b:Nat) (ob:Obj) (y:PV) (hys:Scoped (H.length+5) y) (d0:Dp) (hd0:DpG d0 0)
  (hy:∀ (d:Dp) (f:FmY) (X:za),DpG d 800000→zvm f→YldOk Tryz.prog y [.agg (zC f)] (kH H L fl b ob d++X) (.bool true) (kH H L fl b ob (d.step f)++X)):
  CallOk Tryz.prog 109 [y,.ptr (H.length+2) 0 0] (kH H L fl b ob d0) (.tup []) (kH H L fl b ob (dpN L (as0 sq0) d0 0 L)):=by
 have ln:=zcU L hL
 have kc:=fun d X=>kH_c H L fl b ob d X
 have kc0:(kH H L fl b ob d0)[H.length+2]? =some ⟨22,0,[.slice (itL L) L.length fl]⟩:=by have:=kc d0 [];rwa [List.append_nil] at this
 have kl:=fun d=>zcT H L fl b ob d
 have z0:za6 (as0 sq0)=za6 (as0 sq0):=rfl
 refine CallOk.body (F0:=[(0,y),(1,.ptr (H.length+2) 0 0)]) Tryz.func109 rfl Tryz.ntmps109 Tryz.results109 rfl (by kernel_rfl) rfl ?_
 refine PW.e ?_
 refine PW.at [0,1,3] (?_:PW _ _ _ [(0,y),(1,.ptr (H.length+2) 0 0),(3,.ptr (H.length+5) 0 0)] (kH H L fl b ob d0++[asB (as0 sq0)]) _) (by rw [←kl d0];rfl) rfl
 refine PW.f (fun K k=>by simp (maxSteps:=3000000) (disch:=omega) only [go_sem,↓reduceIte,reduceCtorEq,kc];exact k) ?_
 (repeat refine PW.seq ?_);refine PW.block (PW.loop ?_)
 suffices hloop:∀ (r:List It) (k:Nat) (a:As) (d:Dp),L.drop k=r→AsOk L a→DpG d k→k≤L.length→dpN L a d k r=dpN L (as0 sq0) d0 0 L→
   PL Tryz.prog _ _ [(0,y),(1,.ptr (H.length+2) 0 0),(3,.ptr (H.length+5) 0 0),(9,.int .i64 (L.length:Int)),(10,.int .i64 (k:Int))] (kH H L fl b ob d++[asB a]) _ by
  exact PL.at [0,1,3,9,10] (hloop L 0 (as0 sq0) d0 rfl ⟨⟨by decide,by decide,by decide,by decide,by decide,by decide,rfl,rfl⟩,.inl rfl,by decide⟩ hd0 (by omega) rfl) rfl rfl
 intro r
 induction r with
 | nil=>
  intro k a d hr ha hd hk he
  have hkl:k=L.length:=by
   have:=List.drop_eq_nil_iff.1 hr
   omega
  subst hkl
  refine PL.round ?_;refine PW.e ?_
  refine PW.u ?_
  refine PW.exit ?_
  rw [←he]
  refine ⟨_,rfl,?_⟩
  refine Fin.cut rfl (by rw [kl,kl]) (fun h=> ?_) (.id (.tup (by simp)))
  have:=zpM (X:=[]) (d':=d) (by rw [List.append_nil];exact h)
  rwa [List.append_nil] at this
 | cons x r ih=>
  intro k a d hr ha hd hk he
  obtain ⟨hkl,hx,hr2⟩:=zjL hr
  refine PL.round ?_;refine PW.e ?_
  refine PW.t ?_
  refine PW.skip ?_
  (repeat refine PW.seq ?_);refine PW.block ?_
  refine PW.e ?_
  have hi:(kH H L fl b ob d++[asB a])[H.length+5]? =some (asB a):=by rw [←kl d];simp
  have io:=zr1 L fl k hkl hL a (H.length+5) _ hi ha.sq ha.op
  obtain ⟨g1,g2⟩:=zmf L hL a k hkl ha
  have hset:∀ b',(kH H L fl b ob d++[asB a]).set (H.length+5) (asB b')=kH H L fl b ob d++[asB b']:=fun b'=>by rw [←kl d];simp
  rw [hset] at io
  have e0:dpN L a d k (x::r)=dpN L (a.item L k x).1 (d.stepO (a.item L k x).2) ((k:Int)+1) r:=rfl
  rw [e0,←hx] at he
  have inext:=fun (d':Dp) (h1:DpG d' (k+1)) (h2:d'=d.stepO (a.item L k L[k]).2)=>ih (k+1) (a.item L k L[k]).1 d' hr2 g1 h1 (by omega) (by rw [←he,h2];rfl)
  have scA:∀ d' b',HSc (kH H L fl b ob d0)→HSc (kH H L fl b ob d'++[asB b']):=fun d' b' h0=>by
   have h1:HSc (kH H L fl b ob d'):=by
    have:=zpM (X:=[]) (d':=d') (by rw [List.append_nil];exact h0)
    rwa [List.append_nil] at this
   exact HSc.snoc h1 (zqE _ _)
  have trim:∀ d' b' K,Vs (⟨27,kH H L fl b ob d0⟩:Env) [(0,y),(1,.ptr (H.length+2) 0 0),(3,.ptr (H.length+5) 0 0),(9,.int .i64 (L.length:Int)),(10,.int .i64 ((k+1:Nat):Int))] ((kH H L fl b ob d'++[asB b'])++K) [(0,y),(1,.ptr (H.length+2) 0 0),(3,.ptr (H.length+5) 0 0),(9,.int .i64 (L.length:Int)),(10,.int .i64 ((k+1:Nat):Int))] (kH H L fl b ob d'++[asB b']):=fun d' b' K=>by
   have hl1:(kH H L fl b ob d'++[asB b']).length=H.length+6:=by simp [zcT]
   refine Vs.trim (scA d' b') (by rw [hl1,zcT];omega) rfl ?_
   rw [hl1]
   exact ⟨.id (hys.mono (by omega)),.id (.ptr (by omega)),.id (.ptr (by omega)),.id (.int _ _),.id (.int _ _),trivial⟩
  generalize a.item L k L[k]=q at *
  obtain ⟨a',o⟩:=q
  cases o with
  | none=>
   have z1:(zC fm0).length=145:=rfl
   have z5:(zC fm0).all PV.cell=true:=rfl
   have z6:List.take 145 (zC fm0)=zC fm0:=rfl
   unfold fmO at io
   dsimp only at io
   refine PW.f (fun K k=>by simp (maxSteps:=3000000) (disch:=omega) only [go_sem,↓reduceIte,reduceCtorEq,kc];refine VCx.call (io) rfl ?_;simp (maxSteps:=3000000) (disch:=omega) only [go_sem,↓reduceIte,reduceCtorEq,z1,z5,z6];exact k) ?_
   refine PW.e ?_
   refine PW.us ?_
   refine PW.e ?_
   refine PL.keep [0,1,3,9,10] ?_
   refine PL.view ?_ (inext d (hd.mono (by omega)) rfl)
   have:=trim d a' [⟨123,0,zC fm0⟩]
   rw [List.append_assoc] at this
   exact this
  | some f=>
   obtain ⟨hf1,hf2⟩:=g2 f rfl
   have z1:=zbX f hf1.toL
   have z5:=zcb f
   have z6:List.take 145 (zC f)=zC f:=List.take_of_length_le (by omega)
   unfold fmO at io
   dsimp only at io
   refine PW.f (fun K k=>by simp (maxSteps:=3000000) (disch:=omega) only [go_sem,↓reduceIte,reduceCtorEq,kc];refine VCx.call (io) rfl ?_;simp (maxSteps:=3000000) (disch:=omega) only [go_sem,↓reduceIte,reduceCtorEq,z1,z5,z6];exact k) ?_
   have yo:=hy d f [asB a',⟨123,0,zC f⟩] (hd.mono (by omega)) ⟨hf1,hf2⟩
   (repeat refine PW.seq ?_);refine PW.ry 4 rfl rfl rfl rfl fun K hK=> ?_
   simp (maxSteps:=3000000) (disch:=omega) only [go_sem,↓reduceIte,reduceCtorEq,z1,z6]
   refine ⟨rfl,.bool true,_,yo,?_⟩
   simp (maxSteps:=3000000) (disch:=omega) only [go_sem,↓reduceIte,reduceCtorEq]
   refine hK _ _ ?_;clear hK K
   refine PW.us ?_
   refine PW.e ?_
   refine PL.keep [0,1,3,9,10] ?_
   refine PL.view ?_ (inext (d.step f) (zod hd ⟨hf1,hf2⟩) rfl)
   have:=trim (d.step f) a' [⟨123,0,zC f⟩]
   rw [List.append_assoc] at this
   exact this
end Go.Proofs.YtjgmdlcjbgiekaaGreatDoor.Sc
