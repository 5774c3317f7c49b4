/-
  Parts of the proof. No condition.
-/
import Derived.Test.YtleejngibkbjnaaGreatDoorW35
import Derived.Test.YtleejngibkbjnaaGreatDoorW37
open Go.Proofs.Tryz
set_option linter.all false
set_option maxRecDepth 100000
set_option maxHeartbeats 32000000
namespace Go.Proofs.YtleejngibkbjnaaGreatDoor.Sc
open Pm Ty Go.RowKit
theorem zw0(s t:Sq)(hs:SqL s)(ht:SqL t):zdF prog .neq 37 (.agg (sqc s)) (.agg (sqc t))=some (.bool (!sqE s t)):=by
 have e:∀ x y,zdF prog .neq 37 x y=match za0 prog 12 37 x y with|some b=>peq .neq b|none=>none:=λx y=>by kernel_rfl
 rw[e,zvx,zo2 _ _ _ _ _ _ (zu9 _ _ _ _ _ _ _ _ (zzV s hs) (zzV t ht) (eqU _ _ hs.ia ht.ia) (zzU s hs) (zzU t ht) (eqU _ _ hs.ie ht.ie)) (zxZ prog) (sqA s t) (sq6 ..)];rfl
theorem zwn(a:As)(s:Sq)(ha:SqL a.sq):(zbt a).drop 135=[.bool a.kn,.int .i64 a.op,.bool a.rs,.int .i64 a.lk]:=dE (zP _ ha)
theorem zvN(L:List It)(fl:Bool)(k:Nat)(hk:k<L.length)(hL:∀ x∈L,SqOk x.s)(a:As)(i:Nat)(H:za)(hi:H[i]? =some (asB a))(ha:SqOk a.sq)(hop:OpR L a.op):
  CallOk prog 36 [.ptr i 0 0,.slice (itL L) L.length fl,.int .i64 (k:Int)] H (fmO (a.item L k L[k]).2) (H.set i (asB (a.item L k L[k]).1)):=by
 have hil:i<H.length:=(gA.1 hi).1;have ha':=ha.toL;have hi':∀ K,(H++K)[i]? =some (asB a):=λK=>by rw[gK hil];exact hi
 have pc:=λK=>zut L fl k hk hL a i (H++K) (hi' K) ha hop;have ln:=zbg L hL;have hx:=hL _ (uY hk);have ik:=zfU L hL k 0 hk om;have is:List.take 135 (List.drop (k * 148+1) (itL L))=sqc L[k].s:=by rw[zeP L hL k 1 135 hk om];exact ztl _ hx
 have ic:(itL L)[k * 148+136]? =some (.bool L[k].gc):=by rw[zfU L hL k 136 hk om];exact ziC _ hx 0
 have ib:(itL L)[k * 148+137]? =some (.bool L[k].gb):=by rw[zfU L hL k 137 hk om];exact ziC _ hx 1
 rw[ztp,vQ]at ik;have vs:=λK=>zoy L[k].s K hx;have ne:=zw0 a.sq L[k].s ha' hx.toL;have q1:=zP _ hx.toL;have q2:=zbv L[k].s;have af:=λb o K=>zlj H K i b (fmO o) hil (zn7 _ _);have hX4:∀ K b,(H++K).set i (asB b)=H.set i (asB b)++K:=λK b=>uL _ _ hil;simp only[hX4]at pc;generalize hr:a.item L k L[k]=r;unfold As.item at hr;generalize L[k]=x at *;have z1:(zD fm0).length=145:=rfl;have z3:List.drop 145 (zD fm0)=[]:=rfl;have hlen:∀ b,(H.set i (asB b)).length=H.length:=λb=>by simp
 have hY0:∀ b F,(H.set i (asB b)++[F])[H.length]? =some F:=λb F=>by rw[gN sp];simp
 have hYs:∀ b F B,(H.set i (asB b)++[F]).set H.length B=H.set i (asB b)++[B]:=λb F B=>by rw[uC _ _ sp];simp
 have hYi:∀ b K,(H.set i (asB b)++K)[i]? =some ⟨113,0,zbt b⟩:=λb K=>by rw[gK (by simp;omega),vN hil];rfl
 have hYj:∀ b K c,(H.set i (asB b)++K).set i ⟨113,0,zbt c⟩=H.set i (asB c)++K:=λb K c=>by rw[uL _ _ (by simp;omega),vL];rfl
 have hret:∀ b f v (Fx:Fr) (Y:za),slot Fx 6= .ptr H.length 0 0->slot Fx 7= .bool v->Y=H.set i (asB b)++[⟨81,0,zD f⟩]->fmO r.2= .tup [.agg (zD f),.bool v]->b=r.1->SqL f.sq->zqe prog [.cell 6 81,.tmp 7] (Pm.Fin H (fmO r.2) (H.set i (asB r.1))) .ret Fx Y:=λb f v Fx Y h6 h7 e3 e1 e2 hf=>by subst e3;have w1:=zcp f hf;have w2:List.take 145 (zD f)=zD f:=gH om;refine⟨.tup [.agg (zD f),.bool v],by simp(maxSteps:=9^9) (disch:=omega) only[go_sem,hY0,w1,w2,h6,h7,zw,zJ,uR,vA,uN,uD,uO],?_⟩;have:=af b r.2 [⟨81,0,zD f⟩];rw[e1]at this |-;rw[e2]at this |-;exact this
 refine .go func36 ntmps36 results36 ?_;refine .e ?_;refine .a (?_:PW _ _ _ [(0,.ptr i 0 0),(1,.slice (itL L) L.length fl),(2,.int .i64 (k:Int)),(6,.ptr H.length 0 0),(7,.bool false)] (H.set i (asB a)++[⟨81,0,zD fm0⟩]) _) rfl (by rw[zdx hi];rfl);refine .g ln ?_;refine .g (nq2 ln ik) ?_;by_cases h3:x.k=3
 .rw[gD h3]at hr;refine .c (λh=> ?_) (λh=> ?_);rotate_left
  .simp[h3]at h
  rw[zdx hi];have pc':=pc [⟨81,0,zD fm0⟩];have hfm:∃ f v,fmO (a.pic L k x.p).2= .tup [.agg (zD f),.bool v]/\SqL f.sq:=by
   unfold As.pic;split
   .exact⟨fm0,false,rfl,⟨rfl,rfl⟩⟩
   .split
    .exact⟨_,true,rfl,ha'⟩
    .split
     .exact⟨_,true,rfl,ha'⟩
     .split
      .exact⟨fm0,false,rfl,⟨rfl,rfl⟩⟩
      .exact⟨fm0,false,rfl,⟨rfl,rfl⟩⟩
  obtain⟨f,v,e1,hf⟩:=hfm;have w1:=zcp f hf;rw[e1]at pc';refine .f (λK k=>by simp(maxSteps:=9^9) (disch:=omega) only[go_sem];refine VCx.call (pc') rfl ?_;simp(maxSteps:=9^9) (disch:=omega) only[go_sem,hY0,hYs,z1,z3,w1,zcF,gQ];exact k) ?_;refine .ret (hret _ f v _ _ rfl rfl rfl ?_ ?_ hf)
  .rw[<-hr];exact e1
  .rw[<-hr]
 rw[gC h3]at hr;refine .c (λh=> ?_) (λh=> ?_)
 .simp[h3]at h
 have l1:=zcr a ha';have s1:=zlh a ha' (-1);refine .skip (.g (nq2 hYi (nq2 hYj (nq2 l1 s1))) ?_);refine .g (nq2 ln ik) ?_;have hz:SqL fm0.sq:=⟨rfl,rfl⟩;have z5:(zD fm0).all PV.cell=true:=rfl;have l2:=zcr { a with op:= -1 } ha';have clr:=λX hX=>zue { a with op:= -1 } i X hX ha';have hXa:∀ b K,(H.set i (asB b)++K)[i]? =some (asB b):=λb K=>hYi b K;have hXs:∀ b c K,(H.set i (asB b)++K).set i (asB c)=H.set i (asB c)++K:=λb c K=>hYj b K c;have clr':=λK=>clr _ (hXa { a with op:= -1 } K);simp only[hXs]at clr';have l3:=zcr (As.clr { a with op:= -1 }) ha';refine .a (?_:PW _ _ _ [(0,.ptr i 0 0),(6,.ptr H.length 0 0),(7,.bool false),(8,.ip (itL L) (k * 148)),(29,.int .i64 x.k)] (H.set i (asB { a with op:= -1 })++[⟨81,0,zD fm0⟩]) _);refine .b (.e ?_);by_cases h1:x.k=1
 .rw[gD h1]at hr;refine .c (λh=> ?_) (λh=> ?_);rotate_left
  .simp[h1]at h
  unfold As.seq at hr;dsimp only at hr;have u1:=zoo { a with op:= -1 } ha';have u2:=zuv { a with op:= -1 } ha';dsimp only at u1 u2;suffices hrest:PW prog _ _ [(0,.ptr i 0 0),(6,.ptr H.length 0 0),(7,.bool false),(8,.ip (itL L) (k * 148)),(47,.bool (!(a.kn&&sqE a.sq x.s)))] (H.set i (asB { a with op:= -1 })++[⟨81,0,zD fm0⟩]) _ by
   cases hkn:a.kn with
   | false=>
    rw[hkn]at hrest l2 u1 u2;refine .dg λK hK=> ?_;simp(maxSteps:=9^9) (disch:=omega) only[go_sem,hYi,l2,u1,u2];refine hK _ _ ?_;clear hK K;exact .a hrest
   | true=>rw[hkn]at hrest l2 u1 u2;refine .dg λK hK=> ?_;simp(maxSteps:=9^9) (disch:=omega) only[go_sem,hYi,l2,u1,u2,ln,is,↓ne];refine hK _ _ ?_;clear hK K;exact .a hrest
  cases hk2:(a.kn&&sqE a.sq x.s)with
  | true=>
   rw[gD hk2]at hr;refine .us (.g (nq2 hY0 (nq2 hYs (nq2 z1 (nq2 z3 z5)))) ?_);refine .ret (hret { a with op:= -1 } fm0 false _ _ rfl rfl rfl ?_ ?_ hz)
   .subst hr;rfl
   .subst hr;rfl
  | false=>
   rw[gC (by rw[hk2];simp)]at hr;refine .t (.k clr' ?_);have d1:=zwn (As.clr { a with op:= -1 }) a.sq ha';have d2:∀ X v,(sqc x.s++X).set 135 v=sqc x.s++X.set 0 v:=λX v=>by rw[uC _ _ (by rw[q1];omega),q1]
   have d3:List.take 135 (sqc x.s)=sqc x.s:=gH om;have d4:(H.set i (asB (As.clr { a with op:= -1 })))[i]? =some ⟨113,0,zbt (As.clr { a with op:= -1 })⟩:=by rw[vN hil];rfl
   have d5:∀ K B,((H.set i (asB (As.clr { a with op:= -1 }))++K).set i B)[i]? =some B:=λK B=>by rw[vN (by simp;omega)]
   refine .y [i] [(0,[0]),(50,[0]),(51,[0]),(61,[0]),(62,[0]),(63,[0]),(64,[0])] [] [60] λK hK=> ?_;refine sqx (nq2 hYi (nq2 l3 (nq2 ln (nq2 is (nq2 q1 q2))))) ?_;refine VCj.read (λ_ _=>vs _) rfl ?_;simp(maxSteps:=9^9) (disch:=omega) only[go_sem,hYi,d1,d2,d5,l3,q1,q2,gP,vL];refine hK _ _ ?_;clear hK K;refine .a (?_:PW _ _ _ [(0,.ptr i 0 0),(6,.ptr H.length 0 0),(7,.bool false)] (H.set i (asB { As.clr { a with op:= -1 }with sq:=x.s,kn:=zbJ x.s })++[⟨81,0,zD fm0⟩]) _) rfl (hYj _ _ { As.clr { a with op:= -1 }with sq:=x.s,kn:=zbJ x.s });refine .g (nq2 hY0 (nq2 hYs (nq2 z1 (nq2 z3 z5)))) ?_;refine .ret (hret { As.clr { a with op:= -1 }with sq:=x.s,kn:=zbJ x.s } fm0 false _ _ rfl rfl rfl ?_ ?_ hz)
   .subst hr;rfl
   .subst hr;rfl
 rw[gC h1]at hr;refine .c (λh=> ?_) (λh=> ?_)
 .simp[h1]at h
 refine .e ?_;by_cases h2:x.k=2
 .rw[gD h2]at hr;refine .c (λh=> ?_) (λh=> ?_);rotate_left
  .simp[h2]at h
  unfold As.grp at hr;refine .b (.g (nq2 ln ic) ?_);cases hc:x.gc with
  | true=>
   rw[hc]at hr;refine .t (.k clr' ?_);refine .g (nq2 hY0 (nq2 hYs (nq2 z1 (nq2 z3 z5)))) ?_;refine .ret (hret (As.clr { a with op:= -1 }) fm0 false _ _ rfl rfl rfl ?_ ?_ hz)
   .subst hr;rfl
   .subst hr;rfl
  | false=>
   rw[hc]at hr;refine .u (.g (nq2 ln ib) ?_);cases hb:x.gb with
   | true=>
    rw[hb]at hr;refine .t ?_;have s4:=zhF { a with op:= -1 } ha' 2;dsimp only at s4;refine .g (nq2 hYi (nq2 hYj (nq2 l2 s4))) ?_;refine .g (nq2 hY0 (nq2 hYs (nq2 z1 (nq2 z3 z5)))) ?_;refine .ret (hret { a with op:= -1,lk:=2 } fm0 false _ _ rfl rfl rfl ?_ ?_ hz)
    .subst hr;rfl
    .subst hr;rfl
   | false=>
    rw[hb]at hr;refine .u ?_;have s4:=zhF { a with op:= -1 } ha' 0;dsimp only at s4;refine .g (nq2 hYi (nq2 hYj (nq2 l2 s4))) ?_;refine .g (nq2 hY0 (nq2 hYs (nq2 z1 (nq2 z3 z5)))) ?_;refine .ret (hret { a with op:= -1,lk:=0 } fm0 false _ _ rfl rfl rfl ?_ ?_ hz)
    .subst hr;rfl
    .subst hr;rfl
 rw[gC h2]at hr;refine .c (λh=> ?_) (λh=> ?_)
 .simp[h2]at h
 refine .e ?_;by_cases h4:x.k=4
 .rw[gD h4]at hr;refine .c (λh=> ?_) (λh=> ?_);rotate_left
  .simp[h4]at h
  refine .k clr' ?_;have s4:=zwo (As.clr { a with op:= -1 }) ha' false;refine .g (nq2 hYi (nq2 hYj (nq2 l3 s4))) ?_;refine .g (nq2 hY0 (nq2 hYs (nq2 z1 (nq2 z3 z5)))) ?_;refine .ret (hret (As.fin { a with op:= -1 }) fm0 false _ _ rfl rfl rfl ?_ ?_ hz)
  .subst hr;rfl
  .subst hr;rfl
 .rw[gC h4]at hr;refine .c (λh=> ?_) (λh=> ?_)
  .simp[h4]at h
  refine .skip (.g (nq2 hY0 (nq2 hYs (nq2 z1 (nq2 z3 z5)))) ?_);refine .ret (hret { a with op:= -1 } fm0 false _ _ rfl rfl rfl ?_ ?_ hz)
  .subst hr;rfl
  .subst hr;rfl
theorem ztk(L:List It)(hL:∀ x∈L,SqOk x.s)(a:As)(k:Nat)(hk:k<L.length)(ha:SqOk a.sq)(hop:OpR L a.op):SqOk (a.item L k L[k]).1.sq/\OpR L (a.item L k L[k]).1.op/\∀ f,(a.item L k L[k]).2=some f->SqOk f.sq:=by
 have h0:OpR L (-1):=.inl rfl;have hx:=hL _ (uY hk);unfold As.item;split
 .unfold As.pic;split
  .exact⟨ha,h0,λf h=>by cases h⟩
  .split
   .exact⟨ha,h0,λf h=>by cases h;exact ha⟩
   .split
    .exact⟨ha,h0,λf h=>by cases h;exact ha⟩
    .split
     .exact⟨ha,.inr ⟨k,rfl,hk⟩,λf h=>by cases h⟩
     .exact⟨ha,h0,λf h=>by cases h⟩
 .split
  .unfold As.seq;split
   .exact⟨ha,h0,λf h=>by cases h⟩
   .exact⟨hx,h0,λf h=>by cases h⟩
  .split
   .unfold As.grp;split
    .exact⟨ha,h0,λf h=>by cases h⟩
    .split
     .exact⟨ha,h0,λf h=>by cases h⟩
     .exact⟨ha,h0,λf h=>by cases h⟩
   .split
    .exact⟨ha,h0,λf h=>by cases h⟩
    .exact⟨ha,h0,λf h=>by cases h⟩
end Go.Proofs.YtleejngibkbjnaaGreatDoor.Sc
