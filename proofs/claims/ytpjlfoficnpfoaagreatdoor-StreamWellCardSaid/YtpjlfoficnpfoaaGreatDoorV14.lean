/-
  Parts of the proof, put together in one text. No condition.
-/
import Derived.Test.YtpjlfoficnpfoaaGreatDoorV13
open Bool renaming and_eq_true → qE
open Int renaming toNat_natCast → qI, le_refl → qU
open List renaming getElem?_eq_getElem → qA, getElem?_eq_some_iff → qB, getElem?_append_left → qC, getElem?_drop → qD, getElem?_append_right → qF, take → qG, drop → qH, length_append → qJ, modify_succ_cons → qK, mem_of_getElem? → qL, getElem?_of_mem → qM, getElem?_modify → qN, getElem?_take → qO, append_assoc → qP, length_cons → qQ, take_of_length_le → qS, set_append_left → qT, takeWhile_cons → qV, not_mem_nil → qX, mem_append → qY, append_nil → qZ, drop_eq_getElem_cons → jA, mem_cons → jB, getElem?_cons_zero → jC, set_set → jD, getElem?_set_self → jE, take_append_drop → jG, set_append_right → jH, length_singleton → jI, drop_eq_nil_iff → jJ
open Nat renaming add_sub_cancel_left → qR, eq_or_lt_of_le → qW, zero_add → jF, zero_le → jK
namespace Go.Proofs.YtpjlfoficnpfoaaGreatDoor.Sc
set_option linter.all false
open Pm Ty Go.RowKit
theorem zsW(h:Pi)(H:za):CallOk Tryz.prog 63 [.agg (pic h)] H (.bool (zcc h)) H:=by obtain⟨ty,st,od,tf,rp,al⟩:=h;refine CallOk.body (F0:=[(0,.agg (pic ⟨ty,st,od,tf,rp,al⟩))]) Tryz.func63 rfl Tryz.ntmps63 Tryz.results63 rfl kr rfl ?_;(repeat'(first|refine PW.seq ?_|refine PW.skip ?_|refine PW.block ?_|((first|refine PW.rg rfl fun K hK=> ?_|refine PW.draw mix kr fun K hK=> ?_);simp(maxSteps:=3000000) (disch:=omega) only[go_sem,↓reduceIte,reduceCtorEq,pic])|((first|refine zh ?_ ?_|refine ze ?_ ?_|refine And.intro ?_ ?_)<;>intro h<;>(try simp only[nqb]at h)<;>simp(maxSteps:=3000000) (disch:=omega) only[go_sem,↓reduceIte,reduceCtorEq,pic,h])|(refine hK _ _ ?_;clear hK K)|(refine PW.cond (t:=_) rfl (fun h=> ?_) (fun h=> ?_)<;>(try(cases h;done))<;>(try simp only[nqb]at h))));all_goals((refine PW.ret ⟨_,rfl,?_⟩;first|refine .inl ⟨?_,rfl⟩|refine Fin.base (.id' ?_ (.bool _))|refine Fin.base (.id' ?_ (.int _ _)));(simp_all[zcc,slot,Nat.beq]<;>first|rfl|omega|(rw[Bool.eq_iff_iff];simp;done)|(rw[Bool.eq_iff_iff];simp;omega)))
set_option maxHeartbeats 4000000 in
theorem zqp(a b:Pi)(H:za):CallOk Tryz.prog 64 [.agg (pic a),.agg (pic b)] H (.bool (zbT a b)) H:=by
 obtain⟨ty,st,od,tf,rp,al⟩:=a;obtain⟨ty',st',od',tf',rp',al'⟩:=b;refine CallOk.body (F0:=[(0,.agg (pic ⟨ty,st,od,tf,rp,al⟩)),(1,.agg (pic ⟨ty',st',od',tf',rp',al'⟩))]) Tryz.func64 rfl Tryz.ntmps64 Tryz.results64 rfl kr rfl ?_;(repeat'(first|refine PW.seq ?_|refine PW.skip ?_|refine PW.block ?_|((first|refine PW.rg rfl fun K hK=> ?_|refine PW.draw mix kr fun K hK=> ?_);simp(maxSteps:=3000000) (disch:=omega) only[go_sem,↓reduceIte,reduceCtorEq,pic])|((first|refine zh ?_ ?_|refine ze ?_ ?_|refine And.intro ?_ ?_)<;>intro h<;>(try simp only[nqb]at h)<;>simp(maxSteps:=3000000) (disch:=omega) only[go_sem,↓reduceIte,reduceCtorEq,pic,h])|(refine hK _ _ ?_;clear hK K)|(refine PW.cond (t:=_) rfl (fun h=> ?_) (fun h=> ?_)<;>(try(cases h;done))<;>(try simp only[nqb]at h))));all_goals((refine PW.ret ⟨_,rfl,?_⟩;first|refine .inl ⟨?_,rfl⟩|refine Fin.base (.id' ?_ (.bool _))|refine Fin.base (.id' ?_ (.int _ _)));simp_all[zbT,slot,Nat.beq])
 all_goals grind
def zbh(a:As):List PV:=sqc a.sq++[.bool a.kn,.int .i64 a.op,.bool a.rs,.int .i64 a.lk]
def asB(a:As):Blk:=⟨194,0,zbh a⟩
theorem zb4(a:As)(h:SqL a.sq):(zbh a).length=139:=by simp only[zbh,qJ,zB _ h,qQ,List.length_nil]
theorem zjS(a:As)(h:SqL a.sq)(n:Nat):(zbh a)[135+n]? =[.bool a.kn,.int .i64 a.op,.bool a.rs,.int .i64 a.lk][n]? :=by unfold zbh;rw[qF (by rw[zB _ h];omega),zB _ h,qR]
theorem zrA(a:As)(h:SqL a.sq):(zbh a)[135]? =some (.bool a.kn):=zjS a h 0
theorem zvY(a:As)(h:SqL a.sq):(zbh a)[136]? =some (.int .i64 a.op):=zjS a h 1
theorem zvX(a:As)(h:SqL a.sq):(zbh a)[137]? =some (.bool a.rs):=zjS a h 2
theorem zvZ(a:As)(h:SqL a.sq):(zbh a)[138]? =some (.int .i64 a.lk):=zjS a h 3
theorem zmn(a:As)(h:SqL a.sq):qG 135 (zbh a)=sqc a.sq:=List.take_left' (zB _ h)
theorem zgE(a:As)(h:SqL a.sq)(n:Nat)(v:PV):(zbh a).set (135+n) v=sqc a.sq++[.bool a.kn,.int .i64 a.op,.bool a.rs,.int .i64 a.lk].set n v:=by unfold zbh;rw[jH _ _ (by rw[zB _ h];omega),zB _ h,qR]
theorem ztr(a:As)(h:SqL a.sq)(v:Bool):(zbh a).set 135 (.bool v)=zbh { a with kn:=v }:=zgE a h 0 _
theorem zjR(a:As)(h:SqL a.sq)(v:Int):(zbh a).set 136 (.int .i64 v)=zbh { a with op:=v }:=zgE a h 1 _
theorem znr(a:As)(h:SqL a.sq)(v:Bool):(zbh a).set 137 (.bool v)=zbh { a with rs:=v }:=zgE a h 2 _
theorem zgD(a:As)(h:SqL a.sq)(v:Int):(zbh a).set 138 (.int .i64 v)=zbh { a with lk:=v }:=zgE a h 3 _
theorem zrz(n:Nat)(a:As):∀ x∈zbh a,Scoped n x:=fun x hx=>by
 simp only[zbh,qY,jB,qX,or_false]at hx;rcases hx with hx|rfl|rfl|rfl|rfl
 ·exact zV _ _ x hx
 ·exact .bool _
 ·exact .int _ _
 ·exact .bool _
 ·exact .int _ _
def fm0:FmY:=⟨0,0,sq0,zvb,false,0⟩
theorem zri(a:As)(i:Nat)(H:za)(h:H[i]? =some (asB a))(ha:SqL a.sq):CallOk Tryz.prog 176 [.ptr i 0 0] H (.tup []) (H.set i (asB a.clr)):=by
 have hil:i<H.length:=(qB.1 h).1;unfold asB at h;have hs:∀ B,(H.set i B)[i]? =some B:=fun B=>by simp[hil]
 have l1:=zb4 a ha;have l2:=zb4 { a with rs:=true } ha;have s1:=znr a ha true;have s2:=zgD { a with rs:=true } ha (-1);refine CallOk.go Tryz.func176 Tryz.ntmps176 Tryz.results176 ?_;refine PW.f (fun K k=>by simp(maxSteps:=3000000) (disch:=omega) only[go_sem,↓reduceIte,reduceCtorEq,h,hs,l1,l2,s1,s2,jD];exact k) ?_;refine⟨_,rfl,.inl ⟨rfl,?_⟩⟩;rfl
theorem znb(n:Nat)(f:FmY):∀ x∈zx f,Scoped n x:=fun x hx=>by
 simp only[zx,pic,qY,jB,qX,or_false]at hx;rcases hx with rfl|rfl|hx|(rfl|rfl|rfl|rfl|rfl|rfl)|rfl|rfl
 ·exact .int _ _
 ·exact .int _ _
 ·exact zV _ _ x hx
 ·exact .int _ _
 ·exact .int _ _
 ·exact .int _ _
 ·exact .bool _
 ·exact .bool _
 ·exact .bool _
 ·exact .bool _
 ·exact .int _ _
theorem zjT(H K:za)(i:Nat)(a:As)(v:PV)(hi:i<H.length)(hv:Scoped H.length v):Fin H v (H.set i (asB a)) v (H.set i (asB a)++K):=Fin.cut rfl sp (fun h=>HSc.set h (zrz _ _)) (.id (by rw[List.length_set];exact hv))
set_option maxHeartbeats 2000000 in
set_option maxRecDepth 100000 in
theorem ztk(a:As)(f l:Int)(h:Pi)(i:Nat)(H:za)(hi:H[i]? =some (asB a))(ha:SqL a.sq):CallOk Tryz.prog 252 [.ptr i 0 0,.int .i64 f,.int .i64 l,.agg (pic h)] H (.agg (zx ⟨f,l,a.sq,h,a.rs,a.lk⟩)) (H.set i (asB { a with rs:=false,lk:= -1 })):=by
 have hil:i<H.length:=(qB.1 hi).1;unfold asB at hi;have hi1:∀ K,(H++K)[i]? =H[i]? :=fun K=>qC hil;have hs:∀ K B,((H++K).set i B)[i]? =some B:=fun K B=>by rw[jE (by simp;omega)]
 have l1:=zb4 a ha;have l2:=zb4 { a with rs:=false } ha;have s1:=znr a ha false;have s2:=zgD { a with rs:=false } ha (-1);have t1:=zmn a ha;have t2:=zvX a ha;have t3:=zvZ a ha;have p1:(pic h).length=6:=rfl;have p2:(pic h).all PV.cell=true:=rfl;have p3:qG 6 (pic h)=pic h:=rfl;have q1:=zB a.sq ha;have q2:=zaI a.sq;have q3:∀ X,qG 135 (sqc a.sq++X)=sqc a.sq:=fun X=>List.take_left' q1;have q4:∀ X n,qH (135+n) (sqc a.sq++X)=qH n X:=fun X n=>by rw[←List.drop_drop,List.drop_left' q1]
 have q5:∀ X n,qG (135+n) (sqc a.sq++X)=sqc a.sq++qG n X:=fun X n=>by rw[List.take_append,q1,qS om,qR]
 have q6:∀ X,qH 141 (sqc a.sq++X)=qH 6 X:=fun X=>q4 X 6;have q7:∀ X,qH 142 (sqc a.sq++X)=qH 7 X:=fun X=>q4 X 7;have q8:∀ X,qH 143 (sqc a.sq++X)=qH 8 X:=fun X=>q4 X 8;have q9:∀ X,qG 141 (sqc a.sq++X)=sqc a.sq++qG 6 X:=fun X=>q5 X 6;have q10:∀ X,qG 142 (sqc a.sq++X)=sqc a.sq++qG 7 X:=fun X=>q5 X 7;refine CallOk.go Tryz.func252 Tryz.ntmps252 Tryz.results252 ?_;refine PW.g p2 ?_;(repeat refine PW.seq ?_);refine PW.drawg mix kr fun K hK=> ?_;simp(maxSteps:=3000000) (disch:=omega) only[go_sem,↓reduceIte,reduceCtorEq,hi1,hi,l1,t1,t2,t3,p1,p2,p3,q1,q2,q3,q6,q7,q8,q9,q10,qJ,pic];refine hK _ _ ?_;clear hK K;obtain⟨W,hW⟩:∃ W,W=zx ⟨f,l,a.sq,h,a.rs,a.lk⟩:=⟨_,rfl⟩;refine PW.at [0,8,9] (?_:PW _ _ _ [(0,.ptr i 0 0),(8,.ptr (H.length+1) 0 0),(9,.ptr (H.length+2) 0 0)] (H++[⟨35,0,pic h⟩,⟨118,0,zx fm0⟩,⟨118,0,W⟩]) _) rfl (by rw[hW];rfl);have w1:W.length=145:=by rw[hW];exact zb1 _ ha
 have w2:qG 145 W=W:=qS om;have w3:W.all PV.cell=true:=by rw[hW];exact zce _
 have z1:(zx fm0).length=145:=rfl;have z2:∀ X,qH 145 (zx fm0)=X↔[]=X:=fun X=>by rw[show qH 145 (zx fm0)=[]from rfl]
 have z3:qH 145 (zx fm0)=[]:=rfl;refine PW.f (fun K k=>by simp(maxSteps:=3000000) (disch:=omega) only[go_sem,↓reduceIte,reduceCtorEq,hi1,hi,hs,l1,l2,s1,s2,jD];exact k) ?_;refine PW.at [8,9] (?_:PW _ _ _ [(8,.ptr (H.length+1) 0 0),(9,.ptr (H.length+2) 0 0)] (H.set i (asB { a with rs:=false,lk:= -1 })++[⟨35,0,pic h⟩,⟨118,0,zx fm0⟩,⟨118,0,W⟩]) _) rfl (by rw[qT _ _ hil];rfl);have hsl:(H.set i (asB { a with rs:=false,lk:= -1 })).length=H.length:=by simp
 have af:=fun K=>zjT H K i { a with rs:=false,lk:= -1 } (.agg (zx ⟨f,l,a.sq,h,a.rs,a.lk⟩)) hil (.agg fun j x hx=>znb _ _ x (qL hx));generalize H.set i (asB { a with rs:=false,lk:= -1 })=X at *;rw[←hsl];refine PW.f (fun K k=>by simp(maxSteps:=3000000) (disch:=omega) only[go_sem,↓reduceIte,reduceCtorEq,w1,w2,w3,z1,z3,qZ];exact k) ?_;refine PW.w (.agg W) (nq2 w1 w2) ?_;rw[hW];exact af _
theorem zd6(L:List It)(hL:∀ x∈L,SqOk x.s)(k:Nat)(hk:k<L.length):qG 6 (qH (k * 148+139) (itL L))=pic L[k].p:=by rw[zc6 L hL k 139 6 hk om];exact zqR _ (hL _ (List.getElem_mem hk))
theorem zgw(L:List It)(k:Nat)(hk:k<L.length):hdA L (k:Int)=L[k].p:=by unfold hdA;rw[qI,qA hk]
def fmO:Option FmY→PV
 | none=>.tup [.agg (zx fm0),.bool false]
 | some f=>.tup [.agg (zx f),.bool true]
theorem zmg(n:Nat)(r:Option FmY):Scoped n (fmO r):=by
 have h:∀ f b,Scoped n (.tup [.agg (zx f),.bool b]):=fun f b=>.tup fun j x hx=>by
  have hx:=qL hx;simp only[jB,qX,or_false]at hx;rcases hx with rfl|rfl
  ·exact .agg fun j x hx=>znb _ _ x (qL hx)
  ·exact .bool _
 cases r<;>exact h _ _
def OpR(L:List It)(n:Int):Prop:=n= -1∨∃ k:Nat,n=(k:Int)∧k<L.length
set_option maxHeartbeats 4000000 in
set_option maxRecDepth 100000 in
theorem zry(L:List It)(fl:Bool)(k:Nat)(hk:k<L.length)(hL:∀ x∈L,SqOk x.s)(a:As)(i:Nat)(H:za)(hi:H[i]? =some (asB a))(ha:SqOk a.sq)(hop:OpR L a.op):
  CallOk Tryz.prog 175 [.ptr i 0 0,.slice (itL L) L.length fl,.int .i64 (k:Int)] H (fmO (a.pic L k L[k].p).2) (H.set i (asB (a.pic L k L[k].p).1)):=by
 have hil:i<H.length:=(qB.1 hi).1;have ha':=ha.toL;unfold asB at hi;have hi1:∀ K,(H++K)[i]? =H[i]? :=fun K=>qC hil;have hs:∀ K B,((H++K).set i B)[i]? =some B:=fun K B=>by rw[jE (by simp;omega)]
 have l1:=zb4 a ha';have s1:=zjR a ha' (-1);have t1:=zvY a ha';have ln:=zak L hL;have ip:=zd6 L hL k hk;have pv:=fun K=>zd2 a.sq L[k].p K ha;have cm:=fun f l (h:Pi) (X:za) (hX:X[i]? =some (asB { a with op:= -1 }))=>ztk { a with op:= -1 } f l h i X hX ha';have ld:=fun K=>zsW L[k].p K;generalize hr:a.pic L k L[k].p=r;unfold As.pic at hr;generalize L[k].p=g at *;have p1:(pic g).length=6:=rfl;have p2:(pic g).all PV.cell=true:=rfl;have p3:qG 6 (pic g)=pic g:=rfl;have p4:(pic g)[1]? =some (.int .i64 g.st):=rfl;have z1:(zx fm0).length=145:=rfl;have z3:qH 145 (zx fm0)=[]:=rfl;have z4:qG 145 (zx fm0)=zx fm0:=rfl;have z5:(zx fm0).all PV.cell=true:=rfl;have p6:qH 6 (pic g)=[]:=rfl;have af:=fun b o K=>zjT H K i b (fmO o) hil (zmg _ _);refine CallOk.go Tryz.func175 Tryz.ntmps175 Tryz.results175 ?_;refine PW.e ?_;refine PW.at [0,1,2,6,7] (?_:PW _ _ _ [(0,.ptr i 0 0),(1,.slice (itL L) L.length fl),(2,.int .i64 (k:Int)),(6,.ptr H.length 0 0),(7,.bool false)] (H++[⟨118,0,zx fm0⟩]) _) rfl rfl;refine PW.view (Vs.place 35) ?_;rw[qP];(repeat refine PW.seq ?_);refine PW.drawi [H.length+1] [(8,[0])] [(8,0)] [] mix kr (by simp<;>omega) fun K hK=> ?_;refine sqx (nq2 hi1 (nq2 hi (nq2 t1 (nq2 ln (nq2 ip (nq2 p1 (nq2 p2 p3))))))) ?_;refine hK _ _ ?_;clear hK K;refine PW.g (nq2 hi1 (nq2 hi (nq2 hs (nq2 l1 s1)))) ?_;refine PW.at [0,1,2,6,7,8,9] (?_:PW _ _ _ [(0,.ptr i 0 0),(1,.slice (itL L) L.length fl),(2,.int .i64 (k:Int)),(6,.ptr H.length 0 0),(7,.bool false),(8,.ptr (H.length+1) 1 0),(9,.int .i64 a.op)] (H.set i (asB { a with op:= -1 })++[⟨118,0,zx fm0⟩,⟨35,1,pic g⟩]) _) rfl (by rw[qT _ _ hil];rfl);have hsl:(H.set i (asB { a with op:= -1 })).length=H.length:=by simp
 have af:=fun b o K=>zjT H K i b (fmO o) hil (zmg _ _);have hX0:(H.set i (asB { a with op:= -1 }))[i]? =some (asB { a with op:= -1 }):=by simp[hil]
 have hX2:∀ b,(H.set i (asB { a with op:= -1 })).set i (asB b)=H.set i (asB b):=fun b=>by rw[jD]
 generalize hXe:H.set i (asB { a with op:= -1 })=X at *;have hX1:∀ K,(X++K)[i]? =some (asB { a with op:= -1 }):=fun K=>by rw[qC om];exact hX0
 have hX3:∀ K b,(X++K).set i b=X.set i b++K:=fun K b=>qT _ _ om;rw[←hsl];unfold asB at hX1;have u0:=zb4 { a with op:= -1 } ha';have u1:=zmn { a with op:= -1 } ha';have u2:=zrA { a with op:= -1 } ha';dsimp only at u1 u2;suffices hrest:PW Tryz.prog _ _ [(0,.ptr i 0 0),(1,.slice (itL L) L.length fl),(2,.int .i64 (k:Int)),(6,.ptr X.length 0 0),(7,.bool false),(8,.ptr (X.length+1) 1 0),(9,.int .i64 a.op),(36,.bool (!(a.kn&&zH a.sq g)))] (X++[⟨118,0,zx fm0⟩,⟨35,1,pic g⟩]) _ by
  cases hkn:a.kn with
  | false=>
   rw[hkn]at hrest;have u3:(zbh { a with op:= -1 })[135]? =some (.bool false):=u2.trans (by rw[hkn]);(repeat refine PW.seq ?_);refine PW.drawg mix kr fun K hK=> ?_;simp(maxSteps:=3000000) (disch:=omega) only[go_sem,↓reduceIte,reduceCtorEq,hX1,u0,u1,u3];refine hK _ _ ?_;clear hK K;exact PW.at [0,1,2,6,7,8,9,36] hrest rfl rfl
  | true=>rw[hkn]at hrest;have u3:(zbh { a with op:= -1 })[135]? =some (.bool true):=u2.trans (by rw[hkn]);(repeat refine PW.seq ?_);refine PW.drawg mix kr fun K hK=> ?_;simp(maxSteps:=3000000) (disch:=omega) only[go_sem,↓reduceIte,reduceCtorEq,hX1,u0,u1,u3,p1,p2,p3];refine VCz.call (fun _=>pv _) rfl ?_;simp(maxSteps:=3000000) (disch:=omega) only[go_sem,↓reduceIte,reduceCtorEq];refine hK _ _ ?_;clear hK K;exact PW.at [0,1,2,6,7,8,9,36] hrest rfl rfl
 have hX4:∀ K b,(X++K).set i (asB b)=H.set i (asB b)++K:=fun K b=>by rw[hX3,hX2]
 have hY0:∀ b F G,(H.set i (asB b)++[F,G])[X.length]? =some F:=fun b F G=>by rw[hsl,qF sp];simp
 have hY1:∀ b F G,(H.set i (asB b)++[F,G])[X.length+1]? =some G:=fun b F G=>by rw[hsl,qF sp];simp
 have hYs:∀ b F G B,(H.set i (asB b)++[F,G]).set X.length B=H.set i (asB b)++[B,G]:=fun b F G B=>by rw[hsl,jH _ _ sp];simp
 have hret:∀ b f v (Fx:Fr) (Y:za),slot Fx 6= .ptr X.length 0 0→slot Fx 7= .bool v→Y=H.set i (asB b)++[⟨118,0,zx f⟩,⟨35,1,pic g⟩]→fmO r.2= .tup [.agg (zx f),.bool v]→b=r.1→SqL f.sq→znV Tryz.prog [.cell 6 118,.tmp 7] (Pm.Fin H (fmO r.2) (H.set i (asB r.1))) .ret Fx Y:=fun b f v Fx Y h6 h7 e3 e1 e2 hf=>by subst e3;have w1:=zb1 f hf;have w2:qG 145 (zx f)=zx f:=qS om;refine⟨.tup [.agg (zx f),.bool v],by simp(maxSteps:=3000000) (disch:=omega) only[go_sem,↓reduceIte,reduceCtorEq,hY0,w1,w2,h6,h7,zr,zF,List.mapM_cons,List.mapM_nil,Option.pure_def,Option.bind_eq_bind,Option.bind_some],?_⟩;have:=af b r.2 [⟨118,0,zx f⟩,⟨35,1,pic g⟩];rw[e1]at this ⊢;rw[e2]at this ⊢;exact this
 have hz:SqL fm0.sq:=⟨rfl,rfl⟩;by_cases hv:(a.kn&&zH a.sq g)=false
 ·rw[if_pos hv]at hr;rw[hv];refine PW.t ?_;refine PW.g (nq2 z1 (nq2 z3 z5)) ?_;refine PW.ret (hret { a with op:= -1 } fm0 false _ _ rfl rfl ?_ ?_ ?_ hz)
  ·rw[←hXe];rfl
  ·rw[←hr];rfl
  ·rw[←hr]
 rw[if_neg hv]at hr;have hv':(a.kn&&zH a.sq g)=true:=by simpa using hv
 rw[hv'];refine PW.us ?_;refine PW.b ?_;refine PW.g (nq2 p1 p4) ?_;by_cases h3:g.st=3
 ·rw[if_pos h3]at hr;refine PW.c (fun h=> ?_) (fun h=> ?_);rotate_left
  ·simp[h3]at h
  have cm':=fun f l h K=>cm f l h (X++K) (hX1 K);dsimp only at cm';simp only[hX4]at cm';have w1:=zb1 ⟨(k:Int),(k:Int),a.sq,g,a.rs,a.lk⟩ ha';refine PW.f (fun K k=>by simp(maxSteps:=3000000) (disch:=omega) only[go_sem,↓reduceIte,reduceCtorEq,p1,p2,p3];refine VCx.call (cm' _ _ _ _) rfl ?_;simp(maxSteps:=3000000) (disch:=omega) only[go_sem,↓reduceIte,reduceCtorEq,hY0,hYs,z1,z3,w1,zce,qZ];exact k) ?_;refine PW.ret (hret { a with op:= -1,rs:=false,lk:= -1 } ⟨(k:Int),(k:Int),a.sq,g,a.rs,a.lk⟩ true _ _ rfl rfl ?_ ?_ ?_ ha')
  ·rfl
  ·rw[←hr];rfl
  ·rw[←hr];rfl
 rw[if_neg h3]at hr;refine PW.c (fun h=> ?_) (fun h=> ?_)
 ·simp[h3]at h
 suffices hrest:∀ b,(b=true↔(a.op≠-1∧zbT (hdA L a.op) g=true))→PW Tryz.prog _ _ [(0,.ptr i 0 0),(1,.slice (itL L) L.length fl),(2,.int .i64 (k:Int)),(6,.ptr X.length 0 0),(7,.bool false),(8,.ptr (X.length+1) 1 0),(9,.int .i64 a.op),(47,.bool b)] (X++[⟨118,0,zx fm0⟩,⟨35,1,pic g⟩]) _ by
  rcases hop with ho|⟨k2,ho,hk2⟩
  ·have e0:(a.op== -1)=true:=by simp[ho]
   (repeat refine PW.seq ?_);refine PW.drawg mix kr fun K hK=> ?_;simp(maxSteps:=3000000) (disch:=omega) only[go_sem,↓reduceIte,reduceCtorEq,e0];refine hK _ _ ?_;clear hK K;exact PW.at [0,1,2,6,7,8,9,47] (hrest false (by simp[ho])) rfl rfl
  ·have e0:((k2:Int)== -1)=false:=by simp
   have ip2:=zd6 L hL k2 hk2;rw[ho,zgw L k2 hk2]at hrest;rw[ho];generalize L[k2].p=g2 at *;have pr:=fun K=>zqp g2 g K;have y1:(pic g2).length=6:=rfl;have y2:(pic g2).all PV.cell=true:=rfl;(repeat refine PW.seq ?_);refine PW.drawg mix kr fun K hK=> ?_;simp(maxSteps:=3000000) (disch:=omega) only[go_sem,↓reduceIte,reduceCtorEq,e0,ln,ip2,p1,p2,p3,y1,y2];refine VCz.call (fun _=>pr _) rfl ?_;simp(maxSteps:=3000000) (disch:=omega) only[go_sem,↓reduceIte,reduceCtorEq];refine hK _ _ ?_;clear hK K;exact PW.at [0,1,2,6,7,8,9,47] (hrest (zbT g2 g) sp) rfl rfl
 intro b hb;refine PW.c (fun h=> ?_) (fun h=> ?_)
 ·subst h;have ho:=hb.1 rfl;rw[if_pos ho]at hr;obtain⟨k2,ho2,hk2⟩:∃ k2:Nat,a.op=(k2:Int)∧k2<L.length:=by
   rcases hop with h|h
   ·exact absurd h ho.1
   ·exact h
  have ip2:=zd6 L hL k2 hk2;rw[ho2,zgw L k2 hk2]at hr;rw[ho2];generalize L[k2].p=g2 at *;have y1:(pic g2).length=6:=rfl;have y2:(pic g2).all PV.cell=true:=rfl;have cm':=fun f l h K=>cm f l h (X++K) (hX1 K);dsimp only at cm';simp only[hX4]at cm';have w1:=zb1 ⟨(k2:Int),(k:Int),a.sq,g2,a.rs,a.lk⟩ ha';refine PW.f (fun K k=>by simp(maxSteps:=3000000) (disch:=omega) only[go_sem,↓reduceIte,reduceCtorEq,ln,ip2,p1,p2,p3,y1,y2];refine VCx.call (cm' _ _ _ _) rfl ?_;simp(maxSteps:=3000000) (disch:=omega) only[go_sem,↓reduceIte,reduceCtorEq,hY0,hYs,z1,z3,w1,zce,qZ];exact k) ?_;refine PW.ret (hret { a with op:= -1,rs:=false,lk:= -1 } ⟨(k2:Int),(k:Int),a.sq,g2,a.rs,a.lk⟩ true _ _ rfl rfl ?_ ?_ ?_ ha')
  ·rfl
  ·rw[←hr];rfl
  ·rw[←hr];rfl
 ·subst h;rw[if_neg (fun h=>by have:=hb.2 h;cases this)]at hr;refine PW.m (nq2 p1 (nq2 p2 p3)) ld ?_;cases hld:zcc g with
  | true=>
   rw[if_pos hld]at hr;refine PW.t ?_;have s3:=zjR { a with op:= -1 } ha' (k:Int);dsimp only at s3;refine PW.g (nq2 hX1 (nq2 u0 s3)) ?_;refine PW.at [6,7] (?_:PW _ _ _ [(6,.ptr X.length 0 0),(7,.bool false)] (H.set i (asB { a with op:=(k:Int) })++[⟨118,0,zx fm0⟩,⟨35,1,pic g⟩]) _) rfl (hX4 _ { a with op:=(k:Int) });refine PW.g (nq2 hY0 (nq2 hYs (nq2 z1 (nq2 z3 z5)))) ?_;refine PW.ret (hret { a with op:=(k:Int) } fm0 false _ _ rfl rfl ?_ ?_ ?_ hz)
   ·rfl
   ·rw[←hr];rfl
   ·rw[←hr]
  | false=>
   rw[if_neg (by rw[hld];simp)]at hr;refine PW.us ?_;refine PW.g (nq2 z1 (nq2 z3 z5)) ?_;refine PW.ret (hret { a with op:= -1 } fm0 false _ _ rfl rfl ?_ ?_ ?_ hz)
   ·rw[←hXe];rfl
   ·rw[←hr];rfl
   ·rw[←hr]
end Go.Proofs.YtpjlfoficnpfoaaGreatDoor.Sc
namespace Go.Proofs.YtpjlfoficnpfoaaGreatDoor.Pm
set_option linter.all false
open Go.RowKit
variable {P:Program} {H:za}
def Wkn(x y:PV):Prop:=∀(C:Ctx) (u:Value),VRel C x u→VRel C y u
theorem Wkn.refl(x:PV):Wkn x x:=fun _ _ h=>h
def Wkns(xs ys:List PV):Prop:=xs.length=ys.length∧∀(j:Nat) (x y:PV),xs[j]? =some x→ys[j]? =some y→Wkn x y
theorem Wkns.nil:Wkns [] []:=⟨rfl,fun j x y h=>by simp at h⟩
theorem Wkns.cons{x y:PV}{xs ys:List PV}(h:Wkn x y)(hs:Wkns xs ys):Wkns (x::xs) (y::ys):=⟨by simp[hs.1],fun j a b ha hb=>by
 cases j with
 | zero=>
  simp only[jC,Option.some.injEq]at ha hb;subst ha hb;exact h
 | succ j=>
  simp only[List.getElem?_cons_succ]at ha hb;exact hs.2 j a b ha hb⟩
theorem Wkns.refl:∀ xs:List PV,Wkns xs xs
 | []=>.nil
 | x::r=>.cons (.refl x) (Wkns.refl r)
theorem Wkns.append{xs ys xs' ys':List PV}(h:Wkns xs ys)(h':Wkns xs' ys'):Wkns (xs++xs') (ys++ys'):=by
 refine⟨by simp[h.1,h'.1],fun j a b ha hb=> ?_⟩;by_cases hj:j<xs.length
 ·rw[qC hj]at ha;rw[qC (by rw[←h.1];exact hj)]at hb;exact h.2 j a b ha hb
 ·rw[qF om]at ha;rw[qF (by rw[←h.1];omega),←h.1]at hb;exact h'.2 _ a b ha hb
theorem Wkn.agg{xs ys:List PV}(h:Wkns xs ys)(hc:ys.all PV.cell=true):Wkn (.agg xs) (.agg ys):=fun C u hu=>by
 cases hu with
 | agg hl _ hR=>
  refine .agg (hl.trans h.1) (fun x hx=>List.all_eq_true.1 hc x hx) fun j y u hy hu=> ?_;have hj:j<xs.length:=by have:=(qB.1 hy).1;have:=h.1;omega
  exact h.2 j _ y (qA hj) hy C u (hR j _ u (qA hj) hu)
theorem CallOk.wk{f:FuncId}{args args':List PV}{v:PV}{H':za}(h:CallOk P f args' H v H')(hz:Wkns args args'):CallOk P f args H v H':=
 ⟨h.1,fun C us w hw hu=>h.2 C us w hw ⟨hu.1.trans hz.1,fun j y u hy hu'=>by
  have hj:j<args.length:=by have:=(qB.1 hy).1;have:=hz.1;omega
  exact hz.2 j _ y (qA hj) hy C u (hu.2 j _ u (qA hj) hu')⟩⟩
end Go.Proofs.YtpjlfoficnpfoaaGreatDoor.Pm
namespace Go.Proofs.YtpjlfoficnpfoaaGreatDoor.Sc
set_option linter.all false
open Pm Ty Go.RowKit
def cdE(c:Cdd):List PV:=cdc c.p c.U c.us
structure CdOk(c:Cdd):Prop where
 n:c.us.length≤1000000
 u:∀ u∈c.us,zfP u.1∧u.2.length≤100000000
def shN(n:Nat)(o:Int):Int:=if o<0 then o else o+n
def shF(n:Nat)(f:FmY):FmY:={ f with f:=f.f+n,l:=f.l+n }
def zgk(n m:Nat)(e:Ent):Ent:=({ e.1 with f:=e.1.f+n,l:=e.1.l+n,pa:=shN m e.1.pa,fu:=shN m e.1.fu,sh:=e.1.sh+m },e.2)
def dsE(n:Nat)(E ys:List Ent)(wt:Bool)(new:Int):List Ent:=if wt then(E++ys.map (zgk n E.length)).modify (new.toNat+E.length) (zM 0)else E++ys.map (zgk n E.length)
structure DSh(n:Nat)(E:List Ent)(x y:Dp):Prop where
 en:x.en=dsE n E y.en y.wt y.new
 old:x.old=shN E.length y.old
 new:x.new=shN E.length y.new
 wt:x.wt=y.wt
 lk:x.lk=y.lk
 sh:x.sh=y.sh+E.length
 ro: -1≤y.old
 rn: -1≤y.new∧y.new<y.en.length
 rw:y.wt=true→0≤y.new
theorem zsQ(l:List Ent)(j:Nat)(u v:Int):(l.modify j (zM u)).modify j (zM v)=l.modify j (zM v):=by
 induction l generalizing j with
 | nil=>simp
 | cons a r ih=>cases j with
  | zero=>rfl
  | succ j=>simp only[qK,ih]
theorem zkZ(l r:List Ent)(j:Nat)(v:Int)(h:j<l.length):(l++r).modify j (zM v)=l.modify j (zM v)++r:=by
 induction l generalizing j with
 | nil=>exact absurd h (Nat.not_lt_zero _)
 | cons a t ih=>cases j with
  | zero=>rfl
  | succ j=>simp only[List.cons_append,qK];rw[ih j (by simpa using h)]
theorem zcF(l r:List Ent)(j:Nat)(v:Int):(l++r).modify (j+l.length) (zM v)=l++r.modify j (zM v):=by
 induction l with
 | nil=>simp
 | cons a t ih=>rw[List.cons_append,qQ,←Nat.add_assoc,qK,ih];rfl
theorem zsT(m n:Nat)(l:List Ent)(j:Nat)(v:Int):(l.map (zgk n m)).modify j (zM (v+m))=(l.modify j (zM v)).map (zgk n m):=by
 induction l generalizing j with
 | nil=>simp
 | cons a r ih=>cases j with
  | zero=>rfl
  | succ j=>simp only[List.map_cons,qK,ih]
theorem zhJ(d:Dp):d.flush.en.length=d.en.length:=by unfold Dp.flush Dp.show;cases d.wt<;>simp
theorem DSh.flush{n:Nat}{E:List Ent}{x y:Dp}(h:DSh n E x y):DSh n E x.flush y.flush∧x.flush.en=E++y.flush.en.map (zgk n E.length):=by
 have hw2:=(za1 y).2.2.1;have key:x.flush.en=E++y.flush.en.map (zgk n E.length)∧x.flush.sh=y.flush.sh+E.length:=by
  have e:=h.en;unfold dsE at e;unfold Dp.flush;rw[h.wt];cases hw:y.wt with
  | false=>
   rw[hw,if_neg sp]at e;rw[if_neg sp,if_neg sp];exact⟨e,h.sh⟩
  | true=>
   rw[hw,if_pos rfl]at e;rw[if_pos rfl,if_pos rfl];have hn:=h.rw hw;refine⟨?_,?_⟩
   ·show(x.en.modify x.new.toNat (zM x.sh))=E++(y.en.modify y.new.toNat (zM y.sh)).map (zgk n E.length);have e2:x.new.toNat=y.new.toNat+E.length:=by rw[h.new];unfold shN;rw[if_neg om];omega
    rw[e,e2,zsQ,zcF,h.sh,zsT]
   ·show x.sh+1=y.sh+1+E.length;rw[h.sh];omega
 obtain⟨x1,x2,x3,x4⟩:=za1 x;obtain⟨y1,y2,y3,y4⟩:=za1 y;refine⟨⟨?_,?_,?_,?_,?_,key.2,?_,?_,fun e=> ?_⟩,key.1⟩
 ·rw[key.1];unfold dsE;rw[y3];rfl
 ·rw[x1,y1];exact h.old
 ·rw[x2,y2];exact h.new
 ·rw[x3,y3]
 ·rw[x4,y4];exact h.lk
 ·rw[y1];exact h.ro
 ·rw[y2,zhJ];exact h.rn
 ·rw[y3]at e;cases e
theorem DSh.res{n:Nat}{E:List Ent}{x y:Dp}(h:DSh n E x y)(b:Bool):DSh n E (x.res b) (y.res b):=by
 unfold Dp.res;cases b with
 | false=>exact h
 | true=>
  obtain⟨g,ge⟩:=h.flush;have y3:=(za1 y).2.2.1;refine⟨?_,rfl,rfl,g.wt,rfl,g.sh,qU _,⟨qU _,by show(-1:Int)<_;omega⟩,fun e=> ?_⟩
  ·show x.flush.en=dsE n E y.flush.en y.flush.wt (-1);rw[ge,y3];rfl
  ·have e':y.flush.wt=true:=e;rw[y3]at e';cases e'
theorem DSh.lnk{n:Nat}{E:List Ent}{x y:Dp}(h:DSh n E x y)(k:Int):DSh n E (x.lnk k) (y.lnk k):=by
 unfold Dp.lnk;split
 ·exact⟨h.en,h.old,h.new,h.wt,rfl,h.sh,h.ro,h.rn,h.rw⟩
 ·exact h
theorem zhH(d:Dp)(e:Ent)(h:d.wt=true→d.new.toNat<d.en.length):Dp.flush { d with en:=d.en++[e] }={ d.flush with en:=d.flush.en++[e] }:=by
 obtain⟨en,old,new,wt,lk,sh⟩:=d;cases wt with
 | false=>rfl
 | true=>have:=zkZ en [e] new.toNat sh (h rfl);unfold Dp.flush Dp.show;rw[if_pos rfl,if_pos rfl];simp only;rw[this]
theorem DSh.frame{n:Nat}{E:List Ent}{x y:Dp}(h:DSh n E x y)(f:FmY):DSh n E (x.frame (shF n f)) (y.frame f):=by
 have ho:=h.ro;have hn:=h.rn;have hlx:x.en.length=E.length+y.en.length:=by rw[h.en];unfold dsE;split<;>simp
 have o1:x.old= -1↔y.old= -1:=by rw[h.old];unfold shN;split<;>omega
 have n1:x.new= -1↔y.new= -1:=by rw[h.new];unfold shN;split<;>omega
 have hsh:∀(p q v:Int),zM (v+E.length) (fmE (shF n f) (shN E.length p) (shN E.length q))=zgk n E.length (zM v (fmE f p q)):=fun _ _ _=>rfl;unfold Dp.frame;show DSh n E (if f.hd.ty=3 then _ else if f.hd.ty=2∧x.new= -1 then x else _) _;by_cases h3:f.hd.ty=3
 ·rw[if_pos h3,if_pos h3];by_cases hc:y.lk≠0∨y.old= -1∨y.new= -1
  ·rw[if_pos hc,if_pos (by rw[h.lk,o1,n1];exact hc)];exact h
  rw[if_neg hc,if_neg (by rw[h.lk,o1,n1];exact hc)];refine⟨?_,h.old,h.new,h.wt,h.lk,?_,h.ro,?_,h.rw⟩
  ·show(x.en++[fmE (shF n f) x.old x.new]).modify ((x.en.length:Nat):Int).toNat (zM x.sh)=dsE n E ((y.en++[fmE f y.old y.new]).modify ((y.en.length:Nat):Int).toNat (zM y.sh)) y.wt y.new;have m1:=zcF x.en [fmE (shF n f) x.old x.new] 0 x.sh;have m2:=zcF y.en [fmE f y.old y.new] 0 y.sh;rw[jF]at m1 m2;have e1:[fmE (shF n f) x.old x.new].modify 0 (zM x.sh)=[zM x.sh (fmE (shF n f) x.old x.new)]:=rfl;have e2:[fmE f y.old y.new].modify 0 (zM y.sh)=[zM y.sh (fmE f y.old y.new)]:=rfl;rw[qI,qI,m1,m2,e1,e2,h.sh,h.old,h.new,hsh,h.en];unfold dsE;rw[List.map_append];cases hw:y.wt with
   | false=>rw[if_neg sp,if_neg sp,qP];rfl
   | true=>have:=h.rw hw;have m3:=zkZ (E++y.en.map (zgk n E.length)) ([zM y.sh (fmE f y.old y.new)].map (zgk n E.length)) (y.new.toNat+E.length) 0 (by rw[qJ,List.length_map];omega);rw[if_pos rfl,if_pos rfl,←qP E,m3];rfl
  ·show x.sh+1=y.sh+1+E.length;rw[h.sh];omega
  ·show -1≤y.new∧y.new<(((y.en++[fmE f y.old y.new]).modify ((y.en.length:Nat):Int).toNat (zM y.sh)).length:Int);simp only[List.length_modify,qJ,jI];omega
 rw[if_neg h3,if_neg h3];by_cases hc:f.hd.ty=2∧y.new= -1
 ·rw[if_pos hc,if_pos (by rw[n1];exact hc)];exact h
 rw[if_neg hc,if_neg (by rw[n1];exact hc)];dsimp only;rw[zhH x _ (fun e=>by
   have e':=h.wt;rw[e]at e';have:=h.rw e'.symm;rw[h.new];unfold shN;rw[if_neg om];omega),zhH y _ (fun e=>by have:=h.rw e;omega)]
 obtain⟨g,ge⟩:=h.flush;obtain⟨x1,x2,x3,x4⟩:=za1 x;obtain⟨y1,y2,y3,y4⟩:=za1 y;refine⟨?_,?_,?_,rfl,?_,g.sh,?_,?_,fun _=> ?_⟩
 ·show x.flush.en++[fmE (shF n f) x.new (-1)]=dsE n E (y.flush.en++[fmE f y.new (-1)]) true ((y.en.length:Nat):Int);unfold dsE;rw[if_pos rfl,qI,zcF,List.map_append,ge,qP];have m2:=zcF (y.flush.en.map (zgk n E.length)) ([fmE f y.new (-1)].map (zgk n E.length)) 0 0;rw[jF,List.length_map,zhJ]at m2;rw[m2,h.new];rfl
 ·show x.flush.new=shN E.length y.flush.new;exact g.new
 ·show((x.en.length:Nat):Int)=shN E.length ((y.en.length:Nat):Int);unfold shN;rw[if_neg om,hlx];omega
 ·show max 0 (x.flush.lk - 1)=max 0 (y.flush.lk - 1);rw[g.lk]
 ·show -1≤y.flush.new;rw[y2];exact h.rn.1
 ·show -1≤((y.en.length:Nat):Int)∧((y.en.length:Nat):Int)<((y.flush.en++[fmE f y.new (-1)]).length:Int);rw[qJ,zhJ];simp only[jI];omega
 ·show(0:Int)≤((y.en.length:Nat):Int);omega
def DSr(n:Nat)(E:List Ent)(rs:Bool)(x y:Dp):Prop:=DSh n E (x.res rs) (y.res rs)
theorem zi4(d:Dp)(b:Bool):(d.res b).res true=d.res true:=by
 cases b with
 | false=>rfl
 | true=>
  have h:=(za1 d).2.2.1;unfold Dp.res;rw[if_pos rfl,if_pos rfl];have e:Dp.flush { d.flush with old:= -1,new:= -1,lk:=0 }={ d.flush with old:= -1,new:= -1,lk:=0 }:=by unfold Dp.flush;show(if d.flush.wt=true then _ else _)=_;rw[h,if_neg sp]
  rw[e]
theorem DSr.up{n:Nat}{E:List Ent}{rs:Bool}{x y:Dp}(h:DSr n E rs x y):DSr n E true x y:=by unfold DSr at h ⊢;have:=h.res true;rwa[zi4,zi4]at this
theorem DSr.step{n:Nat}{E:List Ent}{x y:Dp}(f:FmY)(h:DSr n E f.rs x y):DSr n E false (x.step (shF n f)) (y.step f):=(DSh.lnk h f.lk).frame f
theorem znW(d:Dp)(b:Bool):(d.res b).flush.en=d.flush.en:=by
 cases b with
 | false=>rfl
 | true=>have h:=(za1 d).2.2.1;unfold Dp.res;rw[if_pos rfl];unfold Dp.flush;show(if d.flush.wt=true then _ else _:Dp).en=_;rw[h,if_neg sp]
theorem zcg{α:Type}{l:List α}{k:Nat}{x:α}{r:List α}(h:l.drop k=x::r):∃ hk:k<l.length,l[k]=x∧l.drop (k+1)=r:=by
 have hk:k<l.length:=by
  rcases Nat.lt_or_ge k l.length with h1|h1
  ·exact h1
  ·rw[List.drop_eq_nil_of_le h1]at h;cases h
 rw[jA hk]at h;injection h with h1 h2;exact⟨hk,h1,h2⟩
structure Hd2(s:Sq)(x y:It):Prop where
 k1:x.k=1
 s1:x.s=s
 v:za6 s=true
 k2:y.k=2
 c:y.gc=true
def sqAt(es:List Ent)(n:Int)(s:Sq):Prop:=0≤n→∃ e,es[n.toNat]? =some e∧e.2.1=s
theorem sqAt.neg{es:List Ent}{s:Sq}:sqAt es (-1) s:=fun h=>om
theorem sqAt.snoc{es:List Ent}{n:Int}{s:Sq}(h:sqAt es n s)(x:Ent):sqAt (es++[x]) n s:=fun h0=>by obtain⟨e,h1,h2⟩:=h h0;exact⟨e,by rw[qC (qB.1 h1).1];exact h1,h2⟩
theorem sqAt.mod{es:List Ent}{n:Int}{s:Sq}(h:sqAt es n s)(k:Nat)(v:Int):sqAt (es.modify k (zM v)) n s:=fun h0=>by
 obtain⟨e,h1,h2⟩:=h h0;rw[qN,h1];show ∃ x,some (if k=n.toNat then zM v e else e)=some x∧_;by_cases hk:k=n.toNat
 ·rw[if_pos hk];exact⟨zM v e,rfl,h2⟩
 ·rw[if_neg hk];exact⟨e,rfl,h2⟩
def aftE(es:List Ent)(n:Int):Prop:=∀(j:Nat) (e:Ent),es[j]? =some e→e.1.l<n
theorem aftE.mono{es:List Ent}{n m:Int}(h:aftE es n)(hm:n≤m):aftE es m:=fun j e he=>by have:=h j e he;omega
theorem zjP{es:List Ent}{k:Nat}{v:Int}{j:Nat}{x:Ent}(h:(es.modify k (zM v))[j]? =some x):∃ y,es[j]? =some y∧(x=y∨x=zM v y):=by
 rw[qN]at h;cases hy:es[j]? with
 | none=>rw[hy]at h;cases h
 | some y=>
  rw[hy]at h;refine⟨y,rfl,?_⟩;by_cases hk:k=j
  ·subst hk;simp at h;exact .inr h.symm
  ·simp[hk]at h;exact .inl h.symm
theorem aftE.mod{es:List Ent}{n:Int}(h:aftE es n)(k:Nat)(v:Int):aftE (es.modify k (zM v)) n:=fun j e he=>by
 obtain⟨y,hy,h1|h1⟩:=zjP he
 ·rw[h1];exact h j y hy
 ·rw[h1];exact h j y hy
structure XInv(d:Dp)(s:Sq)(n:Int):Prop where
 old:sqAt d.en d.old s
 new:sqAt d.en d.new s
 q:∀(j:Nat) (e:Ent),d.en[j]? =some e→sqAt d.en e.1.pa e.2.1∧sqAt d.en e.1.fu e.2.1
 aft:aftE d.en n
 ord:∀(j k:Nat) (x y:Ent),d.en[j]? =some x→d.en[k]? =some y→j<k→x.1.l<y.1.f
theorem XInv.mono{d:Dp}{s:Sq}{n m:Int}(h:XInv d s n)(hm:n≤m):XInv d s m:=⟨h.old,h.new,h.q,h.aft.mono hm,h.ord⟩
theorem zm5{en:List Ent}{k:Nat}{v:Int}(h:∀(j k:Nat) (x y:Ent),en[j]? =some x→en[k]? =some y→j<k→x.1.l<y.1.f):∀(i j:Nat) (x y:Ent),(en.modify k (zM v))[i]? =some x→(en.modify k (zM v))[j]? =some y→i<j→x.1.l<y.1.f:=fun i j x y hx hy hij=>by obtain⟨a,ha,h1⟩:=zjP hx;obtain⟨b,hb,h2⟩:=zjP hy;have:=h i j a b ha hb hij;rcases h1 with rfl|rfl<;>rcases h2 with rfl|rfl<;>exact this
theorem ztZ{en:List Ent}{k:Nat}{v:Int}(h:∀(j:Nat) (e:Ent),en[j]? =some e→sqAt en e.1.pa e.2.1∧sqAt en e.1.fu e.2.1):∀(j:Nat) (e:Ent),(en.modify k (zM v))[j]? =some e→sqAt (en.modify k (zM v)) e.1.pa e.2.1∧sqAt (en.modify k (zM v)) e.1.fu e.2.1:=fun j e he=>by
 obtain⟨a,ha,h1⟩:=zjP he;obtain⟨g1,g2⟩:=h j a ha;rcases h1 with rfl|rfl
 ·exact⟨g1.mod _ _,g2.mod _ _⟩
 ·exact⟨sqAt.mod g1 _ _,sqAt.mod g2 _ _⟩
theorem XInv.flush{d:Dp}{s:Sq}{n:Int}(h:XInv d s n):XInv d.flush s n:=by
 unfold Dp.flush;split
 ·exact⟨h.old.mod _ _,h.new.mod _ _,ztZ h.q,h.aft.mod _ _,zm5 h.ord⟩
 ·exact h
theorem XInv.res{d:Dp}{s:Sq}{n:Int}(h:XInv d s n)(b:Bool):XInv (d.res b) s n:=by
 unfold Dp.res;split
 ·have g:=h.flush;exact⟨sqAt.neg,sqAt.neg,g.q,g.aft,g.ord⟩
 ·exact h
theorem XInv.any{d:Dp}{s s':Sq}{n:Int}(h:XInv (d.res true) s n):XInv (d.res true) s' n:=⟨sqAt.neg,sqAt.neg,h.q,h.aft,h.ord⟩
theorem XInv.lnk{d:Dp}{s:Sq}{n:Int}(h:XInv d s n)(k:Int):XInv (d.lnk k) s n:=by
 unfold Dp.lnk;split
 ·exact⟨h.old,h.new,h.q,h.aft,h.ord⟩
 ·exact h
theorem zkp{en:List Ent}{e:Ent}(h:∀(j k:Nat) (x y:Ent),en[j]? =some x→en[k]? =some y→j<k→x.1.l<y.1.f)(ha:aftE en e.1.f):∀(i j:Nat) (x y:Ent),(en++[e])[i]? =some x→(en++[e])[j]? =some y→i<j→x.1.l<y.1.f:=fun i j x y hx hy hij=>by
 rcases zat hx with⟨b1,b2⟩|⟨b1,b2⟩
 ·rcases zat hy with⟨c1,c2⟩|⟨c1,c2⟩
  ·exact h i j x y b2 c2 hij
  ·rw[c2];exact ha i x b2
 ·rcases zat hy with⟨c1,c2⟩|⟨c1,c2⟩<;>omega
theorem zpp{en:List Ent}{x:Ent}(h:∀(j:Nat) (e:Ent),en[j]? =some e→sqAt en e.1.pa e.2.1∧sqAt en e.1.fu e.2.1)(h1:sqAt en x.1.pa x.2.1)(h2:sqAt en x.1.fu x.2.1):∀(j:Nat) (e:Ent),(en++[x])[j]? =some e→sqAt (en++[x]) e.1.pa e.2.1∧sqAt (en++[x]) e.1.fu e.2.1:=fun j e he=>by
 rcases zat he with⟨_,b⟩|⟨_,b⟩
 ·exact⟨(h j e b).1.snoc _,(h j e b).2.snoc _⟩
 ·rw[b];exact⟨h1.snoc _,h2.snoc _⟩
theorem zkq{en:List Ent}{x:Ent}{n m:Int}(h:aftE en n)(hn:n≤m)(hx:x.1.l<m):aftE (en++[x]) m:=fun j e he=>by
 rcases zat he with⟨_,b⟩|⟨_,b⟩
 ·have:=h j e b;omega
 ·rw[b];exact hx
theorem XInv.frame{d:Dp}{f:FmY}{n m:Int}(h:XInv d f.sq n)(ha:aftE d.en f.f)(hn:n≤m)(hf:f.l<m):XInv (d.frame f) f.sq m:=by
 unfold Dp.frame;split
 ·split
  ·exact h.mono hn
  ·refine⟨(h.old.snoc _).mod _ _,(h.new.snoc _).mod _ _,ztZ (zpp h.q h.old h.new),(zkq h.aft hn hf).mod _ _,zm5 (zkp h.ord ha)⟩
 ·split
  ·exact h.mono hn
  ·dsimp only;have g:XInv { d with en:=d.en++[fmE f d.new (-1)] } f.sq m:=⟨h.old.snoc _,h.new.snoc _,zpp h.q h.new sqAt.neg,zkq h.aft hn hf,zkp h.ord ha⟩;have gf:=g.flush;have hl:sqAt (d.en++[fmE f d.new (-1)]) (d.en.length:Int) f.sq:=fun _=>⟨fmE f d.new (-1),by rw[qI];simp,rfl⟩;refine⟨gf.new,?_,gf.q,gf.aft,gf.ord⟩;show sqAt (Dp.flush _).en (d.en.length:Int) f.sq;unfold Dp.flush;split
   ·exact hl.mod _ _
   ·exact hl
structure YInv(a:As)(d:Dp)(i:Nat):Prop where
 x:XInv (d.res a.rs) a.sq i
 op:a.op= -1∨(0≤a.op∧a.op<i∧aftE d.en a.op)
theorem znv{d:Dp}{n:Int}(b:Bool):aftE (d.res b).en n↔aftE d.en n:=by
 have e:∀ d:Dp,aftE d.flush.en n↔aftE d.en n:=fun d=>by
  unfold Dp.flush;split
  ·refine⟨fun h j e he=> ?_,fun h=>h.mod _ _⟩;by_cases hj:d.new.toNat=j
   ·have:=h j (zM d.sh e) (by show(d.en.modify _ _)[j]? =_;rw[qN,he];show some (if _ then _ else _)=_;rw[if_pos hj]);exact this
   ·exact h j e (by show(d.en.modify _ _)[j]? =_;rw[qN,he];show some (if _ then _ else _)=_;rw[if_neg hj])
  ·exact Iff.rfl
 unfold Dp.res;split
 ·exact e d
 ·exact Iff.rfl
theorem znC{L:List It}{a:As}{d:Dp}{i:Nat}(h:YInv a d i)(x:It):YInv (a.item L (i:Int) x).1 (d.stepO (a.item L (i:Int) x).2) (i+1):=by
 obtain⟨hx,ho⟩:=h;have hi:(i:Int)≤((i+1:Nat):Int):=om;have hd:aftE d.en i:=(znv a.rs).1 hx.aft;have no:∀ b:As,b.sq=a.sq→b.rs=a.rs→b.op= -1→YInv b d (i+1):=fun b e1 e2 e3=>⟨by rw[e1,e2];exact hx.mono hi,.inl e3⟩;have rs:∀ b:As,b.rs=true→b.op= -1→YInv b d (i+1):=fun b e1 e2=>⟨by
  rw[e1];have:=hx.res true;rw[zi4]at this;exact(this.any).mono hi,.inl e2⟩
 have fr:∀(b:As) (f:FmY),b.sq=a.sq→b.rs=false→b.op= -1→f.sq=a.sq→f.rs=a.rs→aftE d.en f.f→f.l=(i:Int)→YInv b (d.step f) (i+1):=fun b f e1 e2 e3 e4 e5 e6 e7=>⟨by
  rw[e1,e2,←e4];show XInv (Dp.frame _ f) f.sq _;refine XInv.frame (n:=(i:Int)) ?_ ?_ hi om
  ·rw[e4,e5];exact hx.lnk _
  ·have:aftE (d.res f.rs).en f.f:=(znv f.rs).2 e6;unfold Dp.lnk;split
   ·exact this
   ·exact this,.inl e3⟩
 unfold As.item;split
 ·unfold As.pic;split
  ·exact no _ rfl rfl rfl
  ·split
   ·exact fr _ _ rfl rfl rfl rfl rfl hd rfl
   ·split
    ·rename_i hc;rcases ho with h1|⟨h1,h2,h3⟩
     ·exact absurd h1 hc.1
     ·exact fr _ _ rfl rfl rfl rfl rfl h3 rfl
    ·split
     ·exact⟨hx.mono hi,.inr ⟨by show(0:Int)≤(i:Int);omega,by show(i:Int)<_;omega,hd⟩⟩
     ·exact no _ rfl rfl rfl
 ·split
  ·unfold As.seq;split
   ·exact no _ rfl rfl rfl
   ·exact rs _ rfl rfl
  ·split
   ·unfold As.grp;split
    ·exact rs _ rfl rfl
    ·split<;>exact no _ rfl rfl rfl
   ·split
    ·exact rs _ rfl rfl
    ·exact no _ rfl rfl rfl
theorem zjX{L:List It}:∀(r:List It) (i:Nat) (a:As) (d:Dp),YInv a d i→YInv (asN L a (i:Int) r) (dpN L a d (i:Int) r) (i+r.length)
 | [],i,a,d,h=>h
 | x::r,i,a,d,h=>by have e:(i:Int)+1=((i+1:Nat):Int):=om;rw[asN,dpN,e,qQ,show i+(r.length+1)=i+1+r.length from om];exact zjX r (i+1) _ _ (znC h x)
theorem zlF(L:List It):(∀(j:Nat) (e:Ent),(zaa L)[j]? =some e→sqAt (zaa L) e.1.pa e.2.1∧sqAt (zaa L) e.1.fu e.2.1)∧(∀(j k:Nat) (x y:Ent),(zaa L)[j]? =some x→(zaa L)[k]? =some y→j<k→x.1.l<y.1.f):=by have h:=(zjX (L:=L) L 0 (as0 sq0) dp0 ⟨⟨sqAt.neg,sqAt.neg,fun j e he=>by simp[dp0,as0,Dp.res]at he,fun j e he=>by simp[dp0,as0,Dp.res]at he,fun j k x y he=>by simp[dp0,as0,Dp.res]at he⟩,.inl rfl⟩).x.flush;have e:(Dp.res (dpN L (as0 sq0) dp0 ((0:Nat):Int) L) (asN L (as0 sq0) ((0:Nat):Int) L).rs).flush.en=zaa L:=znW (dpN L (as0 sq0) dp0 0 L) (asN L (as0 sq0) 0 L).rs;have h3:=h.q;have h5:=h.ord;rw[e]at h3 h5;exact⟨h3,h5⟩
def okR{α:Type}:Rr α→Bool
 | .ok _ _=>true
 | .er _ _=>false
def zkr(s:Sq)(p:Pi)(b:Bool):List (Int×List UInt8)→Nat→Bool
 | [],_=>true
 | u::r,k=>decide (u.1=1+(k:Int))&&(okR (slT s p b u.1 u.2)&&zkr s p b r (k+1))
def zeT(s:Sq)(c:Cdd)(b:Bool):Bool:=decide ((c.us.length:Int)=zS s c.p)&&zkr s c.p b c.us 0
structure FrS(s:Sq)(f:Fm):Prop where
 m:fmd f=true
 w:f.w=s.w
 h:f.h=s.h
theorem FrS.or{s:Sq}{f:Fm}(h:FrS s f):mOr f s.w s.h=true:=by unfold mOr;rw[h.m,h.w,h.h];simp
def RefS(s:Sq)(f:Fm)(n:Prop):Prop:=(f.w=0∨FrS s f)∧(n→FrS s f)
theorem RefS.or{s:Sq}{f:Fm}{n:Prop}(h:RefS s f n):mOr f s.w s.h=true:=by
 rcases h.1 with h1|h1
 ·unfold mOr;simp[h1]
 ·exact h1.or
def SlOk(L:List It):Prop:=∀(j:Nat) (e:Ent),(zaa L)[j]? =some e→∀(i:Nat) (x:It),L[i]? =some x→e.1.f≤i→(i:Int)≤e.1.l→zeT e.2.1 (zdd x) (decide ((i:Int)≠e.1.f))=true
def it0:It:=⟨0,sq0,false,false,0,zvb,[],[],0⟩
def nxI(L:List It)(i:Nat):It:=(L[i+1]?).getD it0
def zhM(L:List It)(i:Nat)(x:It):Bool:=if x.k=1 then decide ((nxI L i).k=2)else if x.k=2 then !x.gb&&(decide ((nxI L i).k=3)&&decide ((nxI L i).p.ty=1))else if x.k=4 then decide (i+1=L.length)||decide ((nxI L i).k=1)else true
def zhu(L:List It):List It→Nat→Bool
 | [],_=>true
 | x::r,i=>zhM L i x&&zhu L r (i+1)
def zez(L:List It):Bool:=(match L with|[]=>false|x::_=>decide (x.k=1))&&zhu L L 0
theorem zmZ{L:List It}:∀{r:List It} {i:Nat},L.drop i=r→zhu L r i=true→∀(j:Nat) (x:It),i≤j→L[j]? =some x→zhM L j x=true
 | [],i,hr,_,j,x,hj,hx=>by
  have:=jJ.1 hr;have:=(qB.1 hx).1;omega
 | y::r,i,hr,h,j,x,hj,hx=>by
  obtain⟨hi,hy,hr2⟩:=zcg hr;rw[zhu,qE]at h;by_cases e:j=i
  ·subst e;rw[qA hi]at hx;injection hx with hx;rw[←hx,hy];exact h.1
  ·exact zmZ hr2 h.2 j x om hx
theorem zmY{L:List It}(h:zez L=true){j:Nat}{x:It}(hx:L[j]? =some x):zhM L j x=true:=by unfold zez at h;rw[qE]at h;exact zmZ (i:=0) rfl h.2 j x (jK _) hx
def zcM(x:It):Prop:=x.k=2∨x.k=4
instance(x:It):Decidable (zcM x):=inferInstanceAs (Decidable (_∨_))
def grS(g:Int)(i:Nat)(x:It):Int:=if x.k=4 then -1 else if x.k=2 then(i:Int)else g
def grA(L:List It):Nat→Int
 | 0=> -1
 | n+1=>match L[n]? with|some x=>grS (grA L n) n x|none=>grA L n
theorem zk8(L:List It):∀ n,-1≤grA L n∧grA L n<n
 | 0=>⟨qU _,by show(-1:Int)<((0:Nat):Int);omega⟩
 | n+1=>by
  have:=zk8 L n;rw[grA];split
  ·unfold grS;split
   ·omega
   ·split<;>omega
  ·omega
theorem zme{L:List It}{n:Nat}:∀ m,n≤m→(∀(p:Nat) (x:It),n≤p→p<m→L[p]? =some x→¬ zcM x)→grA L m=grA L n
 | 0,h,_=>by rw[show n=0 from om]
 | m+1,h,hb=>by
  by_cases e:n=m+1
  ·rw[e]
  ·rw[grA];have ih:=zme m om fun p x h1 h2=>hb p x h1 om;cases hx:L[m]? with
   | none=>exact ih
   | some x=>have:=hb m x om om hx;unfold zcM at this;dsimp only;unfold grS;rw[if_neg om,if_neg om];exact ih
theorem zjB{L:List It}{p:Nat}{x:It}(hx:L[p]? =some x)(hb:zcM x):∀ m,p<m→grA L m= -1∨(p:Int)≤grA L m
 | 0,h=>om
 | m+1,h=>by
  rw[grA];by_cases e:p=m
  ·subst e;rw[hx];dsimp only;unfold grS;unfold zcM at hb;split
   ·exact .inl rfl
   ·rw[if_pos om];exact .inr (qU _)
  ·have ih:=zjB hx hb m om;split
   ·unfold grS;split
    ·exact .inl rfl
    ·split
     ·exact .inr om
     ·exact ih
   ·exact ih
theorem zgx{L:List It}(h:zez L=true):∀(i:Nat) (x:It),L[i]? =some x→grA L (i+1)= -1→x.k=1∨x.k=4
 | 0,x,hx,_=>by
  unfold zez at h;rw[qE]at h;cases L with
  | nil=>simp at hx
  | cons y r=>
   simp only[jC,Option.some.injEq]at hx;subst hx;exact .inl (by simpa using h.1)
 | i+1,x,hx,hg=>by
  have hi:=(qB.1 hx).1;have e:=qA (show i<L.length from om);have hn:nxI L i=x:=by unfold nxI;rw[hx];rfl
  have hf:=zmY h e;unfold zhM at hf;rw[hn]at hf;rw[grA,hx]at hg;dsimp only at hg;unfold grS at hg;by_cases k4:x.k=4
  ·exact .inr k4
  rw[if_neg k4]at hg;by_cases k2:x.k=2
  ·rw[if_pos k2]at hg;omega
  rw[if_neg k2]at hg;rcases zgx h i _ e hg with k|k
  ·rw[if_pos k]at hf;exact absurd (by simpa using hf) k2
  ·rw[if_neg om,if_neg om,if_pos k]at hf;simp only[Bool.or_eq_true,decide_eq_true_eq]at hf;exact .inl om
def sameI(L:List It)(a b:Nat):Prop:=∀(p:Nat) (x:It),min a b<p→p<max a b→L[p]? =some x→¬ zcM x
theorem sameI.symm{L:List It}{a b:Nat}(h:sameI L a b):sameI L b a:=fun p x h1 h2=>h p x om om
theorem zso{L:List It}(h:zez L=true){a b:Nat}{x y:It}(hx:L[a]? =some x)(hy:L[b]? =some y)(kx:x.k=3)(ky:y.k=3):grA L (a+1)=grA L (b+1)↔sameI L a b:=by
 have key:∀(a b:Nat) (x y:It),L[a]? =some x→L[b]? =some y→x.k=3→y.k=3→a≤b→(grA L (a+1)=grA L (b+1)↔sameI L a b):=by
  intro a b x y hx hy kx ky hab;have ga:grA L (a+1)≠-1:=fun e=>by have:=zgx h a x hx e;omega
  have gb:grA L (b+1)≠-1:=fun e=>by have:=zgx h b y hy e;omega
  constructor
  ·intro e p z h1 h2 hz hb;have g1:=zjB hz hb (b+1) om;have g2:=(zk8 L (a+1)).2;omega
  ·intro hs;refine(zme (b+1) om fun p z h1 h2 hz hb=> ?_).symm;by_cases e:p=b
   ·subst e;rw[hy]at hz;injection hz with hz;subst hz;unfold zcM at hb;omega
   ·exact hs p z om om hz hb
 rcases Nat.le_total a b with hab|hab
 ·exact key a b x y hx hy kx ky hab
 ·constructor
  ·intro e;exact((key b a y x hy hx ky kx hab).1 e.symm).symm
  ·intro hs;exact((key b a y x hy hx ky kx hab).2 hs.symm).symm
def zod(x:It):Bool:= !decide (x.k=2)&& !decide (x.k=4)
theorem zkS(x:It):zod x=true↔¬ zcM x:=by unfold zod zcM;simp only[qE,Bool.not_eq_true',decide_eq_false_iff_not];omega
def zfj(L:List It)(n:Nat):Nat:=n+((L.drop n).takeWhile zod).length
def toF(es:List Ent)(en fr:Nat):Nat:=fr+((es.drop fr).takeWhile fun e=>decide (e.1.f<(en:Int))).length
def zlj(g:List Ent)(e:Ent):Nat:=g.countP fun o=>decide (o.1.sh<e.1.sh)
def zvz(g:List Ent):Bool:=g.all fun e=>decide (e.2.2.od=(zlj g e:Int))
def zeu(es:List Ent)(fr to:Nat):List Ent:=(es.drop fr).take (to - fr)
def zh7(L:List It)(es:List Ent):Nat→Nat→Bool
 | 0,_=>true
 | n+1,fr=>match es[fr]? with
  | none=>true
  | some e=>zvz (zeu es fr (toF es (zfj L e.1.f.toNat) fr))&&zh7 L es n (toF es (zfj L e.1.f.toNat) fr)
def zog(L:List It)(es:List Ent):Bool:=zh7 L es es.length 0
theorem zmB{α:Type}(p:α→Bool):∀(l:List α) (j:Nat) (x:α),l[j]? =some x→j<(l.takeWhile p).length→p x=true
 | [],j,x,h,_=>by simp at h
 | a::r,j,x,h,hj=>by
  rw[qV]at hj;cases ha:p a with
  | false=>rw[ha]at hj;simp at hj
  | true=>
   rw[ha]at hj;cases j with
   | zero=>simp at h;rw[←h];exact ha
   | succ j=>simp at h hj;exact zmB p r j x h hj
theorem zgN{α:Type}(p:α→Bool):∀(l:List α) (x:α),l[(l.takeWhile p).length]? =some x→p x=false
 | [],x,h=>by simp at h
 | a::r,x,h=>by
  rw[qV]at h;cases ha:p a with
  | false=>rw[ha]at h;simp at h;rw[←h];exact ha
  | true=>rw[ha]at h;simp at h;exact zgN p r x h
theorem ztH{α:Type}(p:α→Bool)(l:List α):(l.takeWhile p).length≤l.length:=(List.takeWhile_prefix p).length_le
theorem zng{L:List It}{n p:Nat}{x:It}(h1:n≤p)(h2:p<zfj L n)(hx:L[p]? =some x):¬ zcM x:=by unfold zfj at h2;rw[←zkS];exact zmB zod (L.drop n) (p - n) x (by rw[qD,show n+(p - n)=p from om];exact hx) om
theorem zfi{L:List It}{n:Nat}{x:It}(hx:L[zfj L n]? =some x):zcM x:=by unfold zfj at hx;have h:=zgN zod (L.drop n) x (by rw[qD];exact hx);refine Classical.byContradiction fun hb=> ?_;rw[(zkS x).2 hb]at h;cases h
theorem znf{L:List It}{n:Nat}(hn:n≤L.length):n≤zfj L n∧zfj L n≤L.length:=by unfold zfj;have:=ztH zod (L.drop n);rw[List.length_drop]at this;omega
structure EsI(L:List It)(es:List Ent):Prop where
 k:∀(j:Nat) (e:Ent),es[j]? =some e→∃ x,0≤e.1.f∧L[e.1.f.toNat]? =some x∧x.k=3∧e.2.2=x.p
 o:∀(i j:Nat) (x y:Ent),es[i]? =some x→es[j]? =some y→i<j→x.1.f<y.1.f
theorem zgh{α:Type}{p:α→Bool}{l:List α}(h:∀ x∈l,p x=false):l.countP p=0:=by rw[List.countP_eq_zero];intro x hx e;rw[h x hx]at e;cases e
def zoq(L:List It)(es:List Ent)(e:Ent)[DecidablePred fun o:Ent=>sameI L o.1.f.toNat e.1.f.toNat∧o.1.sh<e.1.sh]:Nat:=es.countP fun o=>decide (sameI L o.1.f.toNat e.1.f.toNat∧o.1.sh<e.1.sh)
theorem ztI(es:List Ent)(E fr:Nat)(h:fr≤es.length):fr≤toF es E fr∧toF es E fr≤es.length:=by unfold toF;have:=ztH (fun e:Ent=>decide (e.1.f<(E:Int))) (es.drop fr);rw[List.length_drop]at this;omega
def zuY(L:List It)(es:List Ent)(fr:Nat):Prop:=∀(i j:Nat) (x y:Ent),es[i]? =some x→es[j]? =some y→i<fr→fr≤j→¬ sameI L x.1.f.toNat y.1.f.toNat
open Classical in
theorem zsp{L:List It}{es:List Ent}(h:EsI L es){fr:Nat}(hfr:fr<es.length)(hs:zuY L es fr){T:Nat}(hT:T=toF es (zfj L es[fr].1.f.toNat) fr):
  fr<T∧T≤es.length∧zuY L es T∧∀(j:Nat) (e:Ent),fr≤j→j<T→es[j]? =some e→zlj (zeu es fr T) e=zoq L es e:=by
 have e0:=qA hfr;obtain⟨x0,f0,hx0,k0,_⟩:=h.k fr _ e0;have hn0:=(qB.1 hx0).1;obtain⟨F,hF⟩:∃ F,F=es[fr].1.f.toNat:=⟨_,rfl⟩;rw[←hF]at hx0 hn0 hT;obtain⟨E,hE⟩:∃ E,E=zfj L F:=⟨_,rfl⟩;rw[←hE]at hT;have hEl:=znf (L:=L) (n:=F) om;rw[←hE]at hEl;have hFE:F<E:=by
  rcases qW hEl.1 with e1|e1
  ·have:=zfi (L:=L) (n:=F) (x:=x0) (by rw[←hE,←e1];exact hx0);unfold zcM at this;omega
  ·exact e1
 have hTb:fr≤T∧T≤es.length:=by rw[hT];exact ztI es E fr om
 have t1:∀(i:Nat) (x:Ent),es[i]? =some x→fr≤i→i<T→x.1.f<(E:Int):=fun i x hx h1 h2=>by rw[hT]at h2;unfold toF at h2;have:=zmB (fun e:Ent=>decide (e.1.f<(E:Int))) (es.drop fr) (i - fr) x (by rw[qD,show fr+(i - fr)=i from om];exact hx) om;exact of_decide_eq_true this
 have t2:∀(i:Nat) (x:Ent),es[i]? =some x→T≤i→∃ y,L[E]? =some y∧zcM y∧(E:Int)<x.1.f:=fun i x hx h1=>by
  have hTl:T<es.length:=by have:=(qB.1 hx).1;omega
  have eT:=qA hTl;have g1:(E:Int)≤es[T].1.f:=by
   have:=zgN (fun e:Ent=>decide (e.1.f<(E:Int))) (es.drop fr) es[T] (by
    rw[qD];show es[toF es E fr]? =_;rw[←hT];exact eT)
   have:=of_decide_eq_false this;omega
  have g2:es[T].1.f≤x.1.f:=by
   rcases qW h1 with e1|e1
   ·subst e1;rw[eT]at hx;injection hx with hx;rw[hx];exact qU _
   ·exact Int.le_of_lt (h.o T i _ x eT hx e1)
  obtain⟨x1,p1,p2,p3,_⟩:=h.k i x hx;have hl1:=(qB.1 p2).1;have eE:=qA (show E<L.length from om);have hbE:zcM L[E]:=zfi (n:=F) (by rw[←hE];exact eE);refine⟨_,eE,hbE,?_⟩;rcases Int.lt_or_le (E:Int) x.1.f with h3|h3
  ·exact h3
  ·have:x.1.f.toNat=E:=om;rw[this,eE]at p2;injection p2 with p2;rw[p2]at hbE;unfold zcM at hbE;omega
 have mono:∀(i:Nat) (x:Ent),es[i]? =some x→fr≤i→(F:Int)≤x.1.f:=fun i x hx h1=>by
  rcases qW h1 with e1|e1
  ·subst e1;rw[e0]at hx;injection hx with hx;rw[←hx];omega
  ·have:=h.o fr i _ x e0 hx e1;omega
 refine⟨?_,hTb.2,?_,fun j e hj hjT he=> ?_⟩
 ·have h1:(es.drop fr).takeWhile (fun e:Ent=>decide (e.1.f<(E:Int)))=es[fr]::((es.drop (fr+1)).takeWhile fun e:Ent=>decide (e.1.f<(E:Int))):=by rw[jA hfr,qV,if_pos (decide_eq_true om)]
  rw[hT];unfold toF;rw[h1,qQ];omega
 ·intro a b x y hx hy h1 h2 hh;obtain⟨z,z1,z2,z3⟩:=t2 b y hy h2;by_cases ha:a<fr
  ·exact hs a b x y hx hy ha om hh
  ·have:=t1 a x hx om h1;have:=mono a x hx om;exact hh E z om om z1 z2
 ·have hr:zeu es fr T=(es.drop fr).take (T - fr):=rfl;have hsplit:es=es.take fr++(zeu es fr T++es.drop T):=by
   rw[hr];conv=>lhs;rw[←jG fr es]
   congr 1;conv=>lhs;rw[←jG (T - fr) (es.drop fr)]
   rw[List.drop_drop,show fr+(T - fr)=T from om]
  unfold zoq;conv=>rhs;rw[hsplit]
  rw[List.countP_append,List.countP_append];have z1:(es.take fr).countP (fun o=>decide (sameI L o.1.f.toNat e.1.f.toNat∧o.1.sh<e.1.sh))=0:=zgh fun o ho=>by
   obtain⟨i,hi⟩:=qM ho;rw[qO]at hi;split at hi
   ·exact decide_eq_false fun hh=>hs i j o e hi he (by assumption) hj hh.1
   ·cases hi
  have z2:(es.drop T).countP (fun o=>decide (sameI L o.1.f.toNat e.1.f.toNat∧o.1.sh<e.1.sh))=0:=zgh fun o ho=>by obtain⟨i,hi⟩:=qM ho;rw[qD]at hi;refine decide_eq_false fun hh=> ?_;obtain⟨y,y1,y2,y3⟩:=t2 _ o hi om;have:=t1 j e he hj hjT;have:=mono j e he hj;exact hh.1 E y om om y1 y2
  rw[z1,z2,jF,Nat.add_zero];unfold zlj;refine List.countP_congr fun o ho=> ?_;obtain⟨i,hi⟩:=qM ho;rw[hr,qO]at hi;split at hi
  ·rw[qD]at hi;have a1:=t1 _ o hi om om;have a2:=t1 j e he hj hjT;have a3:=mono _ o hi om;have a4:=mono j e he hj;simp only[decide_eq_true_eq];refine⟨fun hh=>⟨fun p x h1 h2 hx=>zng (n:=F) om (by rw[←hE];omega) hx,hh⟩,fun hh=>hh.2⟩
  ·cases hi
open Classical in
theorem zkU{L:List It}{es:List Ent}(h:EsI L es):∀(n fr:Nat),es.length≤fr+n→zuY L es fr→(zh7 L es n fr=true↔∀(j:Nat) (e:Ent),fr≤j→es[j]? =some e→e.2.2.od=(zoq L es e:Int))
 | 0,fr,hn,_=>⟨fun _ j e hj he=>by have:=(qB.1 he).1;omega,fun _=>rfl⟩
 | n+1,fr,hn,hs=>by
  rw[zh7];by_cases hfr:fr<es.length
  ·obtain⟨T,hT⟩:∃ T,T=toF es (zfj L es[fr].1.f.toNat) fr:=⟨_,rfl⟩;obtain⟨r1,r2,r3,r4⟩:=zsp h hfr hs hT;rw[qA hfr];dsimp only;rw[←hT,qE,zkU h n T om r3];have hin:∀(j:Nat) (e:Ent),fr≤j→j<T→es[j]? =some e→e∈zeu es fr T:=fun j e hj hjT he=>by refine qL (i:=j - fr) ?_;unfold zeu;rw[qO,if_pos om,qD,show fr+(j - fr)=j from om];exact he
   have hout:∀ e∈zeu es fr T,∃ j,fr≤j∧j<T∧es[j]? =some e:=fun e he=>by
    obtain⟨i,hi⟩:=qM he;unfold zeu at hi;rw[qO]at hi;split at hi
    ·rw[qD]at hi;exact⟨fr+i,om,om,hi⟩
    ·cases hi
   unfold zvz;rw[List.all_eq_true];constructor
   ·rintro⟨g1,g2⟩ j e hj he;by_cases hjT:j<T
    ·have:=of_decide_eq_true (g1 e (hin j e hj hjT he));rw[this,r4 j e hj hjT he]
    ·exact g2 j e om he
   ·intro g;refine⟨fun e he=> ?_,fun j e hj he=>g j e om he⟩;obtain⟨j,h1,h2,h3⟩:=hout e he;rw[r4 j e h1 h2 h3];exact decide_eq_true (g j e h1 h3)
  ·rw[List.getElem?_eq_none om];exact⟨fun _ j e hj he=>by have:=(qB.1 he).1;omega,fun _=>rfl⟩
open Classical in
theorem zkV{L:List It}{es:List Ent}(h:EsI L es):zog L es=true↔∀(j:Nat) (e:Ent),es[j]? =some e→e.2.2.od=(zoq L es e:Int):=(zkU h es.length 0 om (fun i j x y _ _ hi=>absurd hi (Nat.not_lt_zero _))).trans ⟨fun g j e he=>g j e (jK _) he,fun g j e _ he=>g j e he⟩
def byI(es:List Ent)(i:Int):Option Ent:=es.foldl (fun o e=>if e.1.f=i∨e.1.l=i then some e else o) none
theorem zhV(es:List Ent)(e:Ent)(i:Int):byI (es++[e]) i=if e.1.f=i∨e.1.l=i then some e else byI es i:=by unfold byI;rw[List.foldl_append];rfl
theorem ztN{α:Type}{P:List α→Prop}(h0:P [])(h1:∀ r x,P r→P (r++[x]))(l:List α):P l:=by
 have key:∀ m:List α,P m.reverse:=fun m=>by
  induction m with
  | nil=>exact h0
  | cons a r ih=>rw[List.reverse_cons];exact h1 _ _ ih
 have:=key l.reverse;rwa[List.reverse_reverse]at this
theorem zfm{es:List Ent}{i:Int}{e:Ent}:byI es i=some e→(∃ j:Nat,es[j]? =some e)∧(e.1.f=i∨e.1.l=i):=by
 refine ztN (P:=fun es=>byI es i=some e→(∃ j:Nat,es[j]? =some e)∧(e.1.f=i∨e.1.l=i)) (fun h=>by cases h) (fun r x ih h=> ?_) es;rw[zhV]at h;split at h
 ·injection h with h;subst h;exact⟨⟨r.length,by simp⟩,by assumption⟩
 ·obtain⟨⟨j,hj⟩,h2⟩:=ih h;exact⟨⟨j,by rw[qC (qB.1 hj).1];exact hj⟩,h2⟩
theorem zro{es:List Ent}{i:Int}:byI es i=none→∀ e∈es,¬(e.1.f=i∨e.1.l=i):=by
 refine ztN (P:=fun es=>byI es i=none→∀ e∈es,¬(e.1.f=i∨e.1.l=i)) (fun _ e he=>by cases he) (fun r x ih h e he=> ?_) es;rw[zhV]at h;split at h
 ·cases h
 ·rcases qY.1 he with he|he
  ·exact ih h e he
  ·rw[List.mem_singleton]at he;rw[he];assumption
def zje(es:List Ent)(i:Nat)(x:It):Bool:= !decide (x.k=3)||(match byI es (i:Int)with|none=>false|some e=>zeT e.2.1 (zdd x) (decide ((i:Int)≠e.1.f)))
def zhh(es:List Ent):List It→Nat→Bool
 | [],_=>true
 | x::r,i=>zje es i x&&zhh es r (i+1)
theorem zmU{es:List Ent}{L:List It}:∀{r:List It} {i:Nat},L.drop i=r→zhh es r i=true→∀(j:Nat) (x:It),i≤j→L[j]? =some x→zje es j x=true
 | [],i,hr,_,j,x,hj,hx=>by
  have:=jJ.1 hr;have:=(qB.1 hx).1;omega
 | y::r,i,hr,h,j,x,hj,hx=>by
  obtain⟨hi,hy,hr2⟩:=zcg hr;rw[zhh,qE]at h;by_cases e:j=i
  ·subst e;rw[qA hi]at hx;injection hx with hx;rw[←hx,hy];exact h.1
  ·exact zmU hr2 h.2 j x om hx
theorem zkI{es:List Ent}{L:List It}:∀{r:List It} {i:Nat},L.drop i=r→(∀(j:Nat) (x:It),i≤j→L[j]? =some x→zje es j x=true)→zhh es r i=true
 | [],_,_,_=>rfl
 | y::r,i,hr,h=>by obtain⟨hi,hy,hr2⟩:=zcg hr;rw[zhh,qE];exact⟨h i y (Nat.le_refl _) (by rw[qA hi,hy]),zkI hr2 fun j x hj hx=>h j x om hx⟩
def zoH(L:List It):Bool:=zez L&&(zhh (zaa L) L 0&&zog L (zaa L))
structure Wel(L:List It):Prop where
 ord:zez L=true
 pic:∀(j:Nat) (x:It),L[j]? =some x→zje (zaa L) j x=true
 num:zog L (zaa L)=true
theorem zj1(L:List It):zoH L=true↔Wel L:=by unfold zoH;rw[qE,qE];exact⟨fun h=>⟨h.1,fun j x hx=>zmU (i:=0) rfl h.2.1 j x (jK _) hx,h.2.2⟩,fun h=>⟨h.ord,zkI (i:=0) rfl fun j x _ hx=>h.pic j x hx,h.num⟩⟩
theorem zaX{L:List It}{j:Nat}{e:Ent}(he:(zaa L)[j]? =some e):0≤e.1.f∧e.1.f≤e.1.l∧e.1.l<L.length∧(e.1.l=e.1.f∨e.1.l=e.1.f+1)∧(∀(i:Nat) (x:It),e.1.f≤i→(i:Int)≤e.1.l→L[i]? =some x→x.k=3)∧(∃ x,L[e.1.f.toNat]? =some x∧x.p=e.2.2):=by
 obtain⟨n,m,hn,hm,e1,e2,e3,k1,k2,e4,_⟩:=((zgY L).e j e he).1;have hml:m=n∨m=n+1:=by
  rcases e3 with h|h
  ·exact .inl h.1
  ·exact .inr h.1
 refine⟨om,om,om,om,fun i x h1 h2 hx=> ?_,⟨L[n],by rw[e1,qI];exact qA hn,e4.symm⟩⟩;have:i=n∨i=m:=om;rcases this with rfl|rfl
 ·rw[qA hn]at hx;injection hx with hx;rw[←hx];exact k1
 ·rw[qA hm]at hx;injection hx with hx;rw[←hx];exact k2
theorem zne{L:List It}{j k:Nat}{e f:Ent}(he:(zaa L)[j]? =some e)(hf:(zaa L)[k]? =some f){i:Int}(h1:e.1.f≤i)(h2:i≤e.1.l)(h3:f.1.f≤i)(h4:i≤f.1.l):j=k:=by
 rcases Nat.lt_trichotomy j k with h|h|h
 ·have:=(zlF L).2 j k e f he hf h;omega
 ·exact h
 ·have:=(zlF L).2 k j f e hf he h;omega
theorem Wel.sl{L:List It}(h:Wel L):SlOk L:=fun j e he i x hx h1 h2=>by
 obtain⟨a1,a2,a3,a4,a5,_⟩:=zaX he;have k3:=a5 i x h1 h2 hx;have hp:=h.pic i x hx;unfold zje at hp;rw[decide_eq_true k3]at hp;simp only[Bool.not_true,Bool.false_or]at hp;cases hb:byI (zaa L) (i:Int)with
 | none=>rw[hb]at hp;cases hp
 | some f=>rw[hb]at hp;obtain⟨⟨k,hk⟩,hfi⟩:=zfm hb;obtain⟨b1,b2,_⟩:=zaX hk;have:=zne he hk (i:=(i:Int)) h1 h2 om om;subst this;rw[he]at hk;injection hk with hk;rw[hk];exact hp
theorem esI(L:List It):EsI L (zaa L):=⟨fun j e he=>by
  obtain⟨a1,a2,a3,_,a5,x,hx,hp⟩:=zaX he;exact⟨x,a1,hx,a5 e.1.f.toNat x om om hx,hp.symm⟩,fun i j x y hx hy hij=>by
  have:=(zlF L).2 i j x y hx hy hij;obtain⟨_,a2,_⟩:=zaX hx;omega⟩
end Go.Proofs.YtpjlfoficnpfoaaGreatDoor.Sc
