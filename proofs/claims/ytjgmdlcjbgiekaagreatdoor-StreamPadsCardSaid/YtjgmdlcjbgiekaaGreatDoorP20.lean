/-
  Parts of the proof, put together in one text. No condition.
-/
import Derived.Test.YtjgmdlcjbgiekaaGreatDoorP19
namespace Go.Proofs.YtjgmdlcjbgiekaaGreatDoor.Sc
set_option linter.all false
open Pm Ty Go.RowKit
theorem zl5 (h:Pi) (H:za):CallOk Tryz.prog 68 [.agg (pic h)] H (.bool (zcB h)) H:=by
 obtain ⟨ty,st,od,tf,rp,al⟩:=h
 refine CallOk.body (F0:=[(0,.agg (pic ⟨ty,st,od,tf,rp,al⟩))]) Tryz.func68 rfl Tryz.ntmps68 Tryz.results68 rfl (by kernel_rfl) rfl ?_
 (repeat' (first|refine PW.seq ?_|refine PW.skip ?_|refine PW.block ?_|((first|refine PW.rg rfl fun K hK=> ?_|refine PW.draw mix (by kernel_rfl) fun K hK=> ?_);simp (maxSteps:=3000000) (disch:=omega) only [go_sem,↓reduceIte,reduceCtorEq,pic])|((first|refine zk ?_ ?_|refine zn ?_ ?_|refine And.intro ?_ ?_)<;>intro h<;>(try simp only [nqb] at h)<;>simp (maxSteps:=3000000) (disch:=omega) only [go_sem,↓reduceIte,reduceCtorEq,pic,h])|(refine hK _ _ ?_;clear hK K)|(refine PW.cond (t:=_) rfl (fun h=> ?_) (fun h=> ?_)<;>(try (cases h;done))<;>(try simp only [nqb] at h))))
 all_goals ((refine PW.ret ⟨_,rfl,?_⟩;first|refine .inl ⟨?_,rfl⟩|refine Fin.base (.id' ?_ (.bool _))|refine Fin.base (.id' ?_ (.int _ _)));(simp_all [zcB,slot,Nat.beq]<;>first|rfl|omega|(rw [Bool.eq_iff_iff];simp;done)|(rw [Bool.eq_iff_iff];simp;omega)))
set_option maxHeartbeats 4000000 in
theorem zjL (a b:Pi) (H:za):CallOk Tryz.prog 69 [.agg (pic a),.agg (pic b)] H (.bool (zcd a b)) H:=by
 obtain ⟨ty,st,od,tf,rp,al⟩:=a
 obtain ⟨ty',st',od',tf',rp',al'⟩:=b
 refine CallOk.body (F0:=[(0,.agg (pic ⟨ty,st,od,tf,rp,al⟩)),(1,.agg (pic ⟨ty',st',od',tf',rp',al'⟩))]) Tryz.func69 rfl Tryz.ntmps69 Tryz.results69 rfl (by kernel_rfl) rfl ?_
 (repeat' (first|refine PW.seq ?_|refine PW.skip ?_|refine PW.block ?_|((first|refine PW.rg rfl fun K hK=> ?_|refine PW.draw mix (by kernel_rfl) fun K hK=> ?_);simp (maxSteps:=3000000) (disch:=omega) only [go_sem,↓reduceIte,reduceCtorEq,pic])|((first|refine zk ?_ ?_|refine zn ?_ ?_|refine And.intro ?_ ?_)<;>intro h<;>(try simp only [nqb] at h)<;>simp (maxSteps:=3000000) (disch:=omega) only [go_sem,↓reduceIte,reduceCtorEq,pic,h])|(refine hK _ _ ?_;clear hK K)|(refine PW.cond (t:=_) rfl (fun h=> ?_) (fun h=> ?_)<;>(try (cases h;done))<;>(try simp only [nqb] at h))))
 all_goals ((refine PW.ret ⟨_,rfl,?_⟩;first|refine .inl ⟨?_,rfl⟩|refine Fin.base (.id' ?_ (.bool _))|refine Fin.base (.id' ?_ (.int _ _)));simp_all [zcd,slot,Nat.beq])
 all_goals grind
def za6 (a:As):List PV:=sqc a.sq++[.bool a.kn,.int .i64 a.op,.bool a.rs,.int .i64 a.lk]
def asB (a:As):Blk:=⟨201,0,za6 a⟩
theorem zbV (a:As) (h:SqL a.sq):(za6 a).length=139:=by
 simp only [za6,List.length_append,zac _ h,List.length_cons,List.length_nil]
theorem ziU (a:As) (h:SqL a.sq) (n:Nat):(za6 a)[135+n]? =[.bool a.kn,.int .i64 a.op,.bool a.rs,.int .i64 a.lk][n]? :=by
 unfold za6
 rw [List.getElem?_append_right (by rw [zac _ h];omega),zac _ h,Nat.add_sub_cancel_left]
theorem zqD (a:As) (h:SqL a.sq):(za6 a)[135]? =some (.bool a.kn):=ziU a h 0
theorem zvc (a:As) (h:SqL a.sq):(za6 a)[136]? =some (.int .i64 a.op):=ziU a h 1
theorem zvb (a:As) (h:SqL a.sq):(za6 a)[137]? =some (.bool a.rs):=ziU a h 2
theorem zvd (a:As) (h:SqL a.sq):(za6 a)[138]? =some (.int .i64 a.lk):=ziU a h 3
theorem zlo (a:As) (h:SqL a.sq):List.take 135 (za6 a)=sqc a.sq:=List.take_left' (zac _ h)
theorem zf6 (a:As) (h:SqL a.sq) (n:Nat) (v:PV):(za6 a).set (135+n) v=sqc a.sq++[.bool a.kn,.int .i64 a.op,.bool a.rs,.int .i64 a.lk].set n v:=by
 unfold za6
 rw [List.set_append_right _ _ (by rw [zac _ h];omega),zac _ h,Nat.add_sub_cancel_left]
theorem zsI (a:As) (h:SqL a.sq) (v:Bool):(za6 a).set 135 (.bool v)=za6 { a with kn:=v }:=zf6 a h 0 _
theorem ziT (a:As) (h:SqL a.sq) (v:Int):(za6 a).set 136 (.int .i64 v)=za6 { a with op:=v }:=zf6 a h 1 _
theorem zmz (a:As) (h:SqL a.sq) (v:Bool):(za6 a).set 137 (.bool v)=za6 { a with rs:=v }:=zf6 a h 2 _
theorem zf5 (a:As) (h:SqL a.sq) (v:Int):(za6 a).set 138 (.int .i64 v)=za6 { a with lk:=v }:=zf6 a h 3 _
theorem zqC (n:Nat) (a:As):∀ x∈za6 a,Scoped n x:=fun x hx=>by
 simp only [za6,List.mem_append,List.mem_cons,List.not_mem_nil,or_false] at hx
 rcases hx with hx|rfl|rfl|rfl|rfl
 ·exact zbn _ _ x hx
 ·exact .bool _
 ·exact .int _ _
 ·exact .bool _
 ·exact .int _ _
def fm0:FmY:=⟨0,0,sq0,zub,false,0⟩
theorem zqq (a:As) (i:Nat) (H:za) (h:H[i]? =some (asB a)) (ha:SqL a.sq):CallOk Tryz.prog 180 [.ptr i 0 0] H (.tup []) (H.set i (asB a.clr)):=by
 have hil:i<H.length:=(List.getElem?_eq_some_iff.1 h).1
 unfold asB at h
 have hs:∀ B,(H.set i B)[i]? =some B:=fun B=>by simp [hil]
 have l1:=zbV a ha
 have l2:=zbV { a with rs:=true } ha
 have s1:=zmz a ha true
 have s2:=zf5 { a with rs:=true } ha (-1)
 refine CallOk.body (F0:=[(0,.ptr i 0 0)]) Tryz.func180 rfl Tryz.ntmps180 Tryz.results180 rfl (by kernel_rfl) rfl ?_
 refine PW.f (fun K k=>by simp (maxSteps:=3000000) (disch:=omega) only [go_sem,↓reduceIte,reduceCtorEq,h,hs,l1,l2,s1,s2,List.set_set];exact k) ?_
 refine ⟨_,rfl,.inl ⟨rfl,?_⟩⟩
 rfl
theorem zmd (n:Nat) (f:FmY):∀ x∈zC f,Scoped n x:=fun x hx=>by
 simp only [zC,pic,List.mem_append,List.mem_cons,List.not_mem_nil,or_false] at hx
 rcases hx with rfl|rfl|hx|(rfl|rfl|rfl|rfl|rfl|rfl)|rfl|rfl
 ·exact .int _ _
 ·exact .int _ _
 ·exact zbn _ _ x hx
 ·exact .int _ _
 ·exact .int _ _
 ·exact .int _ _
 ·exact .bool _
 ·exact .bool _
 ·exact .bool _
 ·exact .bool _
 ·exact .int _ _
theorem ziV (H K:za) (i:Nat) (a:As) (v:PV) (hi:i<H.length) (hv:Scoped H.length v):Fin H v (H.set i (asB a)) v (H.set i (asB a)++K):=
 Fin.cut rfl (by simp) (fun h=>HSc.set h (zqC _ _)) (.id (by rw [List.length_set];exact hv))
set_option maxHeartbeats 2000000 in
set_option maxRecDepth 100000 in
theorem zsA (a:As) (f l:Int) (h:Pi) (i:Nat) (H:za) (hi:H[i]? =some (asB a)) (ha:SqL a.sq):CallOk Tryz.prog 254 [.ptr i 0 0,.int .i64 f,.int .i64 l,.agg (pic h)] H (.agg (zC ⟨f,l,a.sq,h,a.rs,a.lk⟩)) (H.set i (asB { a with rs:=false,lk:= -1 })):=by
 have hil:i<H.length:=(List.getElem?_eq_some_iff.1 hi).1
 unfold asB at hi
 have hi1:∀ K,(H++K)[i]? =H[i]? :=fun K=>List.getElem?_append_left hil
 have hs:∀ K B,((H++K).set i B)[i]? =some B:=fun K B=>by rw [List.getElem?_set_self (by simp;omega)]
 have l1:=zbV a ha
 have l2:=zbV { a with rs:=false } ha
 have s1:=zmz a ha false
 have s2:=zf5 { a with rs:=false } ha (-1)
 have t1:=zlo a ha
 have t2:=zvb a ha
 have t3:=zvd a ha
 have p1:(pic h).length=6:=rfl
 have p2:(pic h).all PV.cell=true:=rfl
 have p3:List.take 6 (pic h)=pic h:=rfl
 have q1:=zac a.sq ha
 have q2:=zcs a.sq
 have q3:∀ X,List.take 135 (sqc a.sq++X)=sqc a.sq:=fun X=>List.take_left' q1
 have q4:∀ X n,List.drop (135+n) (sqc a.sq++X)=List.drop n X:=fun X n=>by rw [←List.drop_drop,List.drop_left' q1]
 have q5:∀ X n,List.take (135+n) (sqc a.sq++X)=sqc a.sq++List.take n X:=fun X n=>by rw [List.take_append,q1,List.take_of_length_le (by omega),Nat.add_sub_cancel_left]
 have q6:∀ X,List.drop 141 (sqc a.sq++X)=List.drop 6 X:=fun X=>q4 X 6
 have q7:∀ X,List.drop 142 (sqc a.sq++X)=List.drop 7 X:=fun X=>q4 X 7
 have q8:∀ X,List.drop 143 (sqc a.sq++X)=List.drop 8 X:=fun X=>q4 X 8
 have q9:∀ X,List.take 141 (sqc a.sq++X)=sqc a.sq++List.take 6 X:=fun X=>q5 X 6
 have q10:∀ X,List.take 142 (sqc a.sq++X)=sqc a.sq++List.take 7 X:=fun X=>q5 X 7
 refine CallOk.body (F0:=[(0,.ptr i 0 0),(1,.int .i64 f),(2,.int .i64 l),(3,.agg (pic h))]) Tryz.func254 rfl Tryz.ntmps254 Tryz.results254 rfl (by kernel_rfl) rfl ?_
 refine PW.f (fun K k=>by simp (maxSteps:=3000000) (disch:=omega) only [go_sem,↓reduceIte,reduceCtorEq,p2];exact k) ?_
 (repeat refine PW.seq ?_);refine PW.drawg mix (by kernel_rfl) fun K hK=> ?_;simp (maxSteps:=3000000) (disch:=omega) only [go_sem,↓reduceIte,reduceCtorEq,hi1,hi,l1,t1,t2,t3,p1,p2,p3,q1,q2,q3,q6,q7,q8,q9,q10,List.length_append,pic];refine hK _ _ ?_;clear hK K
 obtain ⟨W,hW⟩:∃ W,W=zC ⟨f,l,a.sq,h,a.rs,a.lk⟩:=⟨_,rfl⟩
 refine PW.at [0,8,9] (?_:PW _ _ _ [(0,.ptr i 0 0),(8,.ptr (H.length+1) 0 0),(9,.ptr (H.length+2) 0 0)] (H++[⟨35,0,pic h⟩,⟨123,0,zC fm0⟩,⟨123,0,W⟩]) _) rfl (by rw [hW];rfl)
 have w1:W.length=145:=by rw [hW];exact zbU _ ha
 have w2:List.take 145 W=W:=List.take_of_length_le (by omega)
 have w3:W.all PV.cell=true:=by rw [hW];exact zb5 _
 have z1:(zC fm0).length=145:=rfl
 have z2:∀ X,List.drop 145 (zC fm0)=X↔[]=X:=fun X=>by rw [show List.drop 145 (zC fm0)=[] from rfl]
 have z3:List.drop 145 (zC fm0)=[]:=rfl
 refine PW.f (fun K k=>by simp (maxSteps:=3000000) (disch:=omega) only [go_sem,↓reduceIte,reduceCtorEq,hi1,hi,hs,l1,l2,s1,s2,List.set_set];exact k) ?_
 refine PW.at [8,9] (?_:PW _ _ _ [(8,.ptr (H.length+1) 0 0),(9,.ptr (H.length+2) 0 0)] (H.set i (asB { a with rs:=false,lk:= -1 })++[⟨35,0,pic h⟩,⟨123,0,zC fm0⟩,⟨123,0,W⟩]) _) rfl (by rw [List.set_append_left _ _ hil];rfl)
 have hsl:(H.set i (asB { a with rs:=false,lk:= -1 })).length=H.length:=by simp
 have af:=fun K=>ziV H K i { a with rs:=false,lk:= -1 } (.agg (zC ⟨f,l,a.sq,h,a.rs,a.lk⟩)) hil (.agg fun j x hx=>zmd _ _ x (List.mem_of_getElem? hx))
 generalize H.set i (asB { a with rs:=false,lk:= -1 })=X at *
 rw [←hsl]
 refine PW.f (fun K k=>by simp (maxSteps:=3000000) (disch:=omega) only [go_sem,↓reduceIte,reduceCtorEq,w1,w2,w3,z1,z3,List.append_nil];exact k) ?_
 refine PW.ret ⟨.agg W,by simp (maxSteps:=3000000) (disch:=omega) only [go_sem,↓reduceIte,reduceCtorEq,zd,zg,List.mapM_cons,List.mapM_nil,Option.pure_def,Option.bind_eq_bind,Option.bind_some,Array.toList,w1,w2],?_⟩
 rw [hW]
 exact af _
theorem ziv (L:List It) (hL:∀ x∈L,SqOk x.s) (k:Nat) (hk:k<L.length):List.take 6 (List.drop (k * 148+139) (itL L))=pic L[k].p:=by
 rw [zfQ L hL k 139 6 hk (by omega)]
 exact zwv _ (hL _ (List.getElem_mem hk))
theorem zl9 (L:List It) (k:Nat) (hk:k<L.length):hdA L (k:Int)=L[k].p:=by
 unfold hdA
 rw [Int.toNat_natCast,List.getElem?_eq_getElem hk]
def fmO:Option FmY→PV
 | none=>.tup [.agg (zC fm0),.bool false]
 | some f=>.tup [.agg (zC f),.bool true]
theorem zla (n:Nat) (r:Option FmY):Scoped n (fmO r):=by
 have h:∀ f b,Scoped n (.tup [.agg (zC f),.bool b]):=fun f b=>.tup fun j x hx=>by
  have hx:=List.mem_of_getElem? hx
  simp only [List.mem_cons,List.not_mem_nil,or_false] at hx
  rcases hx with rfl|rfl
  ·exact .agg fun j x hx=>zmd _ _ x (List.mem_of_getElem? hx)
  ·exact .bool _
 cases r<;>exact h _ _
def OpR (L:List It) (n:Int):Prop:=n= -1∨∃ k:Nat,n=(k:Int)∧k<L.length
set_option maxHeartbeats 4000000 in
set_option maxRecDepth 100000 in
theorem zqB (L:List It) (fl:Bool) (k:Nat) (hk:k<L.length) (hL:∀ x∈L,SqOk x.s) (a:As) (i:Nat) (H:za) (hi:H[i]? =some (asB a)) (ha:SqOk a.sq) (hop:OpR L a.op):
  CallOk Tryz.prog 179 [.ptr i 0 0,.slice (itL L) L.length fl,.int .i64 (k:Int)] H (fmO (a.pic L k L[k].p).2) (H.set i (asB (a.pic L k L[k].p).1)):=by
 have hil:i<H.length:=(List.getElem?_eq_some_iff.1 hi).1
 have ha':=ha.toL
 unfold asB at hi
 have hi1:∀ K,(H++K)[i]? =H[i]? :=fun K=>List.getElem?_append_left hil
 have hs:∀ K B,((H++K).set i B)[i]? =some B:=fun K B=>by rw [List.getElem?_set_self (by simp;omega)]
 have l1:=zbV a ha'
 have s1:=ziT a ha' (-1)
 have t1:=zvc a ha'
 have ln:=zcg L hL
 have ip:=ziv L hL k hk
 have pv:=fun K=>zcw a.sq L[k].p K ha
 have cm:=fun f l (h:Pi) (X:za) (hX:X[i]? =some (asB { a with op:= -1 }))=>zsA { a with op:= -1 } f l h i X hX ha'
 have ld:=fun K=>zl5 L[k].p K
 generalize hr:a.pic L k L[k].p=r
 unfold As.pic at hr
 generalize L[k].p=g at *
 have p1:(pic g).length=6:=rfl
 have p2:(pic g).all PV.cell=true:=rfl
 have p3:List.take 6 (pic g)=pic g:=rfl
 have p4:(pic g)[1]? =some (.int .i64 g.st):=rfl
 have z1:(zC fm0).length=145:=rfl
 have z3:List.drop 145 (zC fm0)=[]:=rfl
 have z4:List.take 145 (zC fm0)=zC fm0:=rfl
 have z5:(zC fm0).all PV.cell=true:=rfl
 have p6:List.drop 6 (pic g)=[]:=rfl
 have af:=fun b o K=>ziV H K i b (fmO o) hil (zla _ _)
 refine CallOk.body (F0:=[(0,.ptr i 0 0),(1,.slice (itL L) L.length fl),(2,.int .i64 (k:Int))]) Tryz.func179 rfl Tryz.ntmps179 Tryz.results179 rfl (by kernel_rfl) rfl ?_
 refine PW.e ?_
 refine PW.at [0,1,2,6,7] (?_:PW _ _ _ [(0,.ptr i 0 0),(1,.slice (itL L) L.length fl),(2,.int .i64 (k:Int)),(6,.ptr H.length 0 0),(7,.bool false)] (H++[⟨123,0,zC fm0⟩]) _) rfl rfl
 refine PW.view (Vs.place 35) ?_
 rw [List.append_assoc]
 (repeat refine PW.seq ?_);refine PW.drawi [H.length+1] [(8,[0])] [(8,0)] [] mix (by kernel_rfl) (by simp<;>omega) fun K hK=> ?_
 simp (maxSteps:=3000000) (disch:=omega) only [go_sem,↓reduceIte,reduceCtorEq,hi1,hi,t1,ln,ip,p1,p2,p3]
 refine hK _ _ ?_;clear hK K
 refine PW.f (fun K k=>by simp (maxSteps:=3000000) (disch:=omega) only [go_sem,↓reduceIte,reduceCtorEq,hi1,hi,hs,l1,s1];exact k) ?_
 refine PW.at [0,1,2,6,7,8,9] (?_:PW _ _ _ [(0,.ptr i 0 0),(1,.slice (itL L) L.length fl),(2,.int .i64 (k:Int)),(6,.ptr H.length 0 0),(7,.bool false),(8,.ptr (H.length+1) 1 0),(9,.int .i64 a.op)] (H.set i (asB { a with op:= -1 })++[⟨123,0,zC fm0⟩,⟨35,1,pic g⟩]) _) rfl (by rw [List.set_append_left _ _ hil];rfl)
 have hsl:(H.set i (asB { a with op:= -1 })).length=H.length:=by simp
 have af:=fun b o K=>ziV H K i b (fmO o) hil (zla _ _)
 have hX0:(H.set i (asB { a with op:= -1 }))[i]? =some (asB { a with op:= -1 }):=by simp [hil]
 have hX2:∀ b,(H.set i (asB { a with op:= -1 })).set i (asB b)=H.set i (asB b):=fun b=>by rw [List.set_set]
 generalize hXe:H.set i (asB { a with op:= -1 })=X at *
 have hX1:∀ K,(X++K)[i]? =some (asB { a with op:= -1 }):=fun K=>by rw [List.getElem?_append_left (by omega)];exact hX0
 have hX3:∀ K b,(X++K).set i b=X.set i b++K:=fun K b=>List.set_append_left _ _ (by omega)
 rw [←hsl]
 unfold asB at hX1
 have u0:=zbV { a with op:= -1 } ha'
 have u1:=zlo { a with op:= -1 } ha'
 have u2:=zqD { a with op:= -1 } ha'
 dsimp only at u1 u2
 suffices hrest:PW Tryz.prog _ _ [(0,.ptr i 0 0),(1,.slice (itL L) L.length fl),(2,.int .i64 (k:Int)),(6,.ptr X.length 0 0),(7,.bool false),(8,.ptr (X.length+1) 1 0),(9,.int .i64 a.op),(36,.bool (!(a.kn&&zM a.sq g)))] (X++[⟨123,0,zC fm0⟩,⟨35,1,pic g⟩]) _ by
  cases hkn:a.kn with
  | false=>
   rw [hkn] at hrest
   have u3:(za6 { a with op:= -1 })[135]? =some (.bool false):=u2.trans (by rw [hkn])
   (repeat refine PW.seq ?_);refine PW.drawg mix (by kernel_rfl) fun K hK=> ?_;simp (maxSteps:=3000000) (disch:=omega) only [go_sem,↓reduceIte,reduceCtorEq,hX1,u0,u1,u3];refine hK _ _ ?_;clear hK K
   exact PW.at [0,1,2,6,7,8,9,36] hrest rfl rfl
  | true=>
   rw [hkn] at hrest
   have u3:(za6 { a with op:= -1 })[135]? =some (.bool true):=u2.trans (by rw [hkn])
   (repeat refine PW.seq ?_);refine PW.drawg mix (by kernel_rfl) fun K hK=> ?_;simp (maxSteps:=3000000) (disch:=omega) only [go_sem,↓reduceIte,reduceCtorEq,hX1,u0,u1,u3,p1,p2,p3];refine VCz.call (fun _=>pv _) rfl ?_;simp (maxSteps:=3000000) (disch:=omega) only [go_sem,↓reduceIte,reduceCtorEq];refine hK _ _ ?_;clear hK K
   exact PW.at [0,1,2,6,7,8,9,36] hrest rfl rfl
 have hX4:∀ K b,(X++K).set i (asB b)=H.set i (asB b)++K:=fun K b=>by rw [hX3,hX2]
 have hY0:∀ b F G,(H.set i (asB b)++[F,G])[X.length]? =some F:=fun b F G=>by rw [hsl,List.getElem?_append_right (by simp)];simp
 have hY1:∀ b F G,(H.set i (asB b)++[F,G])[X.length+1]? =some G:=fun b F G=>by rw [hsl,List.getElem?_append_right (by simp)];simp
 have hYs:∀ b F G B,(H.set i (asB b)++[F,G]).set X.length B=H.set i (asB b)++[B,G]:=fun b F G B=>by rw [hsl,List.set_append_right _ _ (by simp)];simp
 have hret:∀ b f v (Fx:Fr) (Y:za),slot Fx 6= .ptr X.length 0 0→slot Fx 7= .bool v→Y=H.set i (asB b)++[⟨123,0,zC f⟩,⟨35,1,pic g⟩]→fmO r.2= .tup [.agg (zC f),.bool v]→b=r.1→SqL f.sq→zoM Tryz.prog [.cell 6 123,.tmp 7] (Pm.Fin H (fmO r.2) (H.set i (asB r.1))) .ret Fx Y:=fun b f v Fx Y h6 h7 e3 e1 e2 hf=>by
  subst e3
  have w1:=zbU f hf
  have w2:List.take 145 (zC f)=zC f:=List.take_of_length_le (by omega)
  refine ⟨.tup [.agg (zC f),.bool v],by simp (maxSteps:=3000000) (disch:=omega) only [go_sem,↓reduceIte,reduceCtorEq,hY0,w1,w2,h6,h7,zd,zg,List.mapM_cons,List.mapM_nil,Option.pure_def,Option.bind_eq_bind,Option.bind_some],?_⟩
  have:=af b r.2 [⟨123,0,zC f⟩,⟨35,1,pic g⟩]
  rw [e1] at this ⊢
  rw [e2] at this ⊢
  exact this
 have hz:SqL fm0.sq:=⟨rfl,rfl⟩
 by_cases hv:(a.kn&&zM a.sq g)=false
 ·rw [if_pos hv] at hr
  rw [hv]
  (repeat refine PW.seq ?_);refine PW.cond (t:=_) rfl (fun h=> ?_) (fun h=> ?_)
  rotate_left
  ·cases h
  refine PW.f (fun K k=>by simp (maxSteps:=3000000) (disch:=omega) only [go_sem,↓reduceIte,reduceCtorEq,z1,z3,z5];exact k) ?_
  refine PW.ret (hret { a with op:= -1 } fm0 false _ _ rfl rfl ?_ ?_ ?_ hz)
  ·rw [←hXe];rfl
  ·rw [←hr];rfl
  ·rw [←hr]
 rw [if_neg hv] at hr
 have hv':(a.kn&&zM a.sq g)=true:=by simpa using hv
 rw [hv']
 (repeat refine PW.seq ?_);refine PW.cond (t:=_) rfl (fun h=> ?_) (fun h=> ?_)
 ·cases h
 refine PW.skip ?_
 (repeat refine PW.seq ?_);refine PW.block ?_
 refine PW.f (fun K k=>by simp (maxSteps:=3000000) (disch:=omega) only [go_sem,↓reduceIte,reduceCtorEq,p1,p4];exact k) ?_
 by_cases h3:g.st=3
 ·rw [if_pos h3] at hr
  (repeat refine PW.seq ?_);refine PW.cond (t:=_) rfl (fun h=> ?_) (fun h=> ?_)
  rotate_left
  ·simp [h3] at h
  have cm':=fun f l h K=>cm f l h (X++K) (hX1 K)
  dsimp only at cm'
  simp only [hX4] at cm'
  have w1:=zbU ⟨(k:Int),(k:Int),a.sq,g,a.rs,a.lk⟩ ha'
  refine PW.f (fun K k=>by simp (maxSteps:=3000000) (disch:=omega) only [go_sem,↓reduceIte,reduceCtorEq,p1,p2,p3];refine VCx.call (cm' _ _ _ _) rfl ?_;simp (maxSteps:=3000000) (disch:=omega) only [go_sem,↓reduceIte,reduceCtorEq,hY0,hYs,z1,z3,w1,zb5,List.append_nil];exact k) ?_
  refine PW.ret (hret { a with op:= -1,rs:=false,lk:= -1 } ⟨(k:Int),(k:Int),a.sq,g,a.rs,a.lk⟩ true _ _ rfl rfl ?_ ?_ ?_ ha')
  ·rfl
  ·rw [←hr];rfl
  ·rw [←hr];rfl
 rw [if_neg h3] at hr
 (repeat refine PW.seq ?_);refine PW.cond (t:=_) rfl (fun h=> ?_) (fun h=> ?_)
 ·simp [h3] at h
 suffices hrest:∀ b,(b=true↔(a.op≠-1∧zcd (hdA L a.op) g=true))→PW Tryz.prog _ _ [(0,.ptr i 0 0),(1,.slice (itL L) L.length fl),(2,.int .i64 (k:Int)),(6,.ptr X.length 0 0),(7,.bool false),(8,.ptr (X.length+1) 1 0),(9,.int .i64 a.op),(47,.bool b)] (X++[⟨123,0,zC fm0⟩,⟨35,1,pic g⟩]) _ by
  rcases hop with ho|⟨k2,ho,hk2⟩
  ·have e0:(a.op== -1)=true:=by simp [ho]
   (repeat refine PW.seq ?_);refine PW.drawg mix (by kernel_rfl) fun K hK=> ?_;simp (maxSteps:=3000000) (disch:=omega) only [go_sem,↓reduceIte,reduceCtorEq,e0];refine hK _ _ ?_;clear hK K
   exact PW.at [0,1,2,6,7,8,9,47] (hrest false (by simp [ho])) rfl rfl
  ·have e0:((k2:Int)== -1)=false:=by simp
   have ip2:=ziv L hL k2 hk2
   rw [ho,zl9 L k2 hk2] at hrest
   rw [ho]
   generalize L[k2].p=g2 at *
   have pr:=fun K=>zjL g2 g K
   have y1:(pic g2).length=6:=rfl
   have y2:(pic g2).all PV.cell=true:=rfl
   (repeat refine PW.seq ?_);refine PW.drawg mix (by kernel_rfl) fun K hK=> ?_;simp (maxSteps:=3000000) (disch:=omega) only [go_sem,↓reduceIte,reduceCtorEq,e0,ln,ip2,p1,p2,p3,y1,y2];refine VCz.call (fun _=>pr _) rfl ?_;simp (maxSteps:=3000000) (disch:=omega) only [go_sem,↓reduceIte,reduceCtorEq];refine hK _ _ ?_;clear hK K
   exact PW.at [0,1,2,6,7,8,9,47] (hrest (zcd g2 g) (by simp)) rfl rfl
 intro b hb
 (repeat refine PW.seq ?_);refine PW.cond (t:=_) rfl (fun h=> ?_) (fun h=> ?_)
 ·subst h
  have ho:=hb.1 rfl
  rw [if_pos ho] at hr
  obtain ⟨k2,ho2,hk2⟩:∃ k2:Nat,a.op=(k2:Int)∧k2<L.length:=by
   rcases hop with h|h
   ·exact absurd h ho.1
   ·exact h
  have ip2:=ziv L hL k2 hk2
  rw [ho2,zl9 L k2 hk2] at hr
  rw [ho2]
  generalize L[k2].p=g2 at *
  have y1:(pic g2).length=6:=rfl
  have y2:(pic g2).all PV.cell=true:=rfl
  have cm':=fun f l h K=>cm f l h (X++K) (hX1 K)
  dsimp only at cm'
  simp only [hX4] at cm'
  have w1:=zbU ⟨(k2:Int),(k:Int),a.sq,g2,a.rs,a.lk⟩ ha'
  refine PW.f (fun K k=>by simp (maxSteps:=3000000) (disch:=omega) only [go_sem,↓reduceIte,reduceCtorEq,ln,ip2,p1,p2,p3,y1,y2];refine VCx.call (cm' _ _ _ _) rfl ?_;simp (maxSteps:=3000000) (disch:=omega) only [go_sem,↓reduceIte,reduceCtorEq,hY0,hYs,z1,z3,w1,zb5,List.append_nil];exact k) ?_
  refine PW.ret (hret { a with op:= -1,rs:=false,lk:= -1 } ⟨(k2:Int),(k:Int),a.sq,g2,a.rs,a.lk⟩ true _ _ rfl rfl ?_ ?_ ?_ ha')
  ·rfl
  ·rw [←hr];rfl
  ·rw [←hr];rfl
 ·subst h
  rw [if_neg (fun h=>by have:=hb.2 h;cases this)] at hr
  refine PW.f (fun K k=>by simp (maxSteps:=3000000) (disch:=omega) only [go_sem,↓reduceIte,reduceCtorEq,p1,p2,p3];refine VCx.call (ld _) rfl ?_;simp (maxSteps:=3000000) (disch:=omega) only [go_sem,↓reduceIte,reduceCtorEq];exact k) ?_
  cases hld:zcB g with
  | true=>
   rw [if_pos hld] at hr
   (repeat refine PW.seq ?_);refine PW.cond (t:=_) rfl (fun h=> ?_) (fun h=> ?_)
   rotate_left
   ·cases h
   have s3:=ziT { a with op:= -1 } ha' (k:Int)
   dsimp only at s3
   refine PW.f (fun K k=>by simp (maxSteps:=3000000) (disch:=omega) only [go_sem,↓reduceIte,reduceCtorEq,hX1,u0,s3];exact k) ?_
   refine PW.at [6,7] (?_:PW _ _ _ [(6,.ptr X.length 0 0),(7,.bool false)] (H.set i (asB { a with op:=(k:Int) })++[⟨123,0,zC fm0⟩,⟨35,1,pic g⟩]) _) rfl (hX4 _ { a with op:=(k:Int) })
   refine PW.f (fun K k=>by simp (maxSteps:=3000000) (disch:=omega) only [go_sem,↓reduceIte,reduceCtorEq,hY0,hYs,z1,z3,z5];exact k) ?_
   refine PW.ret (hret { a with op:=(k:Int) } fm0 false _ _ rfl rfl ?_ ?_ ?_ hz)
   ·rfl
   ·rw [←hr];rfl
   ·rw [←hr]
  | false=>
   rw [if_neg (by rw [hld];simp)] at hr
   (repeat refine PW.seq ?_);refine PW.cond (t:=_) rfl (fun h=> ?_) (fun h=> ?_)
   ·cases h
   refine PW.skip ?_
   refine PW.f (fun K k=>by simp (maxSteps:=3000000) (disch:=omega) only [go_sem,↓reduceIte,reduceCtorEq,z1,z3,z5];exact k) ?_
   refine PW.ret (hret { a with op:= -1 } fm0 false _ _ rfl rfl ?_ ?_ ?_ hz)
   ·rw [←hXe];rfl
   ·rw [←hr];rfl
   ·rw [←hr]
end Go.Proofs.YtjgmdlcjbgiekaaGreatDoor.Sc
namespace Go.Proofs.YtjgmdlcjbgiekaaGreatDoor.Pm
set_option linter.all false
open Go.RowKit
variable {P:Program} {H:za}
def Wkn (x y:PV):Prop:=∀ (C:Ctx) (u:Value),VRel C x u→VRel C y u
theorem Wkn.refl (x:PV):Wkn x x:=fun _ _ h=>h
theorem Wkn.slF (xs:List PV) (n:Nat) (f:Bool):Wkn (.slice xs n f) (.slice xs n false):=fun C u h=>by
 cases h with
 | slice hl hM hc hR hcap hmax hf=>exact .slice hl hM hc hR hcap hmax (fun e=>by cases e)
 | sliceN ad full=>exact .sliceN ad false
def Wkns (xs ys:List PV):Prop:=xs.length=ys.length∧∀ (j:Nat) (x y:PV),xs[j]? =some x→ys[j]? =some y→Wkn x y
theorem Wkns.nil:Wkns [] []:=⟨rfl,fun j x y h=>by simp at h⟩
theorem Wkns.cons {x y:PV} {xs ys:List PV} (h:Wkn x y) (hs:Wkns xs ys):Wkns (x::xs) (y::ys):=⟨by simp [hs.1],fun j a b ha hb=>by
 cases j with
 | zero=>
  simp only [List.getElem?_cons_zero,Option.some.injEq] at ha hb
  subst ha hb;exact h
 | succ j=>
  simp only [List.getElem?_cons_succ] at ha hb
  exact hs.2 j a b ha hb⟩
theorem Wkns.refl:∀ xs:List PV,Wkns xs xs
 | []=>.nil
 | x::r=>.cons (.refl x) (Wkns.refl r)
theorem Wkns.append {xs ys xs' ys':List PV} (h:Wkns xs ys) (h':Wkns xs' ys'):Wkns (xs++xs') (ys++ys'):=by
 refine ⟨by simp [h.1,h'.1],fun j a b ha hb=> ?_⟩
 by_cases hj:j<xs.length
 ·rw [List.getElem?_append_left hj] at ha
  rw [List.getElem?_append_left (by rw [←h.1];exact hj)] at hb
  exact h.2 j a b ha hb
 ·rw [List.getElem?_append_right (by omega)] at ha
  rw [List.getElem?_append_right (by rw [←h.1];omega),←h.1] at hb
  exact h'.2 _ a b ha hb
theorem Wkn.agg {xs ys:List PV} (h:Wkns xs ys) (hc:ys.all PV.cell=true):Wkn (.agg xs) (.agg ys):=fun C u hu=>by
 cases hu with
 | agg hl _ hR=>
  refine .agg (hl.trans h.1) (fun x hx=>List.all_eq_true.1 hc x hx) fun j y u hy hu=> ?_
  have hj:j<xs.length:=by have:=(List.getElem?_eq_some_iff.1 hy).1;have:=h.1;omega
  exact h.2 j _ y (List.getElem?_eq_getElem hj) hy C u (hR j _ u (List.getElem?_eq_getElem hj) hu)
theorem CallOk.wk {f:FuncId} {args args':List PV} {v:PV} {H':za} (h:CallOk P f args' H v H') (hz:Wkns args args'):CallOk P f args H v H':=
 ⟨h.1,fun C us w hw hu=>h.2 C us w hw ⟨hu.1.trans hz.1,fun j y u hy hu'=>by
  have hj:j<args.length:=by have:=(List.getElem?_eq_some_iff.1 hy).1;have:=hz.1;omega
  exact hz.2 j _ y (List.getElem?_eq_getElem hj) hy C u (hu.2 j _ u (List.getElem?_eq_getElem hj) hu')⟩⟩
end Go.Proofs.YtjgmdlcjbgiekaaGreatDoor.Pm
namespace Go.Proofs.YtjgmdlcjbgiekaaGreatDoor.Sc
set_option linter.all false
open Pm Ty Go.RowKit
def cdE (c:Cdd):List PV:=cdc c.p c.U c.us
def cdL (cs:List Cdd):List PV:=cs.flatMap cdE
theorem zmu (cs:List Cdd):(cdL cs).length=cs.length * 8:=zaF cdE 8 cs fun _ _=>rfl
theorem zu4 (cs:List Cdd) (k:Nat) (hk:k<cs.length):List.take 8 (List.drop (k * 8) (cdL cs))=cdE cs[k]:=zch cdE 8 cs k hk fun _ _=>rfl
theorem ziN (n:Nat) (cs:List Cdd):∀ x∈cdL cs,Scoped n x:=fun x hx=>by
 obtain ⟨u,_,hx⟩:=List.mem_flatMap.1 hx
 exact ziM _ _ _ _ x hx
structure CdOk (c:Cdd):Prop where
 n:c.us.length≤1000000
 u:∀ u∈c.us,zgS u.1∧u.2.length≤100000000
theorem ziY (l:List Bool) (f:Bool) (hn:l.length≤1000000) (H:za):CallOk Tryz.prog 37 [.slice (l.map PV.bool) l.length f] H (.bool (l.all id)) H:=by
 have fin:∀ (b:Bool),Fin H (.bool b) H (.bool b) H:=fun b=>Fin.now
 refine CallOk.body (F0:=[(0,.slice (l.map PV.bool) l.length f)]) Tryz.func37 rfl Tryz.ntmps37 Tryz.results37 rfl (by kernel_rfl) rfl ?_
 refine PW.e ?_
 refine PW.e ?_
 (repeat refine PW.seq ?_);refine PW.block (PW.loop ?_)
 suffices hl1:∀ j:Nat,j≤l.length→(l.drop j).all id=l.all id→PL Tryz.prog _ _ [(5,.slice (l.map PV.bool) l.length f),(6,.int .i64 (l.length:Int)),(7,.int .i64 (j:Int))] H _ by
  exact PL.at [5,6,7] (hl1 0 (by omega) rfl) rfl rfl
 intro j hj hf
 induction hd:l.length - j using Nat.strongRecOn generalizing j with
 | _ d ih=>
  refine PL.round ?_;refine PW.e ?_
  (repeat refine PW.seq ?_);refine PW.cond (t:=_) rfl (fun h=> ?_) (fun h=> ?_)
  ·have hjl:j<l.length:=by have:=of_decide_eq_true h;omega
   have ea:(l.map PV.bool)[j]? =some (.bool l[j]):=by rw [List.getElem?_map,List.getElem?_eq_getElem hjl];rfl
   have hnext:=ih (l.length - (j+1)) (by omega) (j+1) (by omega)
   rw [zcH _ l j hjl] at hf
   generalize l[j]=b at *
   refine PW.skip ?_;(repeat refine PW.seq ?_);refine PW.block ?_
   refine PW.f (fun K k=>by simp (maxSteps:=3000000) (disch:=omega) only [go_sem,↓reduceIte,reduceCtorEq,ea,List.length_map];exact k) ?_
   refine PW.e ?_
   cases b with
   | true=>
    (repeat refine PW.seq ?_);refine PW.cond (t:=_) rfl (fun h=> ?_) (fun h=> ?_)
    ·cases h
    refine PW.skip ?_
    refine PW.e ?_
    exact PL.at [5,6,7] (hnext hf rfl) rfl rfl
   | false=>
    (repeat refine PW.seq ?_);refine PW.cond (t:=_) rfl (fun h=> ?_) (fun h=> ?_)
    rotate_left
    ·cases h
    refine PW.e ?_
    refine PW.ret ⟨.bool false,by simp (maxSteps:=3000000) (disch:=omega) only [go_sem,↓reduceIte,reduceCtorEq,zd,zg,List.mapM_cons,List.mapM_nil,Option.pure_def,Option.bind_eq_bind,Option.bind_some,Array.toList],?_⟩
    rw [←hf]
    exact fin _
  ·have hjl:j=l.length:=by have:=of_decide_eq_false h;omega
   subst hjl
   rw [List.drop_length] at hf
   rw [←hf]
   refine PW.exit ?_
   refine PW.e ?_
   refine PW.ret ⟨.bool true,by simp (maxSteps:=3000000) (disch:=omega) only [go_sem,↓reduceIte,reduceCtorEq,zd,zg,List.mapM_cons,List.mapM_nil,Option.pure_def,Option.bind_eq_bind,Option.bind_some,Array.toList],?_⟩
   exact fin _
set_option maxHeartbeats 4000000 in
set_option maxRecDepth 10000 in
theorem zsx (s:Sq) (cs:List Cdd) (f:Bool) (hs:SqOk s) (hn:cs.length≤1000000) (H:za):CallOk Tryz.prog 35 [.agg (sqc s),.slice (cdL cs) cs.length f] H (.bool (zhq s cs)) H:=by
 have fin:∀ (b:Bool) (K:za),Fin H (.bool b) H (.bool b) (H++K):=fun b K=>Fin.base (.id (.bool _))
 have h1:=zbB s
 have h2:=zbO s hs
 have h3:=zdS s hs
 have ln:=zmu cs
 have pv:=fun p K=>zcw s p K hs
 unfold zhq
 refine CallOk.body (F0:=[(0,.agg (sqc s)),(1,.slice (cdL cs) cs.length f)]) Tryz.func35 rfl Tryz.ntmps35 Tryz.results35 rfl (by kernel_rfl) rfl ?_
 refine PW.f (fun K k=>by simp (maxSteps:=3000000) (disch:=omega) only [go_sem,↓reduceIte,reduceCtorEq,h1];exact k) ?_
 refine PW.e ?_
 (repeat refine PW.seq ?_);refine PW.block (PW.loop ?_)
 suffices hl1:∀ j:Nat,j≤cs.length→((cs.drop j).all fun c=>zM s c.p)=(cs.all fun c=>zM s c.p)→PL Tryz.prog _ _ [(1,.slice (cdL cs) cs.length f),(2,.ptr H.length 0 0),(7,.slice (cdL cs) cs.length f),(8,.int .i64 (cs.length:Int)),(9,.int .i64 (j:Int))] (H++[⟨29,0,sqc s⟩]) _ by
  exact PL.at [1,2,7,8,9] (hl1 0 (by omega) rfl) rfl rfl
 intro j hj hf
 induction hd:cs.length - j using Nat.strongRecOn generalizing j with
 | _ d ih=>
  refine PL.round ?_;refine PW.e ?_
  (repeat refine PW.seq ?_);refine PW.cond (t:=_) rfl (fun h=> ?_) (fun h=> ?_)
  ·have hjl:j<cs.length:=by have:=of_decide_eq_true h;omega
   have ea:=zu4 cs j hjl
   have hnext:=ih (cs.length - (j+1)) (by omega) (j+1) (by omega)
   rw [zcH _ cs j hjl] at hf
   generalize cs[j]=c at *
   have pc:=fun K=>pv c.p K
   have e1:(cdE c).length=8:=rfl
   have e2:(cdE c).all PV.cell=true:=rfl
   have e3:List.take 6 (cdE c)=pic c.p:=rfl
   have e4:List.take 8 (cdE c)=cdE c:=rfl
   refine PW.skip ?_;(repeat refine PW.seq ?_);refine PW.block ?_
   refine PW.f (fun K k=>by simp (maxSteps:=3000000) (disch:=omega) only [go_sem,↓reduceIte,reduceCtorEq,ea,ln,e1,e2,e4];exact k) ?_
   refine PW.f (fun K k=>by simp (maxSteps:=3000000) (disch:=omega) only [go_sem,↓reduceIte,reduceCtorEq,h2,h3,e1,e3];refine VCx.call (pc _) rfl ?_;simp (maxSteps:=3000000) (disch:=omega) only [go_sem,↓reduceIte,reduceCtorEq,h2,h3,e1,e3];exact k) ?_
   cases hb:zM s c.p with
   | true=>
    rw [hb] at hf
    (repeat refine PW.seq ?_);refine PW.cond (t:=_) rfl (fun h=> ?_) (fun h=> ?_)
    ·cases h
    refine PW.skip ?_
    refine PW.e ?_
    refine PL.view (Vs.trim (F1:=[(1,.slice (cdL cs) cs.length f),(2,.ptr H.length 0 0),(7,.slice (cdL cs) cs.length f),(8,.int .i64 (cs.length:Int)),(9,.int .i64 ((j+1:Nat):Int))]) (H1:=H++[⟨29,0,sqc s⟩]) (K:=[⟨39,0,cdE c⟩]) (fun hh=>ziz (fun b hb x hx=> ?_) hh) (by simp) (by simp) ?_) (hnext hf rfl)
    ·rw [List.mem_singleton] at hb
     subst hb
     exact zbn _ _ x hx
    ·exact ⟨.id (zr (ziN _ _)),.id (.ptr (by simp)),.id (zr (ziN _ _)),.id (.int _ _),.id (.int _ _),trivial⟩
   | false=>
    rw [hb] at hf
    (repeat refine PW.seq ?_);refine PW.cond (t:=_) rfl (fun h=> ?_) (fun h=> ?_)
    rotate_left
    ·cases h
    refine PW.e ?_
    refine PW.ret ⟨.bool false,by simp (maxSteps:=3000000) (disch:=omega) only [go_sem,↓reduceIte,reduceCtorEq,zd,zg,List.mapM_cons,List.mapM_nil,Option.pure_def,Option.bind_eq_bind,Option.bind_some,Array.toList],?_⟩
    rw [←hf,Bool.false_and,Bool.false_and]
    exact fin _ _
  ·have hjl:j=cs.length:=by have:=of_decide_eq_false h;omega
   subst hjl
   rw [List.drop_length] at hf
   rw [←hf]
   refine PW.exit ?_
   refine PW.e ?_
   refine PW.block ?_
   match cs with
   | []=>
    refine PW.e ?_
    (repeat refine PW.seq ?_);refine PW.cond (t:=_) rfl (fun h=> ?_) (fun h=> ?_)
    ·cases h
    refine PW.e ?_
    (repeat refine PW.seq ?_);refine PW.cond (t:=_) rfl (fun h=> ?_) (fun h=> ?_)
    ·cases h
    refine PW.skip ?_
    refine PW.e ?_
    refine PW.ret ⟨.bool false,by simp (maxSteps:=3000000) (disch:=omega) only [go_sem,↓reduceIte,reduceCtorEq,zd,zg,List.mapM_cons,List.mapM_nil,Option.pure_def,Option.bind_eq_bind,Option.bind_some,Array.toList],?_⟩
    exact fin _ _
   | [c]=>
    refine PW.e ?_
    (repeat refine PW.seq ?_);refine PW.cond (t:=_) rfl (fun h=> ?_) (fun h=> ?_)
    rotate_left
    ·cases h
    refine PW.f (fun K k=>by simp (maxSteps:=3000000) (disch:=omega) only [go_sem,↓reduceIte,reduceCtorEq,cdL,List.flatMap_cons,List.flatMap_nil,cdE,cdc,pic];exact k) ?_
    refine PW.ret ⟨.bool (c.p.st==3),by simp (maxSteps:=3000000) (disch:=omega) only [go_sem,↓reduceIte,reduceCtorEq,zd,zg,List.mapM_cons,List.mapM_nil,Option.pure_def,Option.bind_eq_bind,Option.bind_some,Array.toList],?_⟩
    exact fin _ _
   | [c,d]=>
    have le:=fun K=>zl5 c.p K
    have pa:=fun K=>zjL c.p d.p K
    simp only [pic] at le pa
    refine PW.e ?_
    (repeat refine PW.seq ?_);refine PW.cond (t:=_) rfl (fun h=> ?_) (fun h=> ?_)
    ·cases h
    refine PW.e ?_
    (repeat refine PW.seq ?_);refine PW.cond (t:=_) rfl (fun h=> ?_) (fun h=> ?_)
    rotate_left
    ·cases h
    generalize hb1:zcB c.p=b1 at le
    generalize hb2:zcd c.p d.p=b2 at pa
    cases b1 with
    | false=>
     (repeat refine PW.seq ?_);refine PW.drawg mix (by kernel_rfl) fun K hK=> ?_;simp (maxSteps:=3000000) (disch:=omega) only [go_sem,↓reduceIte,reduceCtorEq,cdL,List.flatMap_cons,List.flatMap_nil,cdE,cdc,pic]
     refine VCz.call (fun _=>le _) rfl ?_
     simp (maxSteps:=3000000) (disch:=omega) only [go_sem,↓reduceIte,reduceCtorEq]
     refine hK _ _ ?_;clear hK K
     refine PW.ret ⟨.bool false,by simp (maxSteps:=3000000) (disch:=omega) only [go_sem,↓reduceIte,reduceCtorEq,zd,zg,List.mapM_cons,List.mapM_nil,Option.pure_def,Option.bind_eq_bind,Option.bind_some,Array.toList],?_⟩
     show Pm.Fin H (.bool (zcB c.p&&zcd c.p d.p)) H _ _
     rw [hb1]
     exact fin _ _
    | true=>
     (repeat refine PW.seq ?_);refine PW.drawg mix (by kernel_rfl) fun K hK=> ?_;simp (maxSteps:=3000000) (disch:=omega) only [go_sem,↓reduceIte,reduceCtorEq,cdL,List.flatMap_cons,List.flatMap_nil,cdE,cdc,pic]
     refine VCz.call (fun _=>le _) rfl ?_
     simp (maxSteps:=3000000) (disch:=omega) only [go_sem,↓reduceIte,reduceCtorEq,cdL,List.flatMap_cons,List.flatMap_nil,cdE,cdc,pic]
     refine VCz.call (fun _=>pa _) rfl ?_
     simp (maxSteps:=3000000) (disch:=omega) only [go_sem,↓reduceIte,reduceCtorEq]
     refine hK _ _ ?_;clear hK K
     refine PW.ret ⟨.bool b2,by simp (maxSteps:=3000000) (disch:=omega) only [go_sem,↓reduceIte,reduceCtorEq,zd,zg,List.mapM_cons,List.mapM_nil,Option.pure_def,Option.bind_eq_bind,Option.bind_some,Array.toList],?_⟩
     show Pm.Fin H (.bool (zcB c.p&&zcd c.p d.p)) H _ _
     rw [hb1,hb2]
     exact fin _ _
   | c::d::e::r=>
    have d1:decide ((((c::d::e::r).length:Nat):Int)=1)=false:=decide_eq_false (by simp only [List.length_cons];omega)
    have d2:decide ((((c::d::e::r).length:Nat):Int)=2)=false:=decide_eq_false (by simp only [List.length_cons];omega)
    have d1':((((c::d::e::r).length:Nat):Int)==1)=false:=d1
    have d2':((((c::d::e::r).length:Nat):Int)==2)=false:=d2
    obtain ⟨cs',hcs⟩:∃ cs':List Cdd,cs'=c::d::e::r:=⟨_,rfl⟩
    rw [←hcs] at d1' d2' ⊢
    refine PW.f (fun K k=>by simp (maxSteps:=3000000) (disch:=omega) only [go_sem,↓reduceIte,reduceCtorEq,d1'];exact k) ?_
    (repeat refine PW.seq ?_);refine PW.cond (t:=_) rfl (fun h=> ?_) (fun h=> ?_)
    ·cases h
    refine PW.f (fun K k=>by simp (maxSteps:=3000000) (disch:=omega) only [go_sem,↓reduceIte,reduceCtorEq,d2'];exact k) ?_
    (repeat refine PW.seq ?_);refine PW.cond (t:=_) rfl (fun h=> ?_) (fun h=> ?_)
    ·cases h
    refine PW.skip ?_
    refine PW.e ?_
    refine PW.ret ⟨.bool false,by simp (maxSteps:=3000000) (disch:=omega) only [go_sem,↓reduceIte,reduceCtorEq,zd,zg,List.mapM_cons,List.mapM_nil,Option.pure_def,Option.bind_eq_bind,Option.bind_some,Array.toList],?_⟩
    subst hcs
    exact fin false _
def zfr:List PV:=[.int .i64 0,.int .i64 0,.slice [] 0 true,.slice [] 0 true,.slice [] 0 true]
theorem ztx (n:Nat) (H:za):FzC n H zfr (fmc f0):=⟨.id (.int _ _),.id (.int _ _),Fz.sliceC (xs:=[]) (ys:=[]) trivial (fun h=>by cases h),Fz.sliceC (xs:=[]) (ys:=[]) trivial (fun h=>by cases h),Fz.sliceC (xs:=[]) (ys:=[]) trivial (fun h=>by cases h),trivial⟩
theorem znG:Wkns zfr (fmc f0):=.cons (.refl _) (.cons (.refl _) (.cons (.slF _ _ _) (.cons (.slF _ _ _) (.cons (.slF _ _ _) .nil))))
def zdZ (r:Fm×Bool×Int):PV:=.tup [.agg (fmc r.1),.bool r.2.1,.int .i64 r.2.2]
theorem zfU (H K:za) (e:Int):Fin H (zdZ (f0,false,e)) H (.tup [.agg zfr,.bool false,.int .i64 e]) (H++K):=Fin.base (Fz.tupC ⟨Fz.aggC (ztx _ _),.id (.bool _),.id (.int _ _),trivial⟩)
theorem zsi (n:Nat) (f:Fm):∀ x∈fmc f,Scoped n x:=za5 _ _ _ _ _ _ _ _ _ _ _ _
theorem zex (H K:za) (r:Fm×Bool×Int):Fin H (zdZ r) H (zdZ r) (H++K):=Fin.base (.id (.tup (asc fun x hx=>by
 simp only [List.mem_cons,List.not_mem_nil,or_false] at hx
 rcases hx with rfl|rfl|rfl
 ·exact zB (zsi _ _)
 ·exact .bool _
 ·exact .int _ _)))
theorem zpT {A B:Nat} {f:Fm} (h:Gok A B f) (h2:B≤2):Hok (8 * A) (8 * B) f:=by
 have ha:=h.ra
 have hb:=h.rb
 exact ⟨by rw [h.w];omega,by rw [h.h];omega,by omega,by omega,by rw [h.ly,Nat.mul_comm];congr 1<;>omega,by rw [h.lu,Nat.mul_comm],by rw [h.lv,Nat.mul_comm]⟩
theorem zh4 {s:Sq} {p:Pi} {us:List (Int×List UInt8)} {pa fu fi:Fm} {b:Bool} (h:(zbl s p us pa fu fi b).2=0):∃ A B,DecOk s p pa fu fi b A B∧Gok A B (zbl s p us pa fu fi b).1.1∧(zbl s p us pa fu fi b).1.2.length≤4:=by
 unfold zbl at h ⊢
 by_cases hE:ziI s p pa fu fi b=0
 ·obtain ⟨A,B,hd⟩:=DecOk.of hE
  rw [if_pos hE]
  have hr:=hd.r
  have hB:=hd.rb
  refine ⟨A,B,hd,?_,?_⟩
  ·show Gok A B (zcb s p b us pa fu fi (s.w / 16).toNat _ (za4 s p).toNat).1
   rw [hr,Int.toNat_natCast,show (s.w / 16).toNat=A by rw [hd.w];omega]
   exact zeU hd us (zmr hd) B (Nat.le_refl _)
  ·show (zcb s p b us pa fu fi _ _ (za4 s p).toNat).2.length≤4
   rw [zdv,hr,Int.toNat_natCast];omega
 ·rw [if_neg hE] at h
  exact absurd h hE
set_option maxHeartbeats 16000000 in
set_option maxRecDepth 100000 in
theorem zp0 (s:Sq) (cs:List Cdd) (pa fu:Fm) (fl:Bool) (hs:SqOk s) (hc:∀ c∈cs,CdOk c) (hn:cs.length≤1000000) (H:za):CallOk Tryz.prog 14 [.agg (sqc s),.slice (cdL cs) cs.length fl,.agg (fmc pa),.agg (fmc fu)] H (zdZ (zhn s cs pa fu)) H:=by
 have h1:=zbB s
 have h2:=zbO s hs
 have h3:=zdS s hs
 have co:=fun K=>zsx s cs fl hs hn K
 have F5:∀ g:Fm,(fmc g).all PV.cell=true:=fun _=>rfl
 have F7:∀ g:Fm,(fmc g).length=5:=fun _=>rfl
 have F8:∀ g:Fm,List.take 5 (fmc g)=fmc g:=fun _=>rfl
 have Z7:zfr.length=5:=rfl
 have F9:∀ g:Fm,List.drop 5 (fmc g)=[]:=fun _=>rfl
 have e8:∀ c:Cdd,(cdE c).length=8:=fun _=>rfl
 have t8:∀ c:Cdd,List.take 8 (cdE c)=cdE c:=fun _=>rfl
 unfold zhn
 refine CallOk.body (F0:=[(0,.agg (sqc s)),(1,.slice (cdL cs) cs.length fl),(2,.agg (fmc pa)),(3,.agg (fmc fu))]) Tryz.func14 rfl Tryz.ntmps14 Tryz.results14 rfl (by kernel_rfl) rfl ?_
 refine PW.f (fun K k=>by simp (maxSteps:=3000000) (disch:=omega) only [go_sem,↓reduceIte,reduceCtorEq,h1,F5];exact k) ?_
 refine PW.f (fun K k=>by simp (maxSteps:=3000000) (disch:=omega) only [go_sem,↓reduceIte,reduceCtorEq,h2,h3];refine VCx.call (co _) rfl ?_;simp (maxSteps:=3000000) (disch:=omega) only [go_sem,↓reduceIte,reduceCtorEq,h2,h3];exact k) ?_
 cases hb:zhq s cs with
 | false=>
  rw [if_neg (by simp)]
  (repeat refine PW.seq ?_);refine PW.cond (t:=_) rfl (fun h=> ?_) (fun h=> ?_)
  rotate_left
  ·cases h
  refine PW.e ?_
  refine PW.ret ⟨.tup [.agg zfr,.bool false,.int .i64 1],by simp (maxSteps:=3000000) (disch:=omega) only [go_sem,↓reduceIte,reduceCtorEq,zd,zg,List.mapM_cons,List.mapM_nil,Option.pure_def,Option.bind_eq_bind,Option.bind_some,Array.toList,zfr],?_⟩
  exact zfU _ _ _
 | true=>
  rw [if_pos rfl]
  (repeat refine PW.seq ?_);refine PW.cond (t:=_) rfl (fun h=> ?_) (fun h=> ?_)
  ·cases h
  refine PW.skip ?_
  clear co
  match cs with
  | []=>simp [zhq] at hb
  | c::d::e::r=>simp [zhq] at hb
  | [c]=>
   have hcc:=hc c (by simp)
   have de:=fun K=>(zfi s c.p c.U c.us pa fu f0 false hs hcc.n hcc.u K).wk (args:=[.agg (sqc s),.agg (cdE c),.agg (fmc pa++(fmc fu++zfr)),.bool false]) (.cons (.refl _) (.cons (.refl _) (.cons (.agg ((Wkns.refl _).append ((Wkns.refl _).append znG)) rfl) (.cons (.refl _) .nil))))
   have hX:=fun h=>zh4 (s:=s) (p:=c.p) (us:=c.us) (pa:=pa) (fu:=fu) (fi:=f0) (b:=false) h
   have i0:List.take 8 (cdL [c])=cdE c:=rfl
   have i1:(cdL [c]).length=8:=rfl
   have c8:(cdE c).all PV.cell=true:=rfl
   dsimp only
   generalize zbl s c.p c.us pa fu f0 false=X at de hX ⊢
   refine PW.f (fun K k=>by simp (maxSteps:=3000000) (disch:=omega) only [go_sem,↓reduceIte,reduceCtorEq,fmc];exact k) ?_
   refine PW.at [1,4,8,11] (?_:PW _ _ _ [(1,.slice (cdL [c]) 1 fl),(4,.ptr H.length 0 0),(8,.ptr (H.length+3) 0 0),(11,.ptr (H.length+4) 0 0)] (H++[⟨29,0,sqc s⟩,⟨33,0,fmc pa⟩,⟨33,0,fmc fu⟩,⟨33,0,zfr⟩,⟨87,0,fmc pa++(fmc fu++zfr)⟩]) _) rfl rfl
   have rl:(fmc pa++(fmc fu++zfr)).length=15:=rfl
   have rt:List.take 15 (fmc pa++(fmc fu++zfr))=fmc pa++(fmc fu++zfr):=rfl
   by_cases h0:X.2=0
   ·obtain ⟨A,B,hd,hg,hr⟩:=hX h0
    rw [if_pos h0]
    unfold zeD at de
    rw [if_pos h0] at de
    have al:=fun K=>ziY X.1.2 false (by omega) K
    (repeat refine PW.seq ?_);refine PW.drawg mix (by kernel_rfl) fun K hK=> ?_;simp (maxSteps:=3000000) (disch:=omega) only [go_sem,↓reduceIte,reduceCtorEq,h2,h3,i0,i1,rl,rt,e8,t8]
    refine VCz.call (fun _=>de _) rfl ?_
    simp (maxSteps:=3000000) (disch:=omega) only [go_sem,↓reduceIte,reduceCtorEq,F5,F7,F8]
    refine hK _ _ ?_;clear hK K
    refine PW.e ?_
    (repeat refine PW.seq ?_);refine PW.cond (t:=_) rfl (fun h=> ?_) (fun h=> ?_)
    ·cases h
    refine PW.skip ?_
    refine PW.e ?_
    (repeat refine PW.seq ?_);refine PW.cond (t:=_) rfl (fun h=> ?_) (fun h=> ?_)
    rotate_left
    ·cases h
    (repeat refine PW.seq ?_);refine PW.drawi [H.length+3] [(8,[0])] [] [46] mix (by kernel_rfl) (by simp<;>omega) fun K hK=> ?_
    simp (maxSteps:=3000000) (disch:=omega) only [go_sem,↓reduceIte,reduceCtorEq,F5,F7,F8]
    refine VCj.read (fun _ _=>al _) rfl ?_
    simp (maxSteps:=3000000) (disch:=omega) only [go_sem,↓reduceIte,reduceCtorEq,F5,F7,F8,zfr]
    refine hK _ _ ?_;clear hK K
    refine PW.ret ⟨zdZ (X.1.1,X.1.2.all id,0),by simp (maxSteps:=3000000) (disch:=omega) only [go_sem,↓reduceIte,reduceCtorEq,zd,zg,List.mapM_cons,List.mapM_nil,Option.pure_def,Option.bind_eq_bind,Option.bind_some,Array.toList,F7,F8,zdZ],?_⟩
    exact zex _ _ _
   ·rw [if_neg h0]
    unfold zeD at de
    rw [if_neg h0] at de
    have z7:[PV.int .i64 0,PV.int .i64 0,PV.slice [] 0 true,PV.slice [] 0 true,PV.slice [] 0 true].length=5:=rfl
    (repeat refine PW.seq ?_);refine PW.drawg mix (by kernel_rfl) fun K hK=> ?_;simp (maxSteps:=3000000) (disch:=omega) only [go_sem,↓reduceIte,reduceCtorEq,h2,h3,i0,i1,rl,rt,e8,t8]
    refine VCz.call (fun _=>de _) rfl ?_
    simp (maxSteps:=3000000) (disch:=omega) only [go_sem,↓reduceIte,reduceCtorEq]
    refine hK _ _ ?_;clear hK K
    have d0:(X.2 !=0)=true:=by simpa using h0
    refine PW.f (fun K k=>by simp (maxSteps:=3000000) (disch:=omega) only [go_sem,↓reduceIte,reduceCtorEq,d0];exact k) ?_
    (repeat refine PW.seq ?_);refine PW.cond (t:=_) rfl (fun h=> ?_) (fun h=> ?_)
    rotate_left
    ·cases h
    refine PW.f (fun K k=>by simp (maxSteps:=3000000) (disch:=omega) only [go_sem,↓reduceIte,reduceCtorEq,zfr];exact k) ?_
    refine PW.ret ⟨.tup [.agg zfr,.bool false,.int .i64 X.2],by simp (maxSteps:=3000000) (disch:=omega) only [go_sem,↓reduceIte,reduceCtorEq,zd,zg,List.mapM_cons,List.mapM_nil,Option.pure_def,Option.bind_eq_bind,Option.bind_some,Array.toList,zfr],?_⟩
    exact zfU _ _ _
  | [c,d]=>
   have hcc:=hc c (by simp)
   have hcd:=hc d (by simp)
   have de:=fun K=>(zfi s c.p c.U c.us pa fu f0 false hs hcc.n hcc.u K).wk (args:=[.agg (sqc s),.agg (cdE c),.agg (fmc pa++(fmc fu++zfr)),.bool false]) (.cons (.refl _) (.cons (.refl _) (.cons (.agg ((Wkns.refl _).append ((Wkns.refl _).append znG)) rfl) (.cons (.refl _) .nil))))
   have hX:=fun h=>zh4 (s:=s) (p:=c.p) (us:=c.us) (pa:=pa) (fu:=fu) (fi:=f0) (b:=false) h
   have i0:List.take 8 (cdL [c,d])=cdE c:=rfl
   have i1:(cdL [c,d]).length=16:=rfl
   have i2:List.take 8 (List.drop 8 (cdL [c,d]))=cdE d:=rfl
   have i5:(cdL [c,d])[1]? =some (.int .i64 c.p.st):=rfl
   have c8:∀ c,(cdE c).all PV.cell=true:=fun _=>rfl
   dsimp only
   generalize zbl s c.p c.us pa fu f0 false=X at de hX ⊢
   refine PW.f (fun K k=>by simp (maxSteps:=3000000) (disch:=omega) only [go_sem,↓reduceIte,reduceCtorEq,fmc];exact k) ?_
   refine PW.at [1,4,8,11] (?_:PW _ _ _ [(1,.slice (cdL [c,d]) 2 fl),(4,.ptr H.length 0 0),(8,.ptr (H.length+3) 0 0),(11,.ptr (H.length+4) 0 0)] (H++[⟨29,0,sqc s⟩,⟨33,0,fmc pa⟩,⟨33,0,fmc fu⟩,⟨33,0,zfr⟩,⟨87,0,fmc pa++(fmc fu++zfr)⟩]) _) rfl rfl
   have rl:∀ x,(fmc pa++(fmc fu++fmc x)).length=15:=fun _=>rfl
   have rt:∀ x,List.take 15 (fmc pa++(fmc fu++fmc x))=fmc pa++(fmc fu++fmc x):=fun _=>rfl
   have rlz:(fmc pa++(fmc fu++zfr)).length=15:=rfl
   have rtz:List.take 15 (fmc pa++(fmc fu++zfr))=fmc pa++(fmc fu++zfr):=rfl
   by_cases h0:X.2=0
   rotate_left
   ·rw [if_neg h0]
    unfold zeD at de
    rw [if_neg h0] at de
    have z7:[PV.int .i64 0,PV.int .i64 0,PV.slice [] 0 true,PV.slice [] 0 true,PV.slice [] 0 true].length=5:=rfl
    (repeat refine PW.seq ?_);refine PW.drawg mix (by kernel_rfl) fun K hK=> ?_;simp (maxSteps:=3000000) (disch:=omega) only [go_sem,↓reduceIte,reduceCtorEq,h2,h3,i0,i1,rlz,rtz,e8,t8]
    refine VCz.call (fun _=>de _) rfl ?_
    simp (maxSteps:=3000000) (disch:=omega) only [go_sem,↓reduceIte,reduceCtorEq]
    refine hK _ _ ?_;clear hK K
    have d0:(X.2 !=0)=true:=by simpa using h0
    refine PW.f (fun K k=>by simp (maxSteps:=3000000) (disch:=omega) only [go_sem,↓reduceIte,reduceCtorEq,d0];exact k) ?_
    (repeat refine PW.seq ?_);refine PW.cond (t:=_) rfl (fun h=> ?_) (fun h=> ?_)
    rotate_left
    ·cases h
    refine PW.f (fun K k=>by simp (maxSteps:=3000000) (disch:=omega) only [go_sem,↓reduceIte,reduceCtorEq,zfr];exact k) ?_
    refine PW.ret ⟨.tup [.agg zfr,.bool false,.int .i64 X.2],by simp (maxSteps:=3000000) (disch:=omega) only [go_sem,↓reduceIte,reduceCtorEq,zd,zg,List.mapM_cons,List.mapM_nil,Option.pure_def,Option.bind_eq_bind,Option.bind_some,Array.toList,zfr],?_⟩
    exact zfU _ _ _
   obtain ⟨A,B,hd,hg,hr⟩:=hX h0
   rw [if_pos h0]
   unfold zeD at de
   rw [if_pos h0] at de
   have al:=fun K=>ziY X.1.2 false (by omega) K
   (repeat refine PW.seq ?_);refine PW.drawg mix (by kernel_rfl) fun K hK=> ?_;simp (maxSteps:=3000000) (disch:=omega) only [go_sem,↓reduceIte,reduceCtorEq,h2,h3,i0,i1,rlz,rtz,e8,t8]
   refine VCz.call (fun _=>de _) rfl ?_
   simp (maxSteps:=3000000) (disch:=omega) only [go_sem,↓reduceIte,reduceCtorEq,F5,F7,F8]
   refine hK _ _ ?_;clear hK K
   refine PW.e ?_
   (repeat refine PW.seq ?_);refine PW.cond (t:=_) rfl (fun h=> ?_) (fun h=> ?_)
   ·cases h
   refine PW.skip ?_
   refine PW.e ?_
   (repeat refine PW.seq ?_);refine PW.cond (t:=_) rfl (fun h=> ?_) (fun h=> ?_)
   ·cases h
   refine PW.skip ?_
   clear de hX
   have de:=fun K=>zfi s d.p d.U d.us pa fu X.1.1 true hs hcd.n hcd.u K
   have hY:=fun h=>zh4 (s:=s) (p:=d.p) (us:=d.us) (pa:=pa) (fu:=fu) (fi:=X.1.1) (b:=true) h
   generalize zbl s d.p d.us pa fu X.1.1 true=Y at de hY ⊢
   obtain ⟨⟨g,rows⟩,e⟩:=X
   simp only at h0 hg hr al de ⊢
   subst h0
   refine PW.f (fun K k=>by simp (maxSteps:=3000000) (disch:=omega) only [go_sem,↓reduceIte,reduceCtorEq,fmc,zfr];exact k) ?_
   refine PW.at [1,4,8,11,12,13] (?_:PW _ _ _ [(1,.slice (cdL [c,d]) 2 fl),(4,.ptr H.length 0 0),(8,.ptr (H.length+3) 0 0),(11,.ptr (H.length+4) 0 0),(12,.ptr (H.length+5) 0 0),(13,.slice (rows.map PV.bool) rows.length false)] (H++[⟨29,0,sqc s⟩,⟨33,0,fmc pa⟩,⟨33,0,fmc fu⟩,⟨33,0,zfr⟩,⟨87,0,fmc pa++(fmc fu++fmc g)⟩,⟨33,0,fmc g⟩]) _) rfl rfl
   by_cases k0:Y.2=0
   rotate_left
   ·rw [if_neg k0]
    unfold zeD at de
    rw [if_neg k0] at de
    (repeat refine PW.seq ?_);refine PW.drawg mix (by kernel_rfl) fun K hK=> ?_;simp (maxSteps:=3000000) (disch:=omega) only [go_sem,↓reduceIte,reduceCtorEq,h2,h3,i1,i2,rl,rt,e8,t8]
    refine VCz.call (fun _=>de _) rfl ?_
    simp (maxSteps:=3000000) (disch:=omega) only [go_sem,↓reduceIte,reduceCtorEq]
    refine hK _ _ ?_;clear hK K
    have d0:(Y.2 !=0)=true:=by simpa using k0
    refine PW.f (fun K k=>by simp (maxSteps:=3000000) (disch:=omega) only [go_sem,↓reduceIte,reduceCtorEq,d0];exact k) ?_
    (repeat refine PW.seq ?_);refine PW.cond (t:=_) rfl (fun h=> ?_) (fun h=> ?_)
    rotate_left
    ·cases h
    refine PW.f (fun K k=>by simp (maxSteps:=3000000) (disch:=omega) only [go_sem,↓reduceIte,reduceCtorEq,zfr];exact k) ?_
    refine PW.ret ⟨.tup [.agg zfr,.bool false,.int .i64 Y.2],by simp (maxSteps:=3000000) (disch:=omega) only [go_sem,↓reduceIte,reduceCtorEq,zd,zg,List.mapM_cons,List.mapM_nil,Option.pure_def,Option.bind_eq_bind,Option.bind_some,Array.toList,zfr],?_⟩
    exact zfU _ _ _
   obtain ⟨A',B',hd',hg',hr'⟩:=hY k0
   rw [if_pos k0]
   unfold zeD at de
   rw [if_pos k0] at de
   obtain ⟨⟨g2,more⟩,e⟩:=Y
   simp only at k0 hg' hr' de ⊢
   subst k0
   have al2:=fun K=>ziY more false (by omega) K
   (repeat refine PW.seq ?_);refine PW.drawg mix (by kernel_rfl) fun K hK=> ?_;simp (maxSteps:=3000000) (disch:=omega) only [go_sem,↓reduceIte,reduceCtorEq,h2,h3,i1,i2,rl,rt,e8,t8]
   refine VCz.call (fun _=>de _) rfl ?_
   simp (maxSteps:=3000000) (disch:=omega) only [go_sem,↓reduceIte,reduceCtorEq,F5,F7,F8]
   refine hK _ _ ?_;clear hK K
   clear de hY
   refine PW.e ?_
   (repeat refine PW.seq ?_);refine PW.cond (t:=_) rfl (fun h=> ?_) (fun h=> ?_)
   ·cases h
   refine PW.skip ?_
   unfold zhq at hb
   simp only [List.all_cons,List.all_nil,Bool.and_true,Bool.and_eq_true] at hb
   obtain ⟨⟨v1,v2⟩,hl,hpr⟩:=hb
   unfold zcd at hpr
   simp only [Bool.and_eq_true,Bool.not_eq_true',beq_eq_false_iff_ne,beq_iff_eq] at hpr
   have eA:A'=A:=by have:=hd.w;have:=hd'.w;omega
   have e32:=(hd.h4 hpr.1).1
   have e32':=(hd'.h4 hpr.2.1).1
   have eB:B'=B:=by omega
   subst eA eB
   have h64:=(za9 v1).2.1
   have k1:=zpT hg (by omega)
   have k2:=zpT hg' (by omega)
   have w0:∀ a b:Fm,Gok A' B' a→zmM a b=znK (8 * A') (8 * B') a b:=fun a b ha=>by
    unfold zmM
    rw [show (a.w / 2).toNat=8 * A' by rw [ha.w];omega,show (a.h / 2).toNat=8 * B' by rw [ha.h];omega]
   have we1:=fun K=>zf9 (8 * A') (8 * B') g g2 k1 k2 K
   have we2:=fun K=>zf9 (8 * A') (8 * B') g2 g k2 k1 K
   rw [←w0 g g2 hg] at we1
   rw [←w0 g2 g hg'] at we2
   generalize zmM g g2=W1 at we1 ⊢
   generalize zmM g2 g=W2 at we2 ⊢
   refine PW.view (Vs.place 33) (PW.view (Vs.place 33) ?_)
   refine PW.at [1,8,12,13,15,16] (?_:PW _ _ _ [(1,.slice (cdL [c,d]) 2 fl),(8,.ptr (H.length+3) 0 0),(12,.ptr (H.length+5) 0 0),(13,.slice (rows.map PV.bool) rows.length false),(15,.ptr (H.length+6) 0 0),(16,.slice (more.map PV.bool) more.length false)] (H++[⟨29,0,sqc s⟩,⟨33,0,fmc pa⟩,⟨33,0,fmc fu⟩,⟨33,0,zfr⟩,⟨87,0,fmc pa++(fmc fu++fmc g)⟩,⟨33,0,fmc g⟩,⟨33,0,fmc g2⟩,⟨33,0,[]⟩,⟨33,0,[]⟩]) _) rfl (by simp)
   (repeat refine PW.seq ?_);refine PW.drawi [H.length+7,H.length+8] [(17,[0]),(18,[1])] [(17,0),(18,1)] [] mix (by kernel_rfl) (by simp<;>omega) fun K hK=> ?_
   simp (maxSteps:=3000000) (disch:=omega) only [go_sem,↓reduceIte,reduceCtorEq,F5,F7,F8]
   refine hK _ _ ?_;clear hK K
   refine PW.f (fun K k=>by simp (maxSteps:=3000000) (disch:=omega) only [go_sem,↓reduceIte,reduceCtorEq,i1,i5];exact k) ?_
   (repeat refine PW.seq ?_);refine PW.cond (t:=_) rfl (fun h=> ?_) (fun h=> ?_)
   ·have hst:c.p.st=2:=by simpa using h
    rw [if_pos hst]
    (repeat refine PW.seq ?_);refine PW.drawi [H.length+7,H.length+8] [(17,[0]),(18,[1])] [] [] mix (by kernel_rfl) (by simp<;>omega) fun K hK=> ?_
    simp (maxSteps:=3000000) (disch:=omega) only [go_sem,↓reduceIte,reduceCtorEq,F5,F7,F8,F9,List.append_nil]
    refine hK _ _ ?_;clear hK K
    refine PW.f (fun K k=>by simp (maxSteps:=3000000) (disch:=omega) only [go_sem,↓reduceIte,reduceCtorEq,F5,F7,F8,F9,List.append_nil];refine VCx.call (we2 _) rfl ?_;simp (maxSteps:=3000000) (disch:=omega) only [go_sem,↓reduceIte,reduceCtorEq,F5,F7,F8,F9,List.append_nil];exact k) ?_
    refine PW.e ?_
    (repeat refine PW.seq ?_);refine PW.cond (t:=_) rfl (fun h=> ?_) (fun h=> ?_)
    ·cases h
    refine PW.skip ?_
    cases hall:rows.all id with
    | false=>
     rw [hall] at al
     (repeat refine PW.seq ?_);refine PW.drawi [H.length+3] [(8,[0])] [] [85,88] mix (by kernel_rfl) (by simp<;>omega) fun K hK=> ?_
     simp (maxSteps:=3000000) (disch:=omega) only [go_sem,↓reduceIte,reduceCtorEq,F5,F7,F8,F9,List.append_nil]
     refine VCj.read (fun _ _=>al _) rfl ?_
     simp (maxSteps:=3000000) (disch:=omega) only [go_sem,↓reduceIte,reduceCtorEq,F5,F7,F8,F9,List.append_nil,zfr]
     refine hK _ _ ?_;clear hK K
     refine PW.ret ⟨zdZ (W2,false,0),by simp (maxSteps:=3000000) (disch:=omega) only [go_sem,↓reduceIte,reduceCtorEq,zd,zg,List.mapM_cons,List.mapM_nil,Option.pure_def,Option.bind_eq_bind,Option.bind_some,Array.toList,F7,F8,zdZ],?_⟩
     exact zex _ _ _
    | true=>
     rw [hall] at al
     (repeat refine PW.seq ?_);refine PW.drawi [H.length+3] [(8,[0])] [] [85,88] mix (by kernel_rfl) (by simp<;>omega) fun K hK=> ?_
     simp (maxSteps:=3000000) (disch:=omega) only [go_sem,↓reduceIte,reduceCtorEq,F5,F7,F8,F9,List.append_nil]
     refine VCj.read (fun _ _=>al _) rfl ?_
     simp (maxSteps:=3000000) (disch:=omega) only [go_sem,↓reduceIte,reduceCtorEq,F5,F7,F8,F9,List.append_nil]
     refine VCj.read (fun _ _=>al2 _) rfl ?_
     simp (maxSteps:=3000000) (disch:=omega) only [go_sem,↓reduceIte,reduceCtorEq,F5,F7,F8,F9,List.append_nil,zfr]
     refine hK _ _ ?_;clear hK K
     refine PW.ret ⟨zdZ (W2,more.all id,0),by simp (maxSteps:=3000000) (disch:=omega) only [go_sem,↓reduceIte,reduceCtorEq,zd,zg,List.mapM_cons,List.mapM_nil,Option.pure_def,Option.bind_eq_bind,Option.bind_some,Array.toList,F7,F8,zdZ],?_⟩
     exact zex _ _ _
   ·have hst:¬ c.p.st=2:=by simpa using h
    rw [if_neg hst]
    refine PW.skip ?_
    refine PW.f (fun K k=>by simp (maxSteps:=3000000) (disch:=omega) only [go_sem,↓reduceIte,reduceCtorEq,F5,F7,F8,F9,List.append_nil];refine VCx.call (we1 _) rfl ?_;simp (maxSteps:=3000000) (disch:=omega) only [go_sem,↓reduceIte,reduceCtorEq,F5,F7,F8,F9,List.append_nil];exact k) ?_
    refine PW.e ?_
    (repeat refine PW.seq ?_);refine PW.cond (t:=_) rfl (fun h=> ?_) (fun h=> ?_)
    ·cases h
    refine PW.skip ?_
    cases hall:rows.all id with
    | false=>
     rw [hall] at al
     (repeat refine PW.seq ?_);refine PW.drawi [H.length+3] [(8,[0])] [] [85,88] mix (by kernel_rfl) (by simp<;>omega) fun K hK=> ?_
     simp (maxSteps:=3000000) (disch:=omega) only [go_sem,↓reduceIte,reduceCtorEq,F5,F7,F8,F9,List.append_nil]
     refine VCj.read (fun _ _=>al _) rfl ?_
     simp (maxSteps:=3000000) (disch:=omega) only [go_sem,↓reduceIte,reduceCtorEq,F5,F7,F8,F9,List.append_nil,zfr]
     refine hK _ _ ?_;clear hK K
     refine PW.ret ⟨zdZ (W1,false,0),by simp (maxSteps:=3000000) (disch:=omega) only [go_sem,↓reduceIte,reduceCtorEq,zd,zg,List.mapM_cons,List.mapM_nil,Option.pure_def,Option.bind_eq_bind,Option.bind_some,Array.toList,F7,F8,zdZ],?_⟩
     exact zex _ _ _
    | true=>
     rw [hall] at al
     (repeat refine PW.seq ?_);refine PW.drawi [H.length+3] [(8,[0])] [] [85,88] mix (by kernel_rfl) (by simp<;>omega) fun K hK=> ?_
     simp (maxSteps:=3000000) (disch:=omega) only [go_sem,↓reduceIte,reduceCtorEq,F5,F7,F8,F9,List.append_nil]
     refine VCj.read (fun _ _=>al _) rfl ?_
     simp (maxSteps:=3000000) (disch:=omega) only [go_sem,↓reduceIte,reduceCtorEq,F5,F7,F8,F9,List.append_nil]
     refine VCj.read (fun _ _=>al2 _) rfl ?_
     simp (maxSteps:=3000000) (disch:=omega) only [go_sem,↓reduceIte,reduceCtorEq,F5,F7,F8,F9,List.append_nil,zfr]
     refine hK _ _ ?_;clear hK K
     refine PW.ret ⟨zdZ (W1,more.all id,0),by simp (maxSteps:=3000000) (disch:=omega) only [go_sem,↓reduceIte,reduceCtorEq,zd,zg,List.mapM_cons,List.mapM_nil,Option.pure_def,Option.bind_eq_bind,Option.bind_some,Array.toList,F7,F8,zdZ],?_⟩
     exact zex _ _ _
def shN (n:Nat) (o:Int):Int:=if o<0 then o else o+n
def shF (n:Nat) (f:FmY):FmY:={ f with f:=f.f+n,l:=f.l+n }
def zfD (n m:Nat) (e:Ent):Ent:=({ e.1 with f:=e.1.f+n,l:=e.1.l+n,pa:=shN m e.1.pa,fu:=shN m e.1.fu,sh:=e.1.sh+m },e.2)
def dsE (n:Nat) (E ys:List Ent) (wt:Bool) (new:Int):List Ent:=if wt then (E++ys.map (zfD n E.length)).modify (new.toNat+E.length) (zU 0) else E++ys.map (zfD n E.length)
structure DSh (n:Nat) (E:List Ent) (x y:Dp):Prop where
 en:x.en=dsE n E y.en y.wt y.new
 old:x.old=shN E.length y.old
 new:x.new=shN E.length y.new
 wt:x.wt=y.wt
 lk:x.lk=y.lk
 sh:x.sh=y.sh+E.length
 ro: -1≤y.old
 rn: -1≤y.new∧y.new<y.en.length
 rw:y.wt=true→0≤y.new
theorem zrQ (l:List Ent) (j:Nat) (u v:Int):(l.modify j (zU u)).modify j (zU v)=l.modify j (zU v):=by
 induction l generalizing j with
 | nil=>simp
 | cons a r ih=>cases j with
  | zero=>rfl
  | succ j=>simp only [List.modify_succ_cons,ih]
theorem zjR (l r:List Ent) (j:Nat) (v:Int) (h:j<l.length):(l++r).modify j (zU v)=l.modify j (zU v)++r:=by
 induction l generalizing j with
 | nil=>exact absurd h (Nat.not_lt_zero _)
 | cons a t ih=>cases j with
  | zero=>rfl
  | succ j=>
   simp only [List.cons_append,List.modify_succ_cons]
   rw [ih j (by simpa using h)]
theorem zcz (l r:List Ent) (j:Nat) (v:Int):(l++r).modify (j+l.length) (zU v)=l++r.modify j (zU v):=by
 induction l with
 | nil=>simp
 | cons a t ih=>
  rw [List.cons_append,List.length_cons,←Nat.add_assoc,List.modify_succ_cons,ih];rfl
theorem zrX (m n:Nat) (l:List Ent) (j:Nat) (v:Int):(l.map (zfD n m)).modify j (zU (v+m))=(l.modify j (zU v)).map (zfD n m):=by
 induction l generalizing j with
 | nil=>simp
 | cons a r ih=>cases j with
  | zero=>rfl
  | succ j=>simp only [List.map_cons,List.modify_succ_cons,ih]
theorem zgY (d:Dp):d.flush.en.length=d.en.length:=by
 unfold Dp.flush Dp.show
 cases d.wt<;>simp
theorem DSh.flush {n:Nat} {E:List Ent} {x y:Dp} (h:DSh n E x y):DSh n E x.flush y.flush∧x.flush.en=E++y.flush.en.map (zfD n E.length):=by
 have hw2:=(zbg y).2.2.1
 have key:x.flush.en=E++y.flush.en.map (zfD n E.length)∧x.flush.sh=y.flush.sh+E.length:=by
  have e:=h.en
  unfold dsE at e
  unfold Dp.flush
  rw [h.wt]
  cases hw:y.wt with
  | false=>
   rw [hw,if_neg (by simp)] at e
   rw [if_neg (by simp),if_neg (by simp)]
   exact ⟨e,h.sh⟩
  | true=>
   rw [hw,if_pos rfl] at e
   rw [if_pos rfl,if_pos rfl]
   have hn:=h.rw hw
   refine ⟨?_,?_⟩
   ·show (x.en.modify x.new.toNat (zU x.sh))=E++(y.en.modify y.new.toNat (zU y.sh)).map (zfD n E.length)
    have e2:x.new.toNat=y.new.toNat+E.length:=by rw [h.new];unfold shN;rw [if_neg (by omega)];omega
    rw [e,e2,zrQ,zcz,h.sh,zrX]
   ·show x.sh+1=y.sh+1+E.length
    rw [h.sh];omega
 obtain ⟨x1,x2,x3,x4⟩:=zbg x
 obtain ⟨y1,y2,y3,y4⟩:=zbg y
 refine ⟨⟨?_,?_,?_,?_,?_,key.2,?_,?_,fun e=> ?_⟩,key.1⟩
 ·rw [key.1];unfold dsE;rw [y3];rfl
 ·rw [x1,y1];exact h.old
 ·rw [x2,y2];exact h.new
 ·rw [x3,y3]
 ·rw [x4,y4];exact h.lk
 ·rw [y1];exact h.ro
 ·rw [y2,zgY];exact h.rn
 ·rw [y3] at e;cases e
theorem DSh.res {n:Nat} {E:List Ent} {x y:Dp} (h:DSh n E x y) (b:Bool):DSh n E (x.res b) (y.res b):=by
 unfold Dp.res
 cases b with
 | false=>exact h
 | true=>
  obtain ⟨g,ge⟩:=h.flush
  have y3:=(zbg y).2.2.1
  refine ⟨?_,rfl,rfl,g.wt,rfl,g.sh,Int.le_refl _,⟨Int.le_refl _,by show (-1:Int)<_;omega⟩,fun e=> ?_⟩
  ·show x.flush.en=dsE n E y.flush.en y.flush.wt (-1)
   rw [ge,y3];rfl
  ·have e':y.flush.wt=true:=e
   rw [y3] at e';cases e'
theorem DSh.lnk {n:Nat} {E:List Ent} {x y:Dp} (h:DSh n E x y) (k:Int):DSh n E (x.lnk k) (y.lnk k):=by
 unfold Dp.lnk
 split
 ·exact ⟨h.en,h.old,h.new,h.wt,rfl,h.sh,h.ro,h.rn,h.rw⟩
 ·exact h
theorem zgW (d:Dp) (e:Ent) (h:d.wt=true→d.new.toNat<d.en.length):Dp.flush { d with en:=d.en++[e] }={ d.flush with en:=d.flush.en++[e] }:=by
 obtain ⟨en,old,new,wt,lk,sh⟩:=d
 cases wt with
 | false=>rfl
 | true=>
  have:=zjR en [e] new.toNat sh (h rfl)
  unfold Dp.flush Dp.show
  rw [if_pos rfl,if_pos rfl]
  simp only
  rw [this]
theorem DSh.frame {n:Nat} {E:List Ent} {x y:Dp} (h:DSh n E x y) (f:FmY):DSh n E (x.frame (shF n f)) (y.frame f):=by
 have ho:=h.ro
 have hn:=h.rn
 have hlx:x.en.length=E.length+y.en.length:=by
  rw [h.en];unfold dsE
  split<;>simp
 have o1:x.old= -1↔y.old= -1:=by rw [h.old];unfold shN;split<;>omega
 have n1:x.new= -1↔y.new= -1:=by rw [h.new];unfold shN;split<;>omega
 have hsh:∀ (p q v:Int),zU (v+E.length) (fmE (shF n f) (shN E.length p) (shN E.length q))=zfD n E.length (zU v (fmE f p q)):=fun _ _ _=>rfl
 unfold Dp.frame
 show DSh n E (if f.hd.ty=3 then _ else if f.hd.ty=2∧x.new= -1 then x else _) _
 by_cases h3:f.hd.ty=3
 ·rw [if_pos h3,if_pos h3]
  by_cases hc:y.lk≠0∨y.old= -1∨y.new= -1
  ·rw [if_pos hc,if_pos (by rw [h.lk,o1,n1];exact hc)];exact h
  rw [if_neg hc,if_neg (by rw [h.lk,o1,n1];exact hc)]
  refine ⟨?_,h.old,h.new,h.wt,h.lk,?_,h.ro,?_,h.rw⟩
  ·show (x.en++[fmE (shF n f) x.old x.new]).modify ((x.en.length:Nat):Int).toNat (zU x.sh)=dsE n E ((y.en++[fmE f y.old y.new]).modify ((y.en.length:Nat):Int).toNat (zU y.sh)) y.wt y.new
   have m1:=zcz x.en [fmE (shF n f) x.old x.new] 0 x.sh
   have m2:=zcz y.en [fmE f y.old y.new] 0 y.sh
   rw [Nat.zero_add] at m1 m2
   have e1:[fmE (shF n f) x.old x.new].modify 0 (zU x.sh)=[zU x.sh (fmE (shF n f) x.old x.new)]:=rfl
   have e2:[fmE f y.old y.new].modify 0 (zU y.sh)=[zU y.sh (fmE f y.old y.new)]:=rfl
   rw [Int.toNat_natCast,Int.toNat_natCast,m1,m2,e1,e2,h.sh,h.old,h.new,hsh,h.en]
   unfold dsE
   rw [List.map_append]
   cases hw:y.wt with
   | false=>rw [if_neg (by simp),if_neg (by simp),List.append_assoc];rfl
   | true=>
    have:=h.rw hw
    have m3:=zjR (E++y.en.map (zfD n E.length)) ([zU y.sh (fmE f y.old y.new)].map (zfD n E.length)) (y.new.toNat+E.length) 0 (by rw [List.length_append,List.length_map];omega)
    rw [if_pos rfl,if_pos rfl,←List.append_assoc E,m3]
    rfl
  ·show x.sh+1=y.sh+1+E.length
   rw [h.sh];omega
  ·show -1≤y.new∧y.new<(((y.en++[fmE f y.old y.new]).modify ((y.en.length:Nat):Int).toNat (zU y.sh)).length:Int)
   simp only [List.length_modify,List.length_append,List.length_singleton];omega
 rw [if_neg h3,if_neg h3]
 by_cases hc:f.hd.ty=2∧y.new= -1
 ·rw [if_pos hc,if_pos (by rw [n1];exact hc)];exact h
 rw [if_neg hc,if_neg (by rw [n1];exact hc)]
 dsimp only
 rw [zgW x _ (fun e=>by
   have e':=h.wt
   rw [e] at e'
   have:=h.rw e'.symm
   rw [h.new];unfold shN;rw [if_neg (by omega)];omega),zgW y _ (fun e=>by have:=h.rw e;omega)]
 obtain ⟨g,ge⟩:=h.flush
 obtain ⟨x1,x2,x3,x4⟩:=zbg x
 obtain ⟨y1,y2,y3,y4⟩:=zbg y
 refine ⟨?_,?_,?_,rfl,?_,g.sh,?_,?_,fun _=> ?_⟩
 ·show x.flush.en++[fmE (shF n f) x.new (-1)]=dsE n E (y.flush.en++[fmE f y.new (-1)]) true ((y.en.length:Nat):Int)
  unfold dsE
  rw [if_pos rfl,Int.toNat_natCast,zcz,List.map_append,ge,List.append_assoc]
  have m2:=zcz (y.flush.en.map (zfD n E.length)) ([fmE f y.new (-1)].map (zfD n E.length)) 0 0
  rw [Nat.zero_add,List.length_map,zgY] at m2
  rw [m2,h.new]
  rfl
 ·show x.flush.new=shN E.length y.flush.new
  exact g.new
 ·show ((x.en.length:Nat):Int)=shN E.length ((y.en.length:Nat):Int)
  unfold shN
  rw [if_neg (by omega),hlx];omega
 ·show max 0 (x.flush.lk - 1)=max 0 (y.flush.lk - 1)
  rw [g.lk]
 ·show -1≤y.flush.new
  rw [y2];exact h.rn.1
 ·show -1≤((y.en.length:Nat):Int)∧((y.en.length:Nat):Int)<((y.flush.en++[fmE f y.new (-1)]).length:Int)
  rw [List.length_append,zgY];simp only [List.length_singleton];omega
 ·show (0:Int)≤((y.en.length:Nat):Int)
  omega
def DSr (n:Nat) (E:List Ent) (rs:Bool) (x y:Dp):Prop:=DSh n E (x.res rs) (y.res rs)
theorem zrm (d:Dp) (b:Bool):(d.res b).res true=d.res true:=by
 cases b with
 | false=>rfl
 | true=>
  have h:=(zbg d).2.2.1
  unfold Dp.res
  rw [if_pos rfl,if_pos rfl]
  have e:Dp.flush { d.flush with old:= -1,new:= -1,lk:=0 }={ d.flush with old:= -1,new:= -1,lk:=0 }:=by
   unfold Dp.flush
   show (if d.flush.wt=true then _ else _)=_
   rw [h,if_neg (by simp)]
  rw [e]
theorem DSr.step {n:Nat} {E:List Ent} {x y:Dp} (f:FmY) (h:DSr n E f.rs x y):DSr n E false (x.step (shF n f)) (y.step f):=(DSh.lnk h f.lk).frame f
theorem zmV (d:Dp) (b:Bool):(d.res b).flush.en=d.flush.en:=by
 cases b with
 | false=>rfl
 | true=>
  have h:=(zbg d).2.2.1
  unfold Dp.res
  rw [if_pos rfl]
  unfold Dp.flush
  show (if d.flush.wt=true then _ else _:Dp).en=_
  rw [h,if_neg (by simp)]
structure Hd2 (s:Sq) (x y:It):Prop where
 k1:x.k=1
 s1:x.s=s
 v:zc7 s=true
 k2:y.k=2
 c:y.gc=true
def shV (cs:List Cdd) (e:Ent) (a b:Sho):Sho:=
 ⟨(zhn e.2.1 cs a.fr b.fr).1,e.1.f,e.1.l,e.1.ty,((zhn e.2.1 cs a.fr b.fr).2.1&&(decide (e.1.ty=1)||a.ok))&&(!decide (e.1.ty=3)||b.ok),if e.2.2.rp then 3 else 2,e.2.2.tf⟩
theorem zv1 (L:List It) (e:Ent) (l:List Sho):shE L e l=shV (zc5 L e) e (zeg l e.1.pa) (zeg l e.1.fu):=rfl
theorem zj7 (L:List It):(zfj L).length=(zbj L).length:=zcy _ _ _
def sqAt (es:List Ent) (n:Int) (s:Sq):Prop:=0≤n→∃ e,es[n.toNat]? =some e∧e.2.1=s
theorem sqAt.neg {es:List Ent} {s:Sq}:sqAt es (-1) s:=fun h=>by omega
theorem sqAt.snoc {es:List Ent} {n:Int} {s:Sq} (h:sqAt es n s) (x:Ent):sqAt (es++[x]) n s:=fun h0=>by
 obtain ⟨e,h1,h2⟩:=h h0
 exact ⟨e,by rw [List.getElem?_append_left (List.getElem?_eq_some_iff.1 h1).1];exact h1,h2⟩
theorem sqAt.mod {es:List Ent} {n:Int} {s:Sq} (h:sqAt es n s) (k:Nat) (v:Int):sqAt (es.modify k (zU v)) n s:=fun h0=>by
 obtain ⟨e,h1,h2⟩:=h h0
 rw [List.getElem?_modify,h1]
 show ∃ x,some (if k=n.toNat then zU v e else e)=some x∧_
 by_cases hk:k=n.toNat
 ·rw [if_pos hk];exact ⟨zU v e,rfl,h2⟩
 ·rw [if_neg hk];exact ⟨e,rfl,h2⟩
def aftE (es:List Ent) (n:Int):Prop:=∀ (j:Nat) (e:Ent),es[j]? =some e→e.1.l<n
theorem aftE.mono {es:List Ent} {n m:Int} (h:aftE es n) (hm:n≤m):aftE es m:=fun j e he=>by have:=h j e he;omega
theorem ziR {es:List Ent} {k:Nat} {v:Int} {j:Nat} {x:Ent} (h:(es.modify k (zU v))[j]? =some x):∃ y,es[j]? =some y∧(x=y∨x=zU v y):=by
 rw [List.getElem?_modify] at h
 cases hy:es[j]? with
 | none=>rw [hy] at h;cases h
 | some y=>
  rw [hy] at h
  refine ⟨y,rfl,?_⟩
  by_cases hk:k=j
  ·subst hk
   simp at h
   exact .inr h.symm
  ·simp [hk] at h
   exact .inl h.symm
theorem aftE.mod {es:List Ent} {n:Int} (h:aftE es n) (k:Nat) (v:Int):aftE (es.modify k (zU v)) n:=fun j e he=>by
 obtain ⟨y,hy,h1|h1⟩:=ziR he
 ·rw [h1];exact h j y hy
 ·rw [h1];exact h j y hy
structure XInv (d:Dp) (s:Sq) (n:Int):Prop where
 old:sqAt d.en d.old s
 new:sqAt d.en d.new s
 q:∀ (j:Nat) (e:Ent),d.en[j]? =some e→sqAt d.en e.1.pa e.2.1∧sqAt d.en e.1.fu e.2.1
 aft:aftE d.en n
 ord:∀ (j k:Nat) (x y:Ent),d.en[j]? =some x→d.en[k]? =some y→j<k→x.1.l<y.1.f
theorem XInv.mono {d:Dp} {s:Sq} {n m:Int} (h:XInv d s n) (hm:n≤m):XInv d s m:=⟨h.old,h.new,h.q,h.aft.mono hm,h.ord⟩
theorem zl1 {en:List Ent} {k:Nat} {v:Int} (h:∀ (j k:Nat) (x y:Ent),en[j]? =some x→en[k]? =some y→j<k→x.1.l<y.1.f):∀ (i j:Nat) (x y:Ent),(en.modify k (zU v))[i]? =some x→(en.modify k (zU v))[j]? =some y→i<j→x.1.l<y.1.f:=fun i j x y hx hy hij=>by
 obtain ⟨a,ha,h1⟩:=ziR hx
 obtain ⟨b,hb,h2⟩:=ziR hy
 have:=h i j a b ha hb hij
 rcases h1 with rfl|rfl<;>rcases h2 with rfl|rfl<;>exact this
theorem ztg {en:List Ent} {k:Nat} {v:Int} (h:∀ (j:Nat) (e:Ent),en[j]? =some e→sqAt en e.1.pa e.2.1∧sqAt en e.1.fu e.2.1):∀ (j:Nat) (e:Ent),(en.modify k (zU v))[j]? =some e→sqAt (en.modify k (zU v)) e.1.pa e.2.1∧sqAt (en.modify k (zU v)) e.1.fu e.2.1:=fun j e he=>by
 obtain ⟨a,ha,h1⟩:=ziR he
 obtain ⟨g1,g2⟩:=h j a ha
 rcases h1 with rfl|rfl
 ·exact ⟨g1.mod _ _,g2.mod _ _⟩
 ·exact ⟨sqAt.mod g1 _ _,sqAt.mod g2 _ _⟩
theorem XInv.flush {d:Dp} {s:Sq} {n:Int} (h:XInv d s n):XInv d.flush s n:=by
 unfold Dp.flush
 split
 ·exact ⟨h.old.mod _ _,h.new.mod _ _,ztg h.q,h.aft.mod _ _,zl1 h.ord⟩
 ·exact h
theorem XInv.res {d:Dp} {s:Sq} {n:Int} (h:XInv d s n) (b:Bool):XInv (d.res b) s n:=by
 unfold Dp.res
 split
 ·have g:=h.flush
  exact ⟨sqAt.neg,sqAt.neg,g.q,g.aft,g.ord⟩
 ·exact h
theorem XInv.any {d:Dp} {s s':Sq} {n:Int} (h:XInv (d.res true) s n):XInv (d.res true) s' n:=⟨sqAt.neg,sqAt.neg,h.q,h.aft,h.ord⟩
theorem XInv.lnk {d:Dp} {s:Sq} {n:Int} (h:XInv d s n) (k:Int):XInv (d.lnk k) s n:=by
 unfold Dp.lnk
 split
 ·exact ⟨h.old,h.new,h.q,h.aft,h.ord⟩
 ·exact h
theorem zjj {en:List Ent} {e:Ent} (h:∀ (j k:Nat) (x y:Ent),en[j]? =some x→en[k]? =some y→j<k→x.1.l<y.1.f) (ha:aftE en e.1.f):∀ (i j:Nat) (x y:Ent),(en++[e])[i]? =some x→(en++[e])[j]? =some y→i<j→x.1.l<y.1.f:=fun i j x y hx hy hij=>by
 rcases zao hx with ⟨b1,b2⟩|⟨b1,b2⟩
 ·rcases zao hy with ⟨c1,c2⟩|⟨c1,c2⟩
  ·exact h i j x y b2 c2 hij
  ·rw [c2];exact ha i x b2
 ·rcases zao hy with ⟨c1,c2⟩|⟨c1,c2⟩<;>omega
theorem zol {en:List Ent} {x:Ent} (h:∀ (j:Nat) (e:Ent),en[j]? =some e→sqAt en e.1.pa e.2.1∧sqAt en e.1.fu e.2.1) (h1:sqAt en x.1.pa x.2.1) (h2:sqAt en x.1.fu x.2.1):∀ (j:Nat) (e:Ent),(en++[x])[j]? =some e→sqAt (en++[x]) e.1.pa e.2.1∧sqAt (en++[x]) e.1.fu e.2.1:=fun j e he=>by
 rcases zao he with ⟨_,b⟩|⟨_,b⟩
 ·exact ⟨(h j e b).1.snoc _,(h j e b).2.snoc _⟩
 ·rw [b];exact ⟨h1.snoc _,h2.snoc _⟩
theorem zjk {en:List Ent} {x:Ent} {n m:Int} (h:aftE en n) (hn:n≤m) (hx:x.1.l<m):aftE (en++[x]) m:=fun j e he=>by
 rcases zao he with ⟨_,b⟩|⟨_,b⟩
 ·have:=h j e b;omega
 ·rw [b];exact hx
theorem XInv.frame {d:Dp} {f:FmY} {n m:Int} (h:XInv d f.sq n) (ha:aftE d.en f.f) (hn:n≤m) (hf:f.l<m):XInv (d.frame f) f.sq m:=by
 unfold Dp.frame
 split
 ·split
  ·exact h.mono hn
  ·refine ⟨(h.old.snoc _).mod _ _,(h.new.snoc _).mod _ _,ztg (zol h.q h.old h.new),(zjk h.aft hn hf).mod _ _,zl1 (zjj h.ord ha)⟩
 ·split
  ·exact h.mono hn
  ·dsimp only
   have g:XInv { d with en:=d.en++[fmE f d.new (-1)] } f.sq m:=⟨h.old.snoc _,h.new.snoc _,zol h.q h.new sqAt.neg,zjk h.aft hn hf,zjj h.ord ha⟩
   have gf:=g.flush
   have hl:sqAt (d.en++[fmE f d.new (-1)]) (d.en.length:Int) f.sq:=fun _=>⟨fmE f d.new (-1),by rw [Int.toNat_natCast];simp,rfl⟩
   refine ⟨gf.new,?_,gf.q,gf.aft,gf.ord⟩
   show sqAt (Dp.flush _).en (d.en.length:Int) f.sq
   unfold Dp.flush
   split
   ·exact hl.mod _ _
   ·exact hl
structure YInv (a:As) (d:Dp) (i:Nat):Prop where
 x:XInv (d.res a.rs) a.sq i
 op:a.op= -1∨(0≤a.op∧a.op<i∧aftE d.en a.op)
theorem zmA {d:Dp} {n:Int} (b:Bool):aftE (d.res b).en n↔aftE d.en n:=by
 have e:∀ d:Dp,aftE d.flush.en n↔aftE d.en n:=fun d=>by
  unfold Dp.flush
  split
  ·refine ⟨fun h j e he=> ?_,fun h=>h.mod _ _⟩
   by_cases hj:d.new.toNat=j
   ·have:=h j (zU d.sh e) (by show (d.en.modify _ _)[j]? =_;rw [List.getElem?_modify,he];show some (if _ then _ else _)=_;rw [if_pos hj])
    exact this
   ·exact h j e (by show (d.en.modify _ _)[j]? =_;rw [List.getElem?_modify,he];show some (if _ then _ else _)=_;rw [if_neg hj])
  ·exact Iff.rfl
 unfold Dp.res
 split
 ·exact e d
 ·exact Iff.rfl
theorem zmK {L:List It} {a:As} {d:Dp} {i:Nat} (h:YInv a d i) (x:It):YInv (a.item L (i:Int) x).1 (d.stepO (a.item L (i:Int) x).2) (i+1):=by
 obtain ⟨hx,ho⟩:=h
 have hi:(i:Int)≤((i+1:Nat):Int):=by omega
 have hd:aftE d.en i:=(zmA a.rs).1 hx.aft
 have no:∀ b:As,b.sq=a.sq→b.rs=a.rs→b.op= -1→YInv b d (i+1):=fun b e1 e2 e3=>⟨by rw [e1,e2];exact hx.mono hi,.inl e3⟩
 have rs:∀ b:As,b.rs=true→b.op= -1→YInv b d (i+1):=fun b e1 e2=>⟨by
  rw [e1]
  have:=hx.res true
  rw [zrm] at this
  exact (this.any).mono hi,.inl e2⟩
 have fr:∀ (b:As) (f:FmY),b.sq=a.sq→b.rs=false→b.op= -1→f.sq=a.sq→f.rs=a.rs→aftE d.en f.f→f.l=(i:Int)→YInv b (d.step f) (i+1):=fun b f e1 e2 e3 e4 e5 e6 e7=>⟨by
  rw [e1,e2,←e4]
  show XInv (Dp.frame _ f) f.sq _
  refine XInv.frame (n:=(i:Int)) ?_ ?_ hi (by omega)
  ·rw [e4,e5];exact hx.lnk _
  ·have:aftE (d.res f.rs).en f.f:=(zmA f.rs).2 e6
   unfold Dp.lnk
   split
   ·exact this
   ·exact this,.inl e3⟩
 unfold As.item
 split
 ·unfold As.pic
  split
  ·exact no _ rfl rfl rfl
  ·split
   ·exact fr _ _ rfl rfl rfl rfl rfl hd rfl
   ·split
    ·rename_i hc
     rcases ho with h1|⟨h1,h2,h3⟩
     ·exact absurd h1 hc.1
     ·exact fr _ _ rfl rfl rfl rfl rfl h3 rfl
    ·split
     ·exact ⟨hx.mono hi,.inr ⟨by show (0:Int)≤(i:Int);omega,by show (i:Int)<_;omega,hd⟩⟩
     ·exact no _ rfl rfl rfl
 ·split
  ·unfold As.seq
   split
   ·exact no _ rfl rfl rfl
   ·exact rs _ rfl rfl
  ·split
   ·unfold As.grp
    split
    ·exact rs _ rfl rfl
    ·split<;>exact no _ rfl rfl rfl
   ·split
    ·exact rs _ rfl rfl
    ·exact no _ rfl rfl rfl
theorem zi3 {L:List It}:∀ (r:List It) (i:Nat) (a:As) (d:Dp),YInv a d i→YInv (asN L a (i:Int) r) (dpN L a d (i:Int) r) (i+r.length)
 | [],i,a,d,h=>h
 | x::r,i,a,d,h=>by
  have e:(i:Int)+1=((i+1:Nat):Int):=by omega
  rw [asN,dpN,e,List.length_cons,show i+(r.length+1)=i+1+r.length by omega]
  exact zi3 r (i+1) _ _ (zmK h x)
theorem zn9 (L:List It):(∀ (j:Nat) (e:Ent),(zbj L)[j]? =some e→sqAt (zbj L) e.1.pa e.2.1∧sqAt (zbj L) e.1.fu e.2.1)∧(∀ (j k:Nat) (x y:Ent),(zbj L)[j]? =some x→(zbj L)[k]? =some y→j<k→x.1.l<y.1.f):=by
 have h:=(zi3 (L:=L) L 0 (as0 sq0) dp0 ⟨⟨sqAt.neg,sqAt.neg,fun j e he=>by simp [dp0,as0,Dp.res] at he,fun j e he=>by simp [dp0,as0,Dp.res] at he,fun j k x y he=>by simp [dp0,as0,Dp.res] at he⟩,.inl rfl⟩).x.flush
 have e:(Dp.res (dpN L (as0 sq0) dp0 ((0:Nat):Int) L) (asN L (as0 sq0) ((0:Nat):Int) L).rs).flush.en=zbj L:=zmV (dpN L (as0 sq0) dp0 0 L) (asN L (as0 sq0) 0 L).rs
 have h3:=h.q
 have h5:=h.ord
 rw [e] at h3 h5
 exact ⟨h3,h5⟩
def okR {α:Type}:Rr α→Bool
 | .ok _ _=>true
 | .er _ _=>false
def zvZ (s:Sq) (p:Pi) (b:Bool):List (Int×List UInt8)→Nat→Bool
 | [],_=>true
 | u::r,k=>decide (u.1=1+(k:Int))&&(okR (slT s p b u.1 u.2)&&zvZ s p b r (k+1))
def zv0 (s:Sq) (c:Cdd) (b:Bool):Bool:=decide ((c.us.length:Int)=za4 s c.p)&&zvZ s c.p b c.us 0
structure FrS (s:Sq) (f:Fm):Prop where
 m:fmd f=true
 w:f.w=s.w
 h:f.h=s.h
theorem FrS.or {s:Sq} {f:Fm} (h:FrS s f):mOr f s.w s.h=true:=by
 unfold mOr
 rw [h.m,h.w,h.h]
 simp
def RefS (s:Sq) (f:Fm) (n:Prop):Prop:=(f.w=0∨FrS s f)∧(n→FrS s f)
theorem RefS.or {s:Sq} {f:Fm} {n:Prop} (h:RefS s f n):mOr f s.w s.h=true:=by
 rcases h.1 with h1|h1
 ·unfold mOr;simp [h1]
 ·exact h1.or
theorem FrS.pos {s:Sq} {f:Fm} (h:FrS s f):f.w≠0:=by
 have:=h.m
 unfold fmd fsz at this
 simp only [Bool.and_eq_true,decide_eq_true_eq] at this
 omega
def SlOk (L:List It):Prop:=∀ (j:Nat) (e:Ent),(zbj L)[j]? =some e→∀ (i:Nat) (x:It),L[i]? =some x→e.1.f≤i→(i:Int)≤e.1.l→zv0 e.2.1 (zd4 x) (decide ((i:Int)≠e.1.f))=true
end Go.Proofs.YtjgmdlcjbgiekaaGreatDoor.Sc
