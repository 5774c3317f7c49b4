/-
  Parts of the proof, put together in one text. No condition.
-/
import Derived.Test.YtjgmdlcjbgiekaaGreatDoorQ41
namespace Go.Proofs.YtjgmdlcjbgiekaaGreatDoor.Sc
set_option linter.all false
open Pm Ty Go.RowKit
theorem zme (h:Pi) (H:za):CallOk Tryz.prog 68 [.agg (pic h)] H (.bool (zca h)) H:=by
 obtain ⟨ty,st,od,tf,rp,al⟩:=h
 refine CallOk.body (F0:=[(0,.agg (pic ⟨ty,st,od,tf,rp,al⟩))]) Tryz.func68 rfl Tryz.ntmps68 Tryz.results68 rfl (by kernel_rfl) rfl ?_
 (repeat' (first|refine PW.seq ?_|refine PW.skip ?_|refine PW.block ?_|((first|refine PW.rg rfl fun K hK=> ?_|refine PW.draw mix (by kernel_rfl) fun K hK=> ?_);simp (maxSteps:=3000000) (disch:=omega) only [go_sem,↓reduceIte,reduceCtorEq,pic])|((first|refine zj ?_ ?_|refine zn ?_ ?_|refine And.intro ?_ ?_)<;>intro h<;>(try simp only [nqb] at h)<;>simp (maxSteps:=3000000) (disch:=omega) only [go_sem,↓reduceIte,reduceCtorEq,pic,h])|(refine hK _ _ ?_;clear hK K)|(refine PW.cond (t:=_) rfl (fun h=> ?_) (fun h=> ?_)<;>(try (cases h;done))<;>(try simp only [nqb] at h))))
 all_goals ((refine PW.ret ⟨_,rfl,?_⟩;first|refine .inl ⟨?_,rfl⟩|refine Fin.base (.id' ?_ (.bool _))|refine Fin.base (.id' ?_ (.int _ _)));(simp_all [zca,slot,Nat.beq]<;>first|rfl|omega|(rw [Bool.eq_iff_iff];simp;done)|(rw [Bool.eq_iff_iff];simp;omega)))
set_option maxHeartbeats 4000000 in
theorem zjK (a b:Pi) (H:za):CallOk Tryz.prog 69 [.agg (pic a),.agg (pic b)] H (.bool (zaW a b)) H:=by
 obtain ⟨ty,st,od,tf,rp,al⟩:=a
 obtain ⟨ty',st',od',tf',rp',al'⟩:=b
 refine CallOk.body (F0:=[(0,.agg (pic ⟨ty,st,od,tf,rp,al⟩)),(1,.agg (pic ⟨ty',st',od',tf',rp',al'⟩))]) Tryz.func69 rfl Tryz.ntmps69 Tryz.results69 rfl (by kernel_rfl) rfl ?_
 (repeat' (first|refine PW.seq ?_|refine PW.skip ?_|refine PW.block ?_|((first|refine PW.rg rfl fun K hK=> ?_|refine PW.draw mix (by kernel_rfl) fun K hK=> ?_);simp (maxSteps:=3000000) (disch:=omega) only [go_sem,↓reduceIte,reduceCtorEq,pic])|((first|refine zj ?_ ?_|refine zn ?_ ?_|refine And.intro ?_ ?_)<;>intro h<;>(try simp only [nqb] at h)<;>simp (maxSteps:=3000000) (disch:=omega) only [go_sem,↓reduceIte,reduceCtorEq,pic,h])|(refine hK _ _ ?_;clear hK K)|(refine PW.cond (t:=_) rfl (fun h=> ?_) (fun h=> ?_)<;>(try (cases h;done))<;>(try simp only [nqb] at h))))
 all_goals ((refine PW.ret ⟨_,rfl,?_⟩;first|refine .inl ⟨?_,rfl⟩|refine Fin.base (.id' ?_ (.bool _))|refine Fin.base (.id' ?_ (.int _ _)));simp_all [zaW,slot,Nat.beq])
 all_goals grind
def za6 (a:As):List PV:=sqc a.sq++[.bool a.kn,.int .i64 a.op,.bool a.rs,.int .i64 a.lk]
def asB (a:As):Blk:=⟨201,0,za6 a⟩
theorem zbZ (a:As) (h:SqL a.sq):(za6 a).length=139:=by
 simp only [za6,List.length_append,zab _ h,List.length_cons,List.length_nil]
theorem ziY (a:As) (h:SqL a.sq) (n:Nat):(za6 a)[135+n]? =[.bool a.kn,.int .i64 a.op,.bool a.rs,.int .i64 a.lk][n]? :=by
 unfold za6
 rw [List.getElem?_append_right (by rw [zab _ h];omega),zab _ h,Nat.add_sub_cancel_left]
theorem zqF (a:As) (h:SqL a.sq):(za6 a)[135]? =some (.bool a.kn):=ziY a h 0
theorem zvc (a:As) (h:SqL a.sq):(za6 a)[136]? =some (.int .i64 a.op):=ziY a h 1
theorem zvb (a:As) (h:SqL a.sq):(za6 a)[137]? =some (.bool a.rs):=ziY a h 2
theorem zvd (a:As) (h:SqL a.sq):(za6 a)[138]? =some (.int .i64 a.lk):=ziY a h 3
theorem zlu (a:As) (h:SqL a.sq):List.take 135 (za6 a)=sqc a.sq:=List.take_left' (zab _ h)
theorem zf5 (a:As) (h:SqL a.sq) (n:Nat) (v:PV):(za6 a).set (135+n) v=sqc a.sq++[.bool a.kn,.int .i64 a.op,.bool a.rs,.int .i64 a.lk].set n v:=by
 unfold za6
 rw [List.set_append_right _ _ (by rw [zab _ h];omega),zab _ h,Nat.add_sub_cancel_left]
theorem zsF (a:As) (h:SqL a.sq) (v:Bool):(za6 a).set 135 (.bool v)=za6 { a with kn:=v }:=zf5 a h 0 _
theorem ziX (a:As) (h:SqL a.sq) (v:Int):(za6 a).set 136 (.int .i64 v)=za6 { a with op:=v }:=zf5 a h 1 _
theorem zmI (a:As) (h:SqL a.sq) (v:Bool):(za6 a).set 137 (.bool v)=za6 { a with rs:=v }:=zf5 a h 2 _
theorem zf4 (a:As) (h:SqL a.sq) (v:Int):(za6 a).set 138 (.int .i64 v)=za6 { a with lk:=v }:=zf5 a h 3 _
theorem zqE (n:Nat) (a:As):∀ x∈za6 a,Scoped n x:=fun x hx=>by
 simp only [za6,List.mem_append,List.mem_cons,List.not_mem_nil,or_false] at hx
 rcases hx with hx|rfl|rfl|rfl|rfl
 ·exact zbn _ _ x hx
 ·exact .bool _
 ·exact .int _ _
 ·exact .bool _
 ·exact .int _ _
def fm0:FmY:=⟨0,0,sq0,zt8,false,0⟩
theorem zqu (a:As) (i:Nat) (H:za) (h:H[i]? =some (asB a)) (ha:SqL a.sq):CallOk Tryz.prog 180 [.ptr i 0 0] H (.tup []) (H.set i (asB a.clr)):=by
 have hil:i<H.length:=(List.getElem?_eq_some_iff.1 h).1
 unfold asB at h
 have hs:∀ B,(H.set i B)[i]? =some B:=fun B=>by simp [hil]
 have l1:=zbZ a ha
 have l2:=zbZ { a with rs:=true } ha
 have s1:=zmI a ha true
 have s2:=zf4 { a with rs:=true } ha (-1)
 refine CallOk.body (F0:=[(0,.ptr i 0 0)]) Tryz.func180 rfl Tryz.ntmps180 Tryz.results180 rfl (by kernel_rfl) rfl ?_
 refine PW.f (fun K k=>by simp (maxSteps:=3000000) (disch:=omega) only [go_sem,↓reduceIte,reduceCtorEq,h,hs,l1,l2,s1,s2,List.set_set];exact k) ?_
 refine ⟨_,rfl,.inl ⟨rfl,?_⟩⟩
 rfl
theorem zml (n:Nat) (f:FmY):∀ x∈zC f,Scoped n x:=fun x hx=>by
 simp only [zC,pic,List.mem_append,List.mem_cons,List.not_mem_nil,or_false] at hx
 rcases hx with rfl|rfl|hx|(rfl|rfl|rfl|rfl|rfl|rfl)|rfl|rfl
 ·exact .int _ _
 ·exact .int _ _
 ·exact zbn _ _ x hx
 ·exact .int _ _
 ·exact .int _ _
 ·exact .int _ _
 ·exact .bool _
 ·exact .bool _
 ·exact .bool _
 ·exact .bool _
 ·exact .int _ _
theorem ziZ (H K:za) (i:Nat) (a:As) (v:PV) (hi:i<H.length) (hv:Scoped H.length v):Fin H v (H.set i (asB a)) v (H.set i (asB a)++K):=
 Fin.cut rfl (by simp) (fun h=>HSc.set h (zqE _ _)) (.id (by rw [List.length_set];exact hv))
set_option maxHeartbeats 2000000 in
set_option maxRecDepth 100000 in
theorem zsx (a:As) (f l:Int) (h:Pi) (i:Nat) (H:za) (hi:H[i]? =some (asB a)) (ha:SqL a.sq):CallOk Tryz.prog 254 [.ptr i 0 0,.int .i64 f,.int .i64 l,.agg (pic h)] H (.agg (zC ⟨f,l,a.sq,h,a.rs,a.lk⟩)) (H.set i (asB { a with rs:=false,lk:= -1 })):=by
 have hil:i<H.length:=(List.getElem?_eq_some_iff.1 hi).1
 unfold asB at hi
 have hi1:∀ K,(H++K)[i]? =H[i]? :=fun K=>List.getElem?_append_left hil
 have hs:∀ K B,((H++K).set i B)[i]? =some B:=fun K B=>by rw [List.getElem?_set_self (by simp;omega)]
 have l1:=zbZ a ha
 have l2:=zbZ { a with rs:=false } ha
 have s1:=zmI a ha false
 have s2:=zf4 { a with rs:=false } ha (-1)
 have t1:=zlu a ha
 have t2:=zvb a ha
 have t3:=zvd a ha
 have p1:(pic h).length=6:=rfl
 have p2:(pic h).all PV.cell=true:=rfl
 have p3:List.take 6 (pic h)=pic h:=rfl
 have q1:=zab a.sq ha
 have q2:=zb5 a.sq
 have q3:∀ X,List.take 135 (sqc a.sq++X)=sqc a.sq:=fun X=>List.take_left' q1
 have q4:∀ X n,List.drop (135+n) (sqc a.sq++X)=List.drop n X:=fun X n=>by rw [←List.drop_drop,List.drop_left' q1]
 have q5:∀ X n,List.take (135+n) (sqc a.sq++X)=sqc a.sq++List.take n X:=fun X n=>by rw [List.take_append,q1,List.take_of_length_le (by omega),Nat.add_sub_cancel_left]
 have q6:∀ X,List.drop 141 (sqc a.sq++X)=List.drop 6 X:=fun X=>q4 X 6
 have q7:∀ X,List.drop 142 (sqc a.sq++X)=List.drop 7 X:=fun X=>q4 X 7
 have q8:∀ X,List.drop 143 (sqc a.sq++X)=List.drop 8 X:=fun X=>q4 X 8
 have q9:∀ X,List.take 141 (sqc a.sq++X)=sqc a.sq++List.take 6 X:=fun X=>q5 X 6
 have q10:∀ X,List.take 142 (sqc a.sq++X)=sqc a.sq++List.take 7 X:=fun X=>q5 X 7
 refine CallOk.body (F0:=[(0,.ptr i 0 0),(1,.int .i64 f),(2,.int .i64 l),(3,.agg (pic h))]) Tryz.func254 rfl Tryz.ntmps254 Tryz.results254 rfl (by kernel_rfl) rfl ?_
 refine PW.f (fun K k=>by simp (maxSteps:=3000000) (disch:=omega) only [go_sem,↓reduceIte,reduceCtorEq,p2];exact k) ?_
 (repeat refine PW.seq ?_);refine PW.drawg mix (by kernel_rfl) fun K hK=> ?_;simp (maxSteps:=3000000) (disch:=omega) only [go_sem,↓reduceIte,reduceCtorEq,hi1,hi,l1,t1,t2,t3,p1,p2,p3,q1,q2,q3,q6,q7,q8,q9,q10,List.length_append,pic];refine hK _ _ ?_;clear hK K
 obtain ⟨W,hW⟩:∃ W,W=zC ⟨f,l,a.sq,h,a.rs,a.lk⟩:=⟨_,rfl⟩
 refine PW.at [0,8,9] (?_:PW _ _ _ [(0,.ptr i 0 0),(8,.ptr (H.length+1) 0 0),(9,.ptr (H.length+2) 0 0)] (H++[⟨35,0,pic h⟩,⟨123,0,zC fm0⟩,⟨123,0,W⟩]) _) rfl (by rw [hW];rfl)
 have w1:W.length=145:=by rw [hW];exact zbX _ ha
 have w2:List.take 145 W=W:=List.take_of_length_le (by omega)
 have w3:W.all PV.cell=true:=by rw [hW];exact zcb _
 have z1:(zC fm0).length=145:=rfl
 have z2:∀ X,List.drop 145 (zC fm0)=X↔[]=X:=fun X=>by rw [show List.drop 145 (zC fm0)=[] from rfl]
 have z3:List.drop 145 (zC fm0)=[]:=rfl
 refine PW.f (fun K k=>by simp (maxSteps:=3000000) (disch:=omega) only [go_sem,↓reduceIte,reduceCtorEq,hi1,hi,hs,l1,l2,s1,s2,List.set_set];exact k) ?_
 refine PW.at [8,9] (?_:PW _ _ _ [(8,.ptr (H.length+1) 0 0),(9,.ptr (H.length+2) 0 0)] (H.set i (asB { a with rs:=false,lk:= -1 })++[⟨35,0,pic h⟩,⟨123,0,zC fm0⟩,⟨123,0,W⟩]) _) rfl (by rw [List.set_append_left _ _ hil];rfl)
 have hsl:(H.set i (asB { a with rs:=false,lk:= -1 })).length=H.length:=by simp
 have af:=fun K=>ziZ H K i { a with rs:=false,lk:= -1 } (.agg (zC ⟨f,l,a.sq,h,a.rs,a.lk⟩)) hil (.agg fun j x hx=>zml _ _ x (List.mem_of_getElem? hx))
 generalize H.set i (asB { a with rs:=false,lk:= -1 })=X at *
 rw [←hsl]
 refine PW.f (fun K k=>by simp (maxSteps:=3000000) (disch:=omega) only [go_sem,↓reduceIte,reduceCtorEq,w1,w2,w3,z1,z3,List.append_nil];exact k) ?_
 refine PW.ret ⟨.agg W,by simp (maxSteps:=3000000) (disch:=omega) only [go_sem,↓reduceIte,reduceCtorEq,zd,zg,List.mapM_cons,List.mapM_nil,Option.pure_def,Option.bind_eq_bind,Option.bind_some,Array.toList,w1,w2],?_⟩
 rw [hW]
 exact af _
theorem zix (L:List It) (hL:∀ x∈L,SqOk x.s) (k:Nat) (hk:k<L.length):List.take 6 (List.drop (k * 148+139) (itL L))=pic L[k].p:=by
 rw [zfP L hL k 139 6 hk (by omega)]
 exact zwt _ (hL _ (List.getElem_mem hk))
theorem zmi (L:List It) (k:Nat) (hk:k<L.length):hdA L (k:Int)=L[k].p:=by
 unfold hdA
 rw [Int.toNat_natCast,List.getElem?_eq_getElem hk]
def fmO:Option FmY→PV
 | none=>.tup [.agg (zC fm0),.bool false]
 | some f=>.tup [.agg (zC f),.bool true]
theorem zle (n:Nat) (r:Option FmY):Scoped n (fmO r):=by
 have h:∀ f b,Scoped n (.tup [.agg (zC f),.bool b]):=fun f b=>.tup fun j x hx=>by
  have hx:=List.mem_of_getElem? hx
  simp only [List.mem_cons,List.not_mem_nil,or_false] at hx
  rcases hx with rfl|rfl
  ·exact .agg fun j x hx=>zml _ _ x (List.mem_of_getElem? hx)
  ·exact .bool _
 cases r<;>exact h _ _
def OpR (L:List It) (n:Int):Prop:=n= -1∨∃ k:Nat,n=(k:Int)∧k<L.length
set_option maxHeartbeats 4000000 in
set_option maxRecDepth 100000 in
theorem zqD (L:List It) (fl:Bool) (k:Nat) (hk:k<L.length) (hL:∀ x∈L,SqOk x.s) (a:As) (i:Nat) (H:za) (hi:H[i]? =some (asB a)) (ha:SqOk a.sq) (hop:OpR L a.op):
  CallOk Tryz.prog 179 [.ptr i 0 0,.slice (itL L) L.length fl,.int .i64 (k:Int)] H (fmO (a.pic L k L[k].p).2) (H.set i (asB (a.pic L k L[k].p).1)):=by
 have hil:i<H.length:=(List.getElem?_eq_some_iff.1 hi).1
 have ha':=ha.toL
 unfold asB at hi
 have hi1:∀ K,(H++K)[i]? =H[i]? :=fun K=>List.getElem?_append_left hil
 have hs:∀ K B,((H++K).set i B)[i]? =some B:=fun K B=>by rw [List.getElem?_set_self (by simp;omega)]
 have l1:=zbZ a ha'
 have s1:=ziX a ha' (-1)
 have t1:=zvc a ha'
 have ln:=zcU L hL
 have ip:=zix L hL k hk
 have pv:=fun K=>zcy a.sq L[k].p K ha
 have cm:=fun f l (h:Pi) (X:za) (hX:X[i]? =some (asB { a with op:= -1 }))=>zsx { a with op:= -1 } f l h i X hX ha'
 have ld:=fun K=>zme L[k].p K
 generalize hr:a.pic L k L[k].p=r
 unfold As.pic at hr
 generalize L[k].p=g at *
 have p1:(pic g).length=6:=rfl
 have p2:(pic g).all PV.cell=true:=rfl
 have p3:List.take 6 (pic g)=pic g:=rfl
 have p4:(pic g)[1]? =some (.int .i64 g.st):=rfl
 have z1:(zC fm0).length=145:=rfl
 have z3:List.drop 145 (zC fm0)=[]:=rfl
 have z4:List.take 145 (zC fm0)=zC fm0:=rfl
 have z5:(zC fm0).all PV.cell=true:=rfl
 have p6:List.drop 6 (pic g)=[]:=rfl
 have af:=fun b o K=>ziZ H K i b (fmO o) hil (zle _ _)
 refine CallOk.body (F0:=[(0,.ptr i 0 0),(1,.slice (itL L) L.length fl),(2,.int .i64 (k:Int))]) Tryz.func179 rfl Tryz.ntmps179 Tryz.results179 rfl (by kernel_rfl) rfl ?_
 refine PW.e ?_
 refine PW.at [0,1,2,6,7] (?_:PW _ _ _ [(0,.ptr i 0 0),(1,.slice (itL L) L.length fl),(2,.int .i64 (k:Int)),(6,.ptr H.length 0 0),(7,.bool false)] (H++[⟨123,0,zC fm0⟩]) _) rfl rfl
 refine PW.view (Vs.place 35) ?_
 rw [List.append_assoc]
 (repeat refine PW.seq ?_);refine PW.drawi [H.length+1] [(8,[0])] [(8,0)] [] mix (by kernel_rfl) (by simp<;>omega) fun K hK=> ?_
 simp (maxSteps:=3000000) (disch:=omega) only [go_sem,↓reduceIte,reduceCtorEq,hi1,hi,t1,ln,ip,p1,p2,p3]
 refine hK _ _ ?_;clear hK K
 refine PW.f (fun K k=>by simp (maxSteps:=3000000) (disch:=omega) only [go_sem,↓reduceIte,reduceCtorEq,hi1,hi,hs,l1,s1];exact k) ?_
 refine PW.at [0,1,2,6,7,8,9] (?_:PW _ _ _ [(0,.ptr i 0 0),(1,.slice (itL L) L.length fl),(2,.int .i64 (k:Int)),(6,.ptr H.length 0 0),(7,.bool false),(8,.ptr (H.length+1) 1 0),(9,.int .i64 a.op)] (H.set i (asB { a with op:= -1 })++[⟨123,0,zC fm0⟩,⟨35,1,pic g⟩]) _) rfl (by rw [List.set_append_left _ _ hil];rfl)
 have hsl:(H.set i (asB { a with op:= -1 })).length=H.length:=by simp
 have af:=fun b o K=>ziZ H K i b (fmO o) hil (zle _ _)
 have hX0:(H.set i (asB { a with op:= -1 }))[i]? =some (asB { a with op:= -1 }):=by simp [hil]
 have hX2:∀ b,(H.set i (asB { a with op:= -1 })).set i (asB b)=H.set i (asB b):=fun b=>by rw [List.set_set]
 generalize hXe:H.set i (asB { a with op:= -1 })=X at *
 have hX1:∀ K,(X++K)[i]? =some (asB { a with op:= -1 }):=fun K=>by rw [List.getElem?_append_left (by omega)];exact hX0
 have hX3:∀ K b,(X++K).set i b=X.set i b++K:=fun K b=>List.set_append_left _ _ (by omega)
 rw [←hsl]
 unfold asB at hX1
 have u0:=zbZ { a with op:= -1 } ha'
 have u1:=zlu { a with op:= -1 } ha'
 have u2:=zqF { a with op:= -1 } ha'
 dsimp only at u1 u2
 suffices hrest:PW Tryz.prog _ _ [(0,.ptr i 0 0),(1,.slice (itL L) L.length fl),(2,.int .i64 (k:Int)),(6,.ptr X.length 0 0),(7,.bool false),(8,.ptr (X.length+1) 1 0),(9,.int .i64 a.op),(36,.bool (!(a.kn&&zL a.sq g)))] (X++[⟨123,0,zC fm0⟩,⟨35,1,pic g⟩]) _ by
  cases hkn:a.kn with
  | false=>
   rw [hkn] at hrest
   have u3:(za6 { a with op:= -1 })[135]? =some (.bool false):=u2.trans (by rw [hkn])
   (repeat refine PW.seq ?_);refine PW.drawg mix (by kernel_rfl) fun K hK=> ?_;simp (maxSteps:=3000000) (disch:=omega) only [go_sem,↓reduceIte,reduceCtorEq,hX1,u0,u1,u3];refine hK _ _ ?_;clear hK K
   exact PW.at [0,1,2,6,7,8,9,36] hrest rfl rfl
  | true=>
   rw [hkn] at hrest
   have u3:(za6 { a with op:= -1 })[135]? =some (.bool true):=u2.trans (by rw [hkn])
   (repeat refine PW.seq ?_);refine PW.drawg mix (by kernel_rfl) fun K hK=> ?_;simp (maxSteps:=3000000) (disch:=omega) only [go_sem,↓reduceIte,reduceCtorEq,hX1,u0,u1,u3,p1,p2,p3];refine VCz.call (fun _=>pv _) rfl ?_;simp (maxSteps:=3000000) (disch:=omega) only [go_sem,↓reduceIte,reduceCtorEq];refine hK _ _ ?_;clear hK K
   exact PW.at [0,1,2,6,7,8,9,36] hrest rfl rfl
 have hX4:∀ K b,(X++K).set i (asB b)=H.set i (asB b)++K:=fun K b=>by rw [hX3,hX2]
 have hY0:∀ b F G,(H.set i (asB b)++[F,G])[X.length]? =some F:=fun b F G=>by rw [hsl,List.getElem?_append_right (by simp)];simp
 have hY1:∀ b F G,(H.set i (asB b)++[F,G])[X.length+1]? =some G:=fun b F G=>by rw [hsl,List.getElem?_append_right (by simp)];simp
 have hYs:∀ b F G B,(H.set i (asB b)++[F,G]).set X.length B=H.set i (asB b)++[B,G]:=fun b F G B=>by rw [hsl,List.set_append_right _ _ (by simp)];simp
 have hret:∀ b f v (Fx:Fr) (Y:za),slot Fx 6= .ptr X.length 0 0→slot Fx 7= .bool v→Y=H.set i (asB b)++[⟨123,0,zC f⟩,⟨35,1,pic g⟩]→fmO r.2= .tup [.agg (zC f),.bool v]→b=r.1→SqL f.sq→zoM Tryz.prog [.cell 6 123,.tmp 7] (Pm.Fin H (fmO r.2) (H.set i (asB r.1))) .ret Fx Y:=fun b f v Fx Y h6 h7 e3 e1 e2 hf=>by
  subst e3
  have w1:=zbX f hf
  have w2:List.take 145 (zC f)=zC f:=List.take_of_length_le (by omega)
  refine ⟨.tup [.agg (zC f),.bool v],by simp (maxSteps:=3000000) (disch:=omega) only [go_sem,↓reduceIte,reduceCtorEq,hY0,w1,w2,h6,h7,zd,zg,List.mapM_cons,List.mapM_nil,Option.pure_def,Option.bind_eq_bind,Option.bind_some],?_⟩
  have:=af b r.2 [⟨123,0,zC f⟩,⟨35,1,pic g⟩]
  rw [e1] at this ⊢
  rw [e2] at this ⊢
  exact this
 have hz:SqL fm0.sq:=⟨rfl,rfl⟩
 by_cases hv:(a.kn&&zL a.sq g)=false
 ·rw [if_pos hv] at hr
  rw [hv]
  refine PW.t ?_
  refine PW.f (fun K k=>by simp (maxSteps:=3000000) (disch:=omega) only [go_sem,↓reduceIte,reduceCtorEq,z1,z3,z5];exact k) ?_
  refine PW.ret (hret { a with op:= -1 } fm0 false _ _ rfl rfl ?_ ?_ ?_ hz)
  ·rw [←hXe];rfl
  ·rw [←hr];rfl
  ·rw [←hr]
 rw [if_neg hv] at hr
 have hv':(a.kn&&zL a.sq g)=true:=by simpa using hv
 rw [hv']
 refine PW.us ?_
 (repeat refine PW.seq ?_);refine PW.block ?_
 refine PW.f (fun K k=>by simp (maxSteps:=3000000) (disch:=omega) only [go_sem,↓reduceIte,reduceCtorEq,p1,p4];exact k) ?_
 by_cases h3:g.st=3
 ·rw [if_pos h3] at hr
  (repeat refine PW.seq ?_);refine PW.cond (t:=_) rfl (fun h=> ?_) (fun h=> ?_)
  rotate_left
  ·simp [h3] at h
  have cm':=fun f l h K=>cm f l h (X++K) (hX1 K)
  dsimp only at cm'
  simp only [hX4] at cm'
  have w1:=zbX ⟨(k:Int),(k:Int),a.sq,g,a.rs,a.lk⟩ ha'
  refine PW.f (fun K k=>by simp (maxSteps:=3000000) (disch:=omega) only [go_sem,↓reduceIte,reduceCtorEq,p1,p2,p3];refine VCx.call (cm' _ _ _ _) rfl ?_;simp (maxSteps:=3000000) (disch:=omega) only [go_sem,↓reduceIte,reduceCtorEq,hY0,hYs,z1,z3,w1,zcb,List.append_nil];exact k) ?_
  refine PW.ret (hret { a with op:= -1,rs:=false,lk:= -1 } ⟨(k:Int),(k:Int),a.sq,g,a.rs,a.lk⟩ true _ _ rfl rfl ?_ ?_ ?_ ha')
  ·rfl
  ·rw [←hr];rfl
  ·rw [←hr];rfl
 rw [if_neg h3] at hr
 (repeat refine PW.seq ?_);refine PW.cond (t:=_) rfl (fun h=> ?_) (fun h=> ?_)
 ·simp [h3] at h
 suffices hrest:∀ b,(b=true↔(a.op≠-1∧zaW (hdA L a.op) g=true))→PW Tryz.prog _ _ [(0,.ptr i 0 0),(1,.slice (itL L) L.length fl),(2,.int .i64 (k:Int)),(6,.ptr X.length 0 0),(7,.bool false),(8,.ptr (X.length+1) 1 0),(9,.int .i64 a.op),(47,.bool b)] (X++[⟨123,0,zC fm0⟩,⟨35,1,pic g⟩]) _ by
  rcases hop with ho|⟨k2,ho,hk2⟩
  ·have e0:(a.op== -1)=true:=by simp [ho]
   (repeat refine PW.seq ?_);refine PW.drawg mix (by kernel_rfl) fun K hK=> ?_;simp (maxSteps:=3000000) (disch:=omega) only [go_sem,↓reduceIte,reduceCtorEq,e0];refine hK _ _ ?_;clear hK K
   exact PW.at [0,1,2,6,7,8,9,47] (hrest false (by simp [ho])) rfl rfl
  ·have e0:((k2:Int)== -1)=false:=by simp
   have ip2:=zix L hL k2 hk2
   rw [ho,zmi L k2 hk2] at hrest
   rw [ho]
   generalize L[k2].p=g2 at *
   have pr:=fun K=>zjK g2 g K
   have y1:(pic g2).length=6:=rfl
   have y2:(pic g2).all PV.cell=true:=rfl
   (repeat refine PW.seq ?_);refine PW.drawg mix (by kernel_rfl) fun K hK=> ?_;simp (maxSteps:=3000000) (disch:=omega) only [go_sem,↓reduceIte,reduceCtorEq,e0,ln,ip2,p1,p2,p3,y1,y2];refine VCz.call (fun _=>pr _) rfl ?_;simp (maxSteps:=3000000) (disch:=omega) only [go_sem,↓reduceIte,reduceCtorEq];refine hK _ _ ?_;clear hK K
   exact PW.at [0,1,2,6,7,8,9,47] (hrest (zaW g2 g) (by simp)) rfl rfl
 intro b hb
 (repeat refine PW.seq ?_);refine PW.cond (t:=_) rfl (fun h=> ?_) (fun h=> ?_)
 ·subst h
  have ho:=hb.1 rfl
  rw [if_pos ho] at hr
  obtain ⟨k2,ho2,hk2⟩:∃ k2:Nat,a.op=(k2:Int)∧k2<L.length:=by
   rcases hop with h|h
   ·exact absurd h ho.1
   ·exact h
  have ip2:=zix L hL k2 hk2
  rw [ho2,zmi L k2 hk2] at hr
  rw [ho2]
  generalize L[k2].p=g2 at *
  have y1:(pic g2).length=6:=rfl
  have y2:(pic g2).all PV.cell=true:=rfl
  have cm':=fun f l h K=>cm f l h (X++K) (hX1 K)
  dsimp only at cm'
  simp only [hX4] at cm'
  have w1:=zbX ⟨(k2:Int),(k:Int),a.sq,g2,a.rs,a.lk⟩ ha'
  refine PW.f (fun K k=>by simp (maxSteps:=3000000) (disch:=omega) only [go_sem,↓reduceIte,reduceCtorEq,ln,ip2,p1,p2,p3,y1,y2];refine VCx.call (cm' _ _ _ _) rfl ?_;simp (maxSteps:=3000000) (disch:=omega) only [go_sem,↓reduceIte,reduceCtorEq,hY0,hYs,z1,z3,w1,zcb,List.append_nil];exact k) ?_
  refine PW.ret (hret { a with op:= -1,rs:=false,lk:= -1 } ⟨(k2:Int),(k:Int),a.sq,g2,a.rs,a.lk⟩ true _ _ rfl rfl ?_ ?_ ?_ ha')
  ·rfl
  ·rw [←hr];rfl
  ·rw [←hr];rfl
 ·subst h
  rw [if_neg (fun h=>by have:=hb.2 h;cases this)] at hr
  refine PW.f (fun K k=>by simp (maxSteps:=3000000) (disch:=omega) only [go_sem,↓reduceIte,reduceCtorEq,p1,p2,p3];refine VCx.call (ld _) rfl ?_;simp (maxSteps:=3000000) (disch:=omega) only [go_sem,↓reduceIte,reduceCtorEq];exact k) ?_
  cases hld:zca g with
  | true=>
   rw [if_pos hld] at hr
   refine PW.t ?_
   have s3:=ziX { a with op:= -1 } ha' (k:Int)
   dsimp only at s3
   refine PW.f (fun K k=>by simp (maxSteps:=3000000) (disch:=omega) only [go_sem,↓reduceIte,reduceCtorEq,hX1,u0,s3];exact k) ?_
   refine PW.at [6,7] (?_:PW _ _ _ [(6,.ptr X.length 0 0),(7,.bool false)] (H.set i (asB { a with op:=(k:Int) })++[⟨123,0,zC fm0⟩,⟨35,1,pic g⟩]) _) rfl (hX4 _ { a with op:=(k:Int) })
   refine PW.f (fun K k=>by simp (maxSteps:=3000000) (disch:=omega) only [go_sem,↓reduceIte,reduceCtorEq,hY0,hYs,z1,z3,z5];exact k) ?_
   refine PW.ret (hret { a with op:=(k:Int) } fm0 false _ _ rfl rfl ?_ ?_ ?_ hz)
   ·rfl
   ·rw [←hr];rfl
   ·rw [←hr]
  | false=>
   rw [if_neg (by rw [hld];simp)] at hr
   refine PW.us ?_
   refine PW.f (fun K k=>by simp (maxSteps:=3000000) (disch:=omega) only [go_sem,↓reduceIte,reduceCtorEq,z1,z3,z5];exact k) ?_
   refine PW.ret (hret { a with op:= -1 } fm0 false _ _ rfl rfl ?_ ?_ ?_ hz)
   ·rw [←hXe];rfl
   ·rw [←hr];rfl
   ·rw [←hr]
end Go.Proofs.YtjgmdlcjbgiekaaGreatDoor.Sc
namespace Go.Proofs.YtjgmdlcjbgiekaaGreatDoor.Pm
set_option linter.all false
open Go.RowKit
variable {P:Program} {H:za}
def Wkn (x y:PV):Prop:=∀ (C:Ctx) (u:Value),VRel C x u→VRel C y u
theorem Wkn.refl (x:PV):Wkn x x:=fun _ _ h=>h
theorem Wkn.slF (xs:List PV) (n:Nat) (f:Bool):Wkn (.slice xs n f) (.slice xs n false):=fun C u h=>by
 cases h with
 | slice hl hM hc hR hcap hmax hf=>exact .slice hl hM hc hR hcap hmax (fun e=>by cases e)
 | sliceN ad full=>exact .sliceN ad false
def Wkns (xs ys:List PV):Prop:=xs.length=ys.length∧∀ (j:Nat) (x y:PV),xs[j]? =some x→ys[j]? =some y→Wkn x y
theorem Wkns.nil:Wkns [] []:=⟨rfl,fun j x y h=>by simp at h⟩
theorem Wkns.cons {x y:PV} {xs ys:List PV} (h:Wkn x y) (hs:Wkns xs ys):Wkns (x::xs) (y::ys):=⟨by simp [hs.1],fun j a b ha hb=>by
 cases j with
 | zero=>
  simp only [List.getElem?_cons_zero,Option.some.injEq] at ha hb
  subst ha hb;exact h
 | succ j=>
  simp only [List.getElem?_cons_succ] at ha hb
  exact hs.2 j a b ha hb⟩
theorem Wkns.refl:∀ xs:List PV,Wkns xs xs
 | []=>.nil
 | x::r=>.cons (.refl x) (Wkns.refl r)
theorem Wkns.append {xs ys xs' ys':List PV} (h:Wkns xs ys) (h':Wkns xs' ys'):Wkns (xs++xs') (ys++ys'):=by
 refine ⟨by simp [h.1,h'.1],fun j a b ha hb=> ?_⟩
 by_cases hj:j<xs.length
 ·rw [List.getElem?_append_left hj] at ha
  rw [List.getElem?_append_left (by rw [←h.1];exact hj)] at hb
  exact h.2 j a b ha hb
 ·rw [List.getElem?_append_right (by omega)] at ha
  rw [List.getElem?_append_right (by rw [←h.1];omega),←h.1] at hb
  exact h'.2 _ a b ha hb
theorem Wkn.agg {xs ys:List PV} (h:Wkns xs ys) (hc:ys.all PV.cell=true):Wkn (.agg xs) (.agg ys):=fun C u hu=>by
 cases hu with
 | agg hl _ hR=>
  refine .agg (hl.trans h.1) (fun x hx=>List.all_eq_true.1 hc x hx) fun j y u hy hu=> ?_
  have hj:j<xs.length:=by have:=(List.getElem?_eq_some_iff.1 hy).1;have:=h.1;omega
  exact h.2 j _ y (List.getElem?_eq_getElem hj) hy C u (hR j _ u (List.getElem?_eq_getElem hj) hu)
theorem CallOk.wk {f:FuncId} {args args':List PV} {v:PV} {H':za} (h:CallOk P f args' H v H') (hz:Wkns args args'):CallOk P f args H v H':=
 ⟨h.1,fun C us w hw hu=>h.2 C us w hw ⟨hu.1.trans hz.1,fun j y u hy hu'=>by
  have hj:j<args.length:=by have:=(List.getElem?_eq_some_iff.1 hy).1;have:=hz.1;omega
  exact hz.2 j _ y (List.getElem?_eq_getElem hj) hy C u (hu.2 j _ u (List.getElem?_eq_getElem hj) hu')⟩⟩
end Go.Proofs.YtjgmdlcjbgiekaaGreatDoor.Pm
