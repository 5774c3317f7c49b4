/-
  Parts of the proof, put together in one text. No condition.
-/
import Derived.Test.YtjgmdlcjbgiekaaGreatDoorQ23
namespace Go.Proofs.YtjgmdlcjbgiekaaGreatDoor.Sc
set_option linter.all false
open Pm Ty Go.RowKit
def vqB (q:Int):Bool:=decide (1≤q)&&decide (q≤31)
def zi9 (s:St):Bool:=(win s.da 4095&&(win s.db 4095&&win s.dc 4095))&&(vqB s.q&&(vrg s.va s.vb&&vrg s.vc s.vd))
theorem zsV (q:Int) (H:za):CallOk Tryz.prog 134 [.int .i64 q] H (.bool (vqB q)) H:=by
 refine CallOk.body (F0:=[(0,.int .i64 q)]) Tryz.func134 rfl Tryz.ntmps134 Tryz.results134 rfl (by kernel_rfl) rfl ?_
 (repeat' (first|refine PW.seq ?_|refine PW.skip ?_|refine PW.block ?_|((first|refine PW.rg rfl fun K hK=> ?_|refine PW.draw mix (by kernel_rfl) fun K hK=> ?_);simp (disch:=omega) only [go_sem,↓reduceIte,reduceCtorEq])|((first|refine zj ?_ ?_|refine zn ?_ ?_|refine And.intro ?_ ?_)<;>intro h<;>(try simp only [nqb] at h)<;>simp (disch:=omega) only [go_sem,↓reduceIte,reduceCtorEq,h])|(refine hK _ _ ?_;clear hK K)|(refine PW.cond (t:=_) rfl (fun h=> ?_) (fun h=> ?_)<;>(try (cases h;done))<;>(try simp only [nqb] at h))))
 all_goals ((refine PW.ret ⟨_,rfl,?_⟩;first|refine .inl ⟨?_,rfl⟩|refine Fin.base (.id' ?_ (.bool _))|refine Fin.base (.id' ?_ (.int _ _)));(simp_all [vqB,slot,Nat.beq]<;>first|rfl|omega|(rw [Bool.eq_iff_iff];simp;done)|(rw [Bool.eq_iff_iff];simp;omega)))
theorem zqU (s:St) (H:za):CallOk Tryz.prog 183 [.agg (stc s)] H (.bool (zi9 s)) H:=by
 generalize hr:zi9 s=r
 obtain ⟨q,da,db,dc,va,vb,vc,vd⟩:=s
 have w1:=fun x K=>zdd x 4095 K (by omega)
 have v1:=fun x y K=>zga x y K
 have q1:=fun K=>zsV q K
 refine CallOk.body (F0:=[(0,.agg [.int .i64 q,.int .i64 da,.int .i64 db,.int .i64 dc,.int .i64 va,.int .i64 vb,.int .i64 vc,.int .i64 vd])]) Tryz.func183 rfl Tryz.ntmps183 Tryz.results183 rfl (by kernel_rfl) rfl ?_
 (repeat' (first|refine PW.seq ?_|refine PW.skip ?_|refine PW.block ?_|refine PW.loop ?_|refine PL.round ?_|refine PW.exit ?_|((first|refine PW.rg rfl fun K hK=> ?_|refine PW.draw mix (by kernel_rfl) fun K hK=> ?_);simp (disch:=omega) only [go_sem,↓reduceIte,reduceCtorEq])|((first|refine zj ?_ ?_|refine zn ?_ ?_|refine And.intro ?_ ?_)<;>intro h<;>(try simp only [nqb] at h)<;>simp (disch:=omega) only [go_sem,↓reduceIte,reduceCtorEq,h])|((first|refine VCx.call (w1 _ _) rfl ?_|refine VCx.call (v1 _ _ _) rfl ?_|refine VCx.call (q1 _) rfl ?_|refine VCy.call (w1 _ _) rfl ?_|refine VCy.call (v1 _ _ _) rfl ?_|refine VCy.call (q1 _) rfl ?_);simp (disch:=omega) only [go_sem,↓reduceIte,reduceCtorEq])|(refine hK _ _ ?_;clear hK K)|(refine PW.cond (t:=_) rfl (fun h=> ?_) (fun h=> ?_)<;>(try (cases h;done))<;>(try simp only [nqb] at h))))
 all_goals ((refine PW.ret ⟨_,rfl,?_⟩;first|refine .inl ⟨?_,rfl⟩|refine Fin.base (.id' ?_ (.bool _))|refine Fin.base (.id' ?_ (.int _ _)));subst hr;clear w1 v1 q1;(simp_all [zi9,slot,Nat.beq]<;>first|rfl|omega|(rw [Bool.eq_iff_iff];simp;done)|(rw [Bool.eq_iff_iff];simp;omega)))
def aft (s:St) (k:Int):St:=⟨s.q,if k=1 then s.da else 0,if k=1 then s.db else 0,if k=1 then s.dc else 0,if k=2 then s.va else 0,if k=2 then s.vb else 0,if k=2 then s.vc else 0,if k=2 then s.vd else 0⟩
theorem zve (s:St) (k:Int) (H:za):CallOk Tryz.prog 189 [.agg (stc s),.int .i64 k] H (.agg (stc (aft s k))) H:=by
 have hsc:=zcM (aft s k)
 obtain ⟨q,da,db,dc,va,vb,vc,vd⟩:=s
 have e0:stc (aft ⟨q,da,db,dc,va,vb,vc,vd⟩ k)=[.int .i64 q,.int .i64 (if k=1 then da else 0),.int .i64 (if k=1 then db else 0),.int .i64 (if k=1 then dc else 0),.int .i64 (if k=2 then va else 0),.int .i64 (if k=2 then vb else 0),.int .i64 (if k=2 then vc else 0),.int .i64 (if k=2 then vd else 0)]:=rfl
 rw [e0] at hsc ⊢
 clear e0
 refine CallOk.body (F0:=[(0,.agg [.int .i64 q,.int .i64 da,.int .i64 db,.int .i64 dc,.int .i64 va,.int .i64 vb,.int .i64 vc,.int .i64 vd]),(1,.int .i64 k)]) Tryz.func189 rfl Tryz.ntmps189 Tryz.results189 rfl (by kernel_rfl) rfl ?_
 by_cases h1:k=1<;>by_cases h2:k=2
 ·omega
 ·have b1:(k !=1)=false:=by simp [h1]
  have b2:(k !=2)=true:=by simp [h2]
  simp only [if_pos h1,if_neg h2] at hsc ⊢
  (repeat' (first|refine PW.seq ?_|refine PW.skip ?_|refine PW.block ?_|((first|refine PW.rg rfl fun K hK=> ?_|refine PW.draw mix (by kernel_rfl) fun K hK=> ?_);simp (disch:=omega) only [go_sem,↓reduceIte,reduceCtorEq,b1,b2])|((first|refine zj ?_ ?_|refine zn ?_ ?_|refine And.intro ?_ ?_)<;>intro h<;>(try simp only [nqb] at h)<;>simp (disch:=omega) only [go_sem,↓reduceIte,reduceCtorEq,b1,b2,h])|(refine hK _ _ ?_;clear hK K)|(refine PW.cond (t:=_) rfl (fun h=> ?_) (fun h=> ?_)<;>(try (cases h;done))<;>(try simp only [nqb] at h))))
  refine PW.ret ⟨.agg [.int .i64 q,.int .i64 da,.int .i64 db,.int .i64 dc,.int .i64 0,.int .i64 0,.int .i64 0,.int .i64 0],by simp (disch:=omega) only [go_sem,↓reduceIte,reduceCtorEq,zd,zg,List.mapM_cons,List.mapM_nil,Option.pure_def,Option.bind_eq_bind,Option.bind_some,Array.toList],?_⟩
  exact Fin.base (.id (hsc _))
 ·have b1:(k !=1)=true:=by simp [h1]
  have b2:(k !=2)=false:=by simp [h2]
  simp only [if_neg h1,if_pos h2] at hsc ⊢
  (repeat' (first|refine PW.seq ?_|refine PW.skip ?_|refine PW.block ?_|((first|refine PW.rg rfl fun K hK=> ?_|refine PW.draw mix (by kernel_rfl) fun K hK=> ?_);simp (disch:=omega) only [go_sem,↓reduceIte,reduceCtorEq,b1,b2])|((first|refine zj ?_ ?_|refine zn ?_ ?_|refine And.intro ?_ ?_)<;>intro h<;>(try simp only [nqb] at h)<;>simp (disch:=omega) only [go_sem,↓reduceIte,reduceCtorEq,b1,b2,h])|(refine hK _ _ ?_;clear hK K)|(refine PW.cond (t:=_) rfl (fun h=> ?_) (fun h=> ?_)<;>(try (cases h;done))<;>(try simp only [nqb] at h))))
  refine PW.ret ⟨.agg [.int .i64 q,.int .i64 0,.int .i64 0,.int .i64 0,.int .i64 va,.int .i64 vb,.int .i64 vc,.int .i64 vd],by simp (disch:=omega) only [go_sem,↓reduceIte,reduceCtorEq,zd,zg,List.mapM_cons,List.mapM_nil,Option.pure_def,Option.bind_eq_bind,Option.bind_some,Array.toList],?_⟩
  exact Fin.base (.id (hsc _))
 ·have b1:(k !=1)=true:=by simp [h1]
  have b2:(k !=2)=true:=by simp [h2]
  simp only [if_neg h1,if_neg h2] at hsc ⊢
  (repeat' (first|refine PW.seq ?_|refine PW.skip ?_|refine PW.block ?_|((first|refine PW.rg rfl fun K hK=> ?_|refine PW.draw mix (by kernel_rfl) fun K hK=> ?_);simp (disch:=omega) only [go_sem,↓reduceIte,reduceCtorEq,b1,b2])|((first|refine zj ?_ ?_|refine zn ?_ ?_|refine And.intro ?_ ?_)<;>intro h<;>(try simp only [nqb] at h)<;>simp (disch:=omega) only [go_sem,↓reduceIte,reduceCtorEq,b1,b2,h])|(refine hK _ _ ?_;clear hK K)|(refine PW.cond (t:=_) rfl (fun h=> ?_) (fun h=> ?_)<;>(try (cases h;done))<;>(try simp only [nqb] at h))))
  refine PW.ret ⟨.agg [.int .i64 q,.int .i64 0,.int .i64 0,.int .i64 0,.int .i64 0,.int .i64 0,.int .i64 0,.int .i64 0],by simp (disch:=omega) only [go_sem,↓reduceIte,reduceCtorEq,zd,zg,List.mapM_cons,List.mapM_nil,Option.pure_def,Option.bind_eq_bind,Option.bind_some,Array.toList],?_⟩
  exact Fin.base (.id (hsc _))
theorem zu0 (n:Nat) (H:za) (h:n<6):CallOk Tryz.prog 265 [.int .i64 (n:Int)] H (.int .i64 ((n - 3:Nat):Int)) H:=by
 refine CallOk.body (F0:=[(0,.int .i64 (n:Int))]) Tryz.func265 rfl Tryz.ntmps265 Tryz.results265 rfl (by kernel_rfl) rfl ?_
 have h6:n=0∨n=1∨n=2∨n=3∨n=4∨n=5:=by omega
 rcases h6 with rfl|rfl|rfl|rfl|rfl|rfl<;>(repeat' (first|refine PW.seq ?_|refine PW.skip ?_|refine PW.block ?_|((first|refine PW.rg rfl fun K hK=> ?_|refine PW.draw mix (by kernel_rfl) fun K hK=> ?_);simp (disch:=omega) only [go_sem,↓reduceIte,reduceCtorEq])|((first|refine zj ?_ ?_|refine zn ?_ ?_|refine And.intro ?_ ?_)<;>intro h<;>(try simp only [nqb] at h)<;>simp (disch:=omega) only [go_sem,↓reduceIte,reduceCtorEq,h])|(refine hK _ _ ?_;clear hK K)|(refine PW.cond (t:=_) rfl (fun h=> ?_) (fun h=> ?_)<;>(try (cases h;done))<;>(try simp only [nqb] at h))))
 all_goals ((refine PW.ret ⟨_,rfl,?_⟩;first|refine .inl ⟨?_,rfl⟩|refine Fin.base (.id' ?_ (.bool _))|refine Fin.base (.id' ?_ (.int _ _)));rfl)
theorem zqW (m:Mb) (i:Nat) (H:za) (hi:H[i]? =some (mB m)):CallOk Tryz.prog 261 [.ptr i 0 0] H (.int .i64 (if m.fp then 2 else 1)) H:=by
 refine CallOk.body (F0:=[(0,.ptr i 0 0)]) Tryz.func261 rfl Tryz.ntmps261 Tryz.results261 rfl (by kernel_rfl) rfl ?_
 (repeat' (first|refine PW.seq ?_|refine PW.skip ?_|refine PW.block ?_|((first|refine PW.rg rfl fun K hK=> ?_|refine PW.draw mix (by kernel_rfl) fun K hK=> ?_);simp (disch:=omega) only [go_sem,↓reduceIte,reduceCtorEq,hi,mB,mbc])|((first|refine zj ?_ ?_|refine zn ?_ ?_|refine And.intro ?_ ?_)<;>intro h<;>(try simp only [nqb] at h)<;>simp (disch:=omega) only [go_sem,↓reduceIte,reduceCtorEq,hi,mB,mbc,h])|(refine hK _ _ ?_;clear hK K)|(refine PW.cond (t:=_) rfl (fun h=> ?_) (fun h=> ?_)<;>(try (cases h;done))<;>(try simp only [nqb] at h))))
 all_goals ((refine PW.ret ⟨_,rfl,?_⟩;first|refine .inl ⟨?_,rfl⟩|refine Fin.base (.id' ?_ (.bool _))|refine Fin.base (.id' ?_ (.int _ _)));simp_all [slot,Nat.beq])
section
variable (H:za) (i j:Nat) (M:List Bool) (x0 x1 x3:Blk) (c:Cx) (m:Mb) (s:St)
end
end Go.Proofs.YtjgmdlcjbgiekaaGreatDoor.Sc
namespace Go.Proofs.YtjgmdlcjbgiekaaGreatDoor.Sc
set_option linter.all false
open Pm Ty Go.RowKit
def vXm (m:Mb) (d k:Nat):Int:=if d=0 then (if k=0 then m.va else m.vc) else (if k=0 then m.ve else m.vg)
def vYm (m:Mb) (d k:Nat):Int:=if d=0 then (if k=0 then m.vb else m.vd) else (if k=0 then m.vf else m.vh)
def usd (m:Mb) (d:Nat):Bool:=if d=0 then m.ua else m.ub
def sXs (s:St) (d:Nat):Int:=if d=0 then s.va else s.vc
def sYs (s:St) (d:Nat):Int:=if d=0 then s.vb else s.vd
def zbS (s:St) (d:Nat) (x y:Int):St:=if d=0 then ⟨s.q,s.da,s.db,s.dc,x,y,s.vc,s.vd⟩ else ⟨s.q,s.da,s.db,s.dc,s.va,s.vb,x,y⟩
def nvM (m:Mb):Nat:=if m.fp then 2 else 1
def vrM (m:Mb):Prop:=∀ d k,(-63≤vXm m d k∧vXm m d k≤63)∧(-63≤vYm m d k∧vYm m d k≤63)
def vrS (s:St):Prop:=∀ d,(-63≤sXs s d∧sXs s d≤63)∧(-63≤sYs s d∧sYs s d≤63)
theorem zwh (m:Mb):nvM m≤2∧1≤nvM m:=by unfold nvM;split<;>omega
section
variable (H:za) (i j:Nat) (M:List Bool) (x0 x1 x3:Blk) (c:Cx) (m:Mb) (s:St) (K:za)
end
end Go.Proofs.YtjgmdlcjbgiekaaGreatDoor.Sc
namespace Go.Proofs.YtjgmdlcjbgiekaaGreatDoor.Sc
set_option linter.all false
open Pm Ty Go.RowKit
def dcS (s:St) (k:Nat):Int:=if k=0 then s.da else if k=1 then s.db else s.dc
def zfC (s:St) (k:Nat) (x:Int):St:=if k=0 then ⟨s.q,x,s.db,s.dc,s.va,s.vb,s.vc,s.vd⟩ else if k=1 then ⟨s.q,s.da,x,s.dc,s.va,s.vb,s.vc,s.vd⟩ else ⟨s.q,s.da,s.db,x,s.va,s.vb,s.vc,s.vd⟩
def lrM (m:Mb):Prop:=∀ q,q<384→win (zh m.lv q) 4095=true
def dcR (s:St):Prop:=∀ k,-4095≤dcS s k∧dcS s k≤4095
theorem zss {s:St} (h:dcR s) (k:Nat) {x:Int} (hx: -4095≤x∧x≤4095):dcR (zfC s k x):=fun e=>by
 have h0: -4095≤s.da∧s.da≤4095:=h 0
 have h1: -4095≤s.db∧s.db≤4095:=h 1
 have h2: -4095≤s.dc∧s.dc≤4095:=h 2
 unfold zfC
 split
 ·unfold dcS;dsimp only;split;exact hx;split;exact h1;exact h2
 ·split
  ·unfold dcS;dsimp only;split;exact h0;split;exact hx;exact h2
  ·unfold dcS;dsimp only;split;exact h0;split;exact h1;exact hx
def zSt:St:=⟨0,0,0,0,0,0,0,0⟩
theorem znJ {lv:List Int} {n j:Nat} (h:zbk lv n=true) (hj:j<64):zh lv (n * 64+j)=0:=by
 have e:=zls lv n j hj
 have hz:(lv.drop (n * 64)).take 64=List.replicate 64 0:=by simpa [zbk] using h
 rw [hz] at e
 rw [←e]
 rw [zh,List.getD_eq_getElem?_getD,List.getElem?_replicate,if_pos hj]
 rfl
structure Fmd (c:Cx) (m:Mb):Prop where
 k:m.k=0∨m.k=1∨m.k=2
 v:vrM m
 l:lrM m
 d: -30≤m.dl∧m.dl≤30
 z:m.k=0→m.dl=0∧hlM m=false
 i:m.k=1→cdl m=[true,true,true,true,true,true]
 n:hlM m=false→m.dl=0
theorem zsU {x y:Int} (h:vrg x y=true):(-63≤x∧x≤63)∧(-63≤y∧y≤63):=by
 simp only [vrg,Bool.and_eq_true] at h
 exact ⟨zho h.1,zho h.2⟩
theorem zlA {s:St} (h:zi9 s=true):(1≤s.q∧s.q≤31)∧vrS s∧dcR s:=by
 simp only [zi9,Bool.and_eq_true,vqB,decide_eq_true_eq] at h
 obtain ⟨⟨h1,h2,h3⟩,h4,h5,h6⟩:=h
 refine ⟨h4,fun d=> ?_,fun k=> ?_⟩
 ·unfold sXs sYs
  split
  ·exact zsU h5
  ·exact zsU h6
 ·unfold dcS
  split
  ·exact zho h1
  ·split
   ·exact zho h2
   ·exact zho h3
def SameQ (s t:St):Prop:=t.q=s.q∧t.da=s.da∧t.db=s.db∧t.dc=s.dc
theorem SameQ.trans {a b c:St} (h:SameQ a b) (k:SameQ b c):SameQ a c:=⟨k.1.trans h.1,k.2.1.trans h.2.1,k.2.2.1.trans h.2.2.1,k.2.2.2.trans h.2.2.2⟩
theorem zqn {s t:St} (h:SameQ s t) (k:dcR s):dcR t:=fun e=>by
 have:=k e
 unfold dcS at this ⊢
 rw [h.2.1,h.2.2.1,h.2.2.2];exact this
section
variable (H:za) (i j:Nat) (A B:Blk) (K:za)
end
theorem zaw {n:Nat} {xs:List PV} (h:∀ x∈xs,Scoped n x):∀ (j:Nat) (x:PV),xs[j]? =some x→Scoped n x:=fun j x hx=>h x (List.mem_of_getElem? hx)
theorem zqo (c:Cx):(cxc c).all PV.cell=true:=rfl
theorem zoe (s:St):(stc s).all PV.cell=true:=rfl
theorem zer (m:Mb):(mbc m).all PV.cell=true:=by
 have hall:=zU m.lv
 simp [mbc,PV.cell]
 exact fun x hx=>List.all_eq_true.1 hall x hx
end Go.Proofs.YtjgmdlcjbgiekaaGreatDoor.Sc
namespace Go.Proofs.YtjgmdlcjbgiekaaGreatDoor.Sc
set_option linter.all false
open Pm Ty Go.RowKit
def tkF (q:List UInt8) (n a:Nat):Rr Bool:=if a<n then .ok (decide (zbA q a=1)) (a+1) else .er 3 a
def tkD (q:List UInt8) (n:Nat) (pr:Int) (most:Nat) (a:Nat):Rr Int:=(tkS q n a).bind fun d a1=>if win (pr+d) most then .ok (pr+d) a1 else .er 2 a1
def zei (m:Mb) (d k:Nat) (x:Int):Mb:=if d=0 then (if k=0 then { m with sa:=x } else { m with sb:=x }) else (if k=0 then { m with sc:=x } else { m with sd:=x })
def zdR (m:Mb) (d k:Nat) (x y:Int):Mb:=if d=0 then (if k=0 then { m with va:=x,vb:=y } else { m with vc:=x,vd:=y }) else (if k=0 then { m with ve:=x,vf:=y } else { m with vg:=x,vh:=y })
def zc4 (m:Mb) (n:Nat) (b:Bool):Mb:=if n=0 then { m with ca:=b } else if n=1 then { m with cb:=b } else if n=2 then { m with cc:=b } else if n=3 then { m with cd:=b } else if n=4 then { m with ce:=b } else { m with cf:=b }
def zaU (m:Mb) (n:Nat) (l:List Int):Mb:={ m with lv:=m.lv.take (n * 64)++l++m.lv.drop (n * 64+64) }
def zfE:Mb:=⟨1,false,false,false,false,0,0,0,0,0,0,0,0,0,0,0,0,0,true,true,true,true,true,true,zl384⟩
def zwe (v:Nat):Mb:=⟨2,decide (v≤2)||decide (5≤v),decide (3≤v),false,false,0,0,0,0,0,0,0,0,0,0,0,0,0,false,false,false,false,false,false,zl384⟩
def zde (c:Cx) (q:List UInt8) (n a:Nat):Rr (Mb×Bool):=
 if c.t=1 then .ok (zfE,true) a else (tkU q n a).bind fun v a1=>if (if c.t=2 then 3 else 7)<v then .er 2 a1 else if v=(if c.t=2 then 3 else 7) then .ok (zfE,true) a1 else if v=0 then .ok (zMb,false) a1 else .ok (zwe v,decide (v%2=0)) a1
def zdY (c:Cx) (q:List UInt8) (n:Nat) (m:Mb) (s:St) (d k a:Nat):Rr (Mb×St):=
 (if m.fp||fcx c then (tkF q n a).bind fun b a1=>.ok (zei m d k (b.toNat:Int)) a1 else .ok m a).bind fun m a1=>
 (tkD q n (sXs s d) 63 a1).bind fun x a2=>(tkD q n (sYs s d) 63 a2).bind fun y a3=>.ok (zdR m d k x y,zbS s d x y) a3
def zbQ (c:Cx) (q:List UInt8) (n d:Nat):Nat→Nat→Mb→St→Nat→Rr (Mb×St)
 | 0,_,m,s,a=>.ok (m,s) a
 | r+1,k,m,s,a=>(zdY c q n m s d k a).bind fun x a1=>zbQ c q n d r (k+1) x.1 x.2 a1
def zeN (c:Cx) (q:List UInt8) (n:Nat) (m:Mb) (s:St) (d a:Nat):Rr (Mb×St):=if usd m d then zbQ c q n d (nvM m) 0 m s a else .ok (m,s) a
def zda (c:Cx) (q:List UInt8) (n:Nat):Nat→Nat→Mb→St→Nat→Rr (Mb×St)
 | 0,_,m,s,a=>.ok (m,s) a
 | r+1,d,m,s,a=>(zeN c q n m s d a).bind fun x a1=>zda c q n r (d+1) x.1 x.2 a1
def zeM (c:Cx) (q:List UInt8) (n:Nat) (m:Mb) (s:St) (a:Nat):Rr (Mb×St):=
 if m.k=2 then (if bcx c then (tkF q n a).bind fun b a1=>.ok { m with fp:=b } a1 else .ok m a).bind fun m a1=>zda c q n 2 0 m s a1 else .ok (m,s) a
def zfA (c:Cx) (q:List UInt8) (n:Nat) (hl:Bool) (m:Mb) (s:St) (a:Nat):Rr (Mb×St):=
 if hl then (if bcx c then (tkF q n a).bind fun b a1=>.ok { m with fd:=b } a1 else .ok m a).bind fun m a1=>
  (tkS q n a1).bind fun d a2=>if vqB (s.q+d) then .ok ({ m with dl:=d },{ s with q:=s.q+d }) a2 else .er 2 a2 else .ok (m,s) a
def zee (q:List UInt8) (n:Nat):Nat→Mb→Nat→Rr Mb
 | 0,m,a=>if zi0 m then .ok m a else .er 2 a
 | r+1,m,a=>(tkF q n a).bind fun b a1=>zee q n r (zc4 m (5 - r) b) a1
def zed (q:List UInt8) (n:Nat) (hl:Bool) (m:Mb) (a:Nat):Rr Mb:=if decide (m.k=2)&&hl then zee q n 6 m a else .ok m a
def zbR (q:List UInt8) (n:Nat):Nat→Mb→St→Nat→Rr (Mb×St)
 | 0,m,s,a=>.ok (m,s) a
 | r+1,m,s,a=>if zaz (cdl m) (5 - r) then
   (if m.k=2 then (zeO q n 0 a).bind fun l a1=>if l=z64 then .er 2 a1 else zbR q n r (zaU m (5 - r) l) s a1
    else (tkD q n (dcS s (5 - r - 3)) 4095 a).bind fun d a1=>(zeO q n 1 a1).bind fun l a2=>zbR q n r (zaU m (5 - r) (l.set 0 d)) (zfC s (5 - r - 3) d) a2) else zbR q n r m s a
def zko (c:Cx) (q:List UInt8) (n:Nat) (hl:Bool) (m:Mb) (s:St) (a:Nat):Rr (Mb×St):=
 (zeM c q n m s a).bind fun y a2=>(zfA c q n hl y.1 y.2 a2).bind fun z a3=>(zed q n hl z.1 a3).bind fun m a4=>(zbR q n 6 m z.2 a4).bind fun w a5=>.ok (w.1,aft w.2 w.1.k) a5
def mtk (c:Cx) (s:St) (q:List UInt8) (n a:Nat):Rr (Mb×St):=(zde c q n a).bind fun x a1=>zko c q n x.2 x.1 s a1
theorem zfm {q:List UInt8} {n a a1:Nat} {b:Bool} (h:tkF q n a= .ok b a1):a1=a+1∧a<n∧b=decide (zbA q a=1):=by
 unfold tkF at h
 split at h
 ·injection h with h1 h2;exact ⟨h2.symm,by assumption,h1.symm⟩
 ·cases h
theorem zlG {q:List UInt8} {n a e a1:Nat} (h:tkF q n a= .er e a1):a1=a∧e=3∧n≤a:=by
 unfold tkF at h
 split at h
 ·cases h
 ·injection h with h1 h2;omega
theorem zhq {q:List UInt8} {n a a1 most:Nat} {pr v:Int} (h:tkD q n pr most a= .ok v a1) (ha:a≤n):(-(most:Int)≤v∧v≤most)∧a≤a1∧a1≤n:=by
 unfold tkD at h
 cases hs:tkS q n a with
 | er e a2=>rw [hs] at h;cases h
 | ok d a2=>
  rw [hs,Rr.bind_ok] at h
  have b:=zec hs ha
  split at h
  ·rename_i hw
   injection h with h1 h2
   subst h1 h2
   exact ⟨zho hw,by omega,b.2.2⟩
  ·cases h
theorem zn0 {q:List UInt8} {n a a1 e most:Nat} {pr:Int} (h:tkD q n pr most a= .er e a1) (ha:a≤n):a≤a1∧a1≤n∧e≤3:=by
 unfold tkD at h
 cases hs:tkS q n a with
 | er e2 a2=>
  rw [hs] at h
  have:=zlE hs
  injection h with h1 h2
  omega
 | ok d a2=>
  rw [hs,Rr.bind_ok] at h
  have b:=zec hs ha
  split at h
  ·cases h
  ·injection h with h1 h2;omega
def tC (s:St) (w:Nat) (c:Cx) (mi:Nat) (hl:Bool):List PV:=[.int .i64 s.q,.int .i64 s.da,.int .i64 s.db,.int .i64 s.dc,.int .i64 s.va,.int .i64 s.vb,.int .i64 s.vc,.int .i64 s.vd,.ptr w 0 0,.int .i64 c.t,.int .i64 c.s,.bool c.i,.bool c.n,.ptr mi 0 0,.bool hl]
def tB (s:St) (w:Nat) (c:Cx) (mi:Nat) (hl:Bool):Blk:=⟨280,0,tC s w c mi hl⟩
theorem zF (s:St) (w:Nat) (c:Cx) (mi:Nat) (hl:Bool):(tB s w c mi hl).ver=0:=rfl
theorem zG (s:St) (w:Nat) (c:Cx) (mi:Nat) (hl:Bool):(tB s w c mi hl).cells=tC s w c mi hl:=rfl
theorem zdZ (s:St) (w:Nat) (c:Cx) (mi:Nat) (hl:Bool):(tB s w c mi hl).e=280:=rfl
theorem zau (m:Mb):(mB m).ver=0:=rfl
theorem zay (m:Mb):(mB m).cells=mbc m:=rfl
theorem zbW (m:Mb):(mB m).e=154:=rfl
def tG (H:za) (i:Nat) (p:List UInt8) (n a:Nat) (X:za) (B4 B5:Blk):za:=H.set i (rA p n a)++(X++[B4,B5])
section
variable (H:za) (i:Nat) (p:List UInt8) (n a:Nat) (X:za) (B4 B5:Blk)
theorem zkr (hi:i<H.length):(tG H i p n a X B4 B5)[i]? =some (rA p n a):=by
 unfold tG;rw [List.getElem?_append_left (by simpa using hi)];simp [hi]
theorem zgh (hi:i<H.length) (a':Nat):(tG H i p n a X B4 B5).set i (rA p n a')=tG H i p n a' X B4 B5:=by
 unfold tG;rw [List.set_append_left _ _ (by simpa using hi),List.set_set]
theorem zjf (hX:X.length=4):(tG H i p n a X B4 B5)[H.length+4]? =some B4:=by
 unfold tG
 rw [List.getElem?_append_right (by simp),List.length_set,show H.length+4 - H.length=4 by omega,List.getElem?_append_right (by omega),hX];rfl
theorem zhY (hX:X.length=4):(tG H i p n a X B4 B5)[H.length+5]? =some B5:=by
 unfold tG
 rw [List.getElem?_append_right (by simp),List.length_set,show H.length+5 - H.length=5 by omega,List.getElem?_append_right (by omega),hX];rfl
theorem zgj (hX:X.length=4) (B:Blk):(tG H i p n a X B4 B5).set (H.length+4) B=tG H i p n a X B B5:=by
 unfold tG
 rw [List.set_append_right _ _ (by simp),List.length_set,show H.length+4 - H.length=4 by omega,List.set_append_right _ _ (by omega),hX];rfl
theorem zgi (hX:X.length=4) (B:Blk):(tG H i p n a X B4 B5).set (H.length+5) B=tG H i p n a X B4 B:=by
 unfold tG
 rw [List.set_append_right _ _ (by simp),List.length_set,show H.length+5 - H.length=5 by omega,List.set_append_right _ _ (by omega),hX];rfl
end
def rvF:Rr Bool→PV
 | .ok b _=>.tup [.bool b,.int .i64 0]
 | .er e _=>.tup [.bool false,.int .i64 ((e:Int)+1)]
section
variable (H:za) (i:Nat) (p:List UInt8) (n a:Nat) (X:za) (B4:Blk) (c:Cx) (s:St) (hl:Bool) (hi:i<H.length) (hX:X.length=4) (ha:a≤n) (hn:n≤8 * p.length) (hp:p.length≤100000000)
include hi hX ha hn hp
theorem zgg (pr:Int) (most:Nat) (hm:most≤4095) (hpr: -4095≤pr∧pr≤4095):CallOk Tryz.prog 266 [.ptr (H.length+5) 0 0,.int .i64 pr,.int .i64 (most:Int)] (tG H i p n a X B4 (tB s i c (H.length+4) hl)) (rvS (tkD p n pr most a)) (tG H i p n (tkD p n pr most a).at X B4 (tB s i c (H.length+4) hl)):=by
 have g5:=fun a=>zhY H i p n a X B4 (tB s i c (H.length+4) hl) hX
 have gi:=zkr H i p n a X B4 (tB s i c (H.length+4) hl) hi
 have pc8:(tC s i c (H.length+4) hl)[8]? =some (.ptr i 0 0):=rfl
 have t:=zhX i p n a _ gi ha hn hp
 have wo:=fun x K=>zdd x most K (by omega)
 rw [zgh _ _ _ _ _ _ _ _ hi] at t
 unfold tkD
 cases hs:tkS p n a with
 | er e a1=>
  rw [hs] at t
  simp only [Rr.bind,rvS,Rr.at] at t ⊢
  have he:=(zlE hs).2
  have d0:((e:Int)+1 !=0)=true:=by simp;omega
  generalize tG H i p n a1 X B4 (tB s i c (H.length+4) hl)=Hz at *
  refine CallOk.body (F0:=[(0,.ptr (H.length+5) 0 0),(1,.int .i64 pr),(2,.int .i64 (most:Int))]) Tryz.func266 rfl Tryz.ntmps266 Tryz.results266 rfl (by kernel_rfl) rfl ?_
  refine PW.e ?_
  refine PW.f (fun K k=>by simp (disch:=omega) only [go_sem,↓reduceIte,reduceCtorEq,g5,zF,zG,pc8];refine VCx.call (t) rfl ?_;simp (disch:=omega) only [go_sem,↓reduceIte,reduceCtorEq,g5,zF,zG,pc8];exact k) ?_
  refine PW.f (fun K k=>by simp (disch:=omega) only [go_sem,↓reduceIte,reduceCtorEq,d0];exact k) ?_
  refine PW.t ?_
  refine PW.e ?_
  exact PW.ret ⟨_,rfl,Fin.now⟩
 | ok d a1=>
  rw [hs] at t
  have b:=(zec hs ha).1
  simp only [Rr.bind,rvS,Rr.at] at t
  have wd:=fun K=>wo (pr+d) K
  refine CallOk.body (F0:=[(0,.ptr (H.length+5) 0 0),(1,.int .i64 pr),(2,.int .i64 (most:Int))]) Tryz.func266 rfl Tryz.ntmps266 Tryz.results266 rfl (by kernel_rfl) rfl ?_
  refine PW.e ?_
  refine PW.f (fun K k=>by simp (disch:=omega) only [go_sem,↓reduceIte,reduceCtorEq,g5,zF,zG,pc8];refine VCx.call (t) rfl ?_;simp (disch:=omega) only [go_sem,↓reduceIte,reduceCtorEq,g5,zF,zG,pc8];exact k) ?_
  refine PW.e ?_
  refine PW.us ?_
  simp only [Rr.bind]
  cases hw:win (pr+d) most with
  | true=>
   rw [hw] at wd
   (repeat refine PW.seq ?_);refine PW.rg rfl fun K hK=> ?_;simp (disch:=omega) only [go_sem,↓reduceIte,reduceCtorEq]
   refine VCx.call (wd _) rfl ?_;simp (disch:=omega) only [go_sem,↓reduceIte,reduceCtorEq];refine hK _ _ ?_;clear hK K
   refine PW.us ?_
   refine PW.e ?_
   exact PW.ret ⟨_,rfl,Fin.now⟩
  | false=>
   rw [hw] at wd
   (repeat refine PW.seq ?_);refine PW.rg rfl fun K hK=> ?_;simp (disch:=omega) only [go_sem,↓reduceIte,reduceCtorEq]
   refine VCx.call (wd _) rfl ?_;simp (disch:=omega) only [go_sem,↓reduceIte,reduceCtorEq];refine hK _ _ ?_;clear hK K
   refine PW.t ?_
   refine PW.e ?_
   exact PW.ret ⟨_,rfl,Fin.now⟩
end
end Go.Proofs.YtjgmdlcjbgiekaaGreatDoor.Sc
namespace Go.Proofs.YtjgmdlcjbgiekaaGreatDoor.Sc
set_option linter.all false
open Pm Ty Go.RowKit
theorem zpx (m:Mb) (x:Int):(mbc m).set 0 (.int .i64 x)=mbc { m with k:=x }:=rfl
theorem zuh (m:Mb) (x y:Bool):List.take 1 (mbc m)++ .bool x:: .bool y::List.drop 3 (mbc m)=mbc { m with ua:=x,ub:=y }:=rfl
theorem zrP (m:Mb) (b0 b1 b2 b3 b4 b5:Bool):List.take 18 (mbc m)++ .bool b0:: .bool b1:: .bool b2:: .bool b3:: .bool b4:: .bool b5::List.drop 24 (mbc m)=mbc { m with ca:=b0,cb:=b1,cc:=b2,cd:=b3,ce:=b4,cf:=b5 }:=rfl
theorem zaY (m:Mb):(⟨154,0,mbc m⟩:Blk)=mB m:=rfl
theorem zb4 (s:St) (w:Nat) (c:Cx) (mi:Nat) (hl:Bool):(⟨280,0,tC s w c mi hl⟩:Blk)=tB s w c mi hl:=rfl
theorem zs3 (s:St) (w:Nat) (c:Cx) (mi:Nat) (hl b:Bool):(tC s w c mi hl).set 14 (.bool b)=tC s w c mi b:=rfl
theorem zam (s:St) (w:Nat) (c:Cx) (mi:Nat) (hl:Bool):(tC s w c mi hl)[13]? =some (.ptr mi 0 0):=rfl
theorem zcq (s:St) (w:Nat) (c:Cx) (mi:Nat) (hl:Bool):(tC s w c mi hl)[8]? =some (.ptr w 0 0):=rfl
theorem zq8 (s:St) (w:Nat) (c:Cx) (mi:Nat) (hl:Bool):(tC s w c mi hl)[9]? =some (.int .i64 c.t):=rfl
theorem zn9 (s:St) (w:Nat) (c:Cx) (mi:Nat) (hl:Bool):List.take 4 (List.drop 9 (tC s w c mi hl))=cxc c:=rfl
theorem zjg (s:St) (w:Nat) (c:Cx) (mi:Nat) (hl:Bool):(tC s w c mi hl)[14]? =some (.bool hl):=rfl
theorem zad (s:St) (w:Nat) (c:Cx) (mi:Nat) (hl:Bool):(tC s w c mi hl).length=15:=rfl
theorem zsH (H:za):CallOk Tryz.prog 205 [] H (.agg [.bool true,.bool true,.bool true,.bool true,.bool true,.bool true]) H:=by
 refine CallOk.body (F0:=[]) Tryz.func205 rfl Tryz.ntmps205 Tryz.results205 rfl (by kernel_rfl) rfl ?_
 refine PW.e ?_
 refine PW.e ?_
 refine PW.ret ⟨.agg [.bool true,.bool true,.bool true,.bool true,.bool true,.bool true],by simp (disch:=omega) only [go_sem,↓reduceIte,reduceCtorEq,zd,zg,List.mapM_cons,List.mapM_nil,Option.pure_def,Option.bind_eq_bind,Option.bind_some,Array.toList],?_⟩
 exact Fin.base (.id (zB (zhJ _ [true,true,true,true,true,true])))
section
variable (H:za) (i:Nat) (p:List UInt8) (n a:Nat) (X:za) (c:Cx) (s:St) (hl:Bool) (hX:X.length=4)
include hX
theorem zmV (m:Mb) (hml:m.lv.length=384):CallOk Tryz.prog 257 [.ptr (H.length+5) 0 0] (tG H i p n a X (mB m) (tB s i c (H.length+4) hl)) (.tup []) (tG H i p n a X (mB { m with k:=1,ca:=true,cb:=true,cc:=true,cd:=true,ce:=true,cf:=true }) (tB s i c (H.length+4) true)):=by
 have g5:=fun B4 B5=>zhY H i p n a X B4 B5 hX
 have g4:=fun B4 B5=>zjf H i p n a X B4 B5 hX
 have s5:=fun B4 B5 B=>zgi H i p n a X B4 B5 hX B
 have s4:=fun B4 B5 B=>zgj H i p n a X B4 B5 hX B
 have hlen:=zT m hml
 have al:=fun K=>zsH K
 refine CallOk.body (F0:=[(0,.ptr (H.length+5) 0 0)]) Tryz.func257 rfl Tryz.ntmps257 Tryz.results257 rfl (by kernel_rfl) rfl ?_
 refine PW.f (fun K k=>by simp (disch:=omega) only [go_sem,↓reduceIte,reduceCtorEq,g5,g4,s4,s5,zF,zG,zam,zau,zay,zbW,zpx,zaY,hlen];exact k) ?_
 have hlen2:=zT { m with k:=1 } hml
 (repeat refine PW.seq ?_);refine PW.draw mix (by kernel_rfl) fun K hK=> ?_;simp (disch:=omega) only [go_sem,↓reduceIte,reduceCtorEq,g5,g4,s4,s5,zF,zG,zam,zau,zay,zbW,zaY,hlen2]
 refine VCy.callP al rfl ?_;simp (disch:=omega) only [go_sem,↓reduceIte,reduceCtorEq,g5,g4,s4,s5,zF,zG,zam,zau,zay,zbW,zaY,hlen2,zrP,Nat.reduceAdd];refine hK _ _ ?_;clear hK K
 refine PW.f (fun K k=>by simp (disch:=omega) only [go_sem,↓reduceIte,reduceCtorEq,g5,g4,s4,s5,zF,zG,zdZ,zam,zs3,zad,zb4];exact k) ?_
 exact Exists.intro _ (And.intro rfl Fin.now)
end
def ecd:Nat→PV:=fun e=>.int .i64 ((e:Int)+1)
theorem zaG:zl384.length=384:=by unfold zl384;exact List.length_replicate
section
variable (H:za) (i:Nat) (p:List UInt8) (n a:Nat) (X:za) (c:Cx) (s:St) (hi:i<H.length) (hX:X.length=4) (ha:a≤n) (hn:n≤8 * p.length) (hp:p.length≤100000000)
include hi hX ha hn hp
theorem znT:CallOk Tryz.prog 184 [.ptr (H.length+5) 0 0] (tG H i p n a X (mB zMb) (tB s i c (H.length+4) false))
  (match zde c p n a with| .ok _ _=>.int .i64 0| .er e _=>ecd e)
  (match zde c p n a with| .ok x a1=>tG H i p n a1 X (mB x.1) (tB s i c (H.length+4) x.2)| .er _ a1=>tG H i p n a1 X (mB zMb) (tB s i c (H.length+4) false)):=by
 have g5:=fun a B4 B5=>zhY H i p n a X B4 B5 hX
 have g4:=fun a B4 B5=>zjf H i p n a X B4 B5 hX
 have s5:=fun a B4 B5 B=>zgi H i p n a X B4 B5 hX B
 have s4:=fun a B4 B5 B=>zgj H i p n a X B4 B5 hX B
 have ti:=fun a=>zmV H i p n a X c s false hX zMb zaG
 have hzl:=zT zMb zaG
 refine CallOk.body (F0:=[(0,.ptr (H.length+5) 0 0)]) Tryz.func184 rfl Tryz.ntmps184 Tryz.results184 rfl (by kernel_rfl) rfl ?_
 refine PW.e ?_
 by_cases ht1:c.t=1
 ·have q1:(c.t==1)=true:=by simp [ht1]
  refine PW.f (fun K k=>by simp (disch:=omega) only [go_sem,↓reduceIte,reduceCtorEq,g5,zF,zG,zq8,q1];exact k) ?_
  refine PW.t ?_
  refine PW.f (fun K k=>by simp (disch:=omega) only [go_sem,↓reduceIte,reduceCtorEq];refine VCx.call (ti _) rfl ?_;simp (disch:=omega) only [go_sem,↓reduceIte,reduceCtorEq];exact k) ?_
  refine PW.e ?_
  refine PW.ret ⟨_,rfl,?_⟩
  have hk:zde c p n a= .ok (zfE,true) a:=by unfold zde;rw [if_pos ht1]
  rw [hk]
  exact Fin.now
 have q1:(c.t==1)=false:=by simp [ht1]
 have tu:=zhW i p n a _ (zkr H i p n a X (mB zMb) (tB s i c (H.length+4) false) hi) ha hn hp
 rw [zgh _ _ _ _ _ _ _ _ hi] at tu
 have hk:zde c p n a=(tkU p n a).bind fun v a1=>if (if c.t=2 then 3 else 7)<v then .er 2 a1 else if v=(if c.t=2 then 3 else 7) then .ok (zfE,true) a1 else if v=0 then .ok (zMb,false) a1 else .ok (zwe v,decide (v%2=0)) a1:=by unfold zde;rw [if_neg ht1]
 refine PW.f (fun K k=>by simp (disch:=omega) only [go_sem,↓reduceIte,reduceCtorEq,g5,zF,zG,zq8,q1];exact k) ?_
 refine PW.us ?_
 cases hu:tkU p n a with
 | er e a1=>
  rw [hu] at tu hk
  rw [hk]
  simp only [rvU,Rr.at,Rr.bind] at tu ⊢
  have d0:((e:Int)+1 !=0)=true:=by simp;omega
  have he:=(zjd hu).2
  refine PW.f (fun K k=>by simp (disch:=omega) only [go_sem,↓reduceIte,reduceCtorEq,g5,zF,zG,zcq];refine VCx.call (tu) rfl ?_;simp (disch:=omega) only [go_sem,↓reduceIte,reduceCtorEq,g5,zF,zG,zcq];exact k) ?_
  refine PW.f (fun K k=>by simp (disch:=omega) only [go_sem,↓reduceIte,reduceCtorEq,d0];exact k) ?_
  refine PW.t ?_
  refine PW.e ?_
  exact PW.ret ⟨_,rfl,Fin.now⟩
 | ok v a1=>
  have hb:=zeb hu ha
  rw [hu] at tu hk
  rw [hk]
  simp only [rvU,Rr.at,Rr.bind] at tu ⊢
  clear hk hu
  refine PW.f (fun K k=>by simp (disch:=omega) only [go_sem,↓reduceIte,reduceCtorEq,g5,zF,zG,zcq];refine VCx.call (tu) rfl ?_;simp (disch:=omega) only [go_sem,↓reduceIte,reduceCtorEq,g5,zF,zG,zcq];exact k) ?_
  refine PW.e ?_
  refine PW.us ?_
  refine PW.e ?_
  refine PW.to [0,3,5] [(0,.ptr (H.length+5) 0 0),(3,.int .i64 (v:Int)),(5,.int .i64 ((if c.t=2 then 3 else 7:Nat):Int))] (tG H i p n a1 X (mB zMb) (tB s i c (H.length+4) false)) ?_ ?_
  ·by_cases ht2:c.t=2
   ·have q2:(c.t==2)=true:=by simp [ht2]
    rw [if_pos ht2]
    refine PW.f (fun K k=>by simp (disch:=omega) only [go_sem,↓reduceIte,reduceCtorEq,g5,zF,zG,zq8,q2];exact k) ?_
    refine PW.t ?_
    refine PW.e ?_
    exact ⟨rfl,rfl⟩
   ·have q2:(c.t==2)=false:=by simp [ht2]
    rw [if_neg ht2]
    refine PW.f (fun K k=>by simp (disch:=omega) only [go_sem,↓reduceIte,reduceCtorEq,g5,zF,zG,zq8,q2];exact k) ?_
    refine PW.u ?_
    exact PW.skip ⟨rfl,rfl⟩
  have hL:(if c.t=2 then 3 else 7:Nat)≤7:=by split<;>omega
  have hL0:3≤(if c.t=2 then 3 else 7:Nat):=by split<;>omega
  generalize (if c.t=2 then 3 else 7:Nat)=last at *
  (repeat refine PW.seq ?_);refine PW.block ?_
  by_cases h1:last<v
  ·have d1:decide ((last:Int)<(v:Int))=true:=decide_eq_true (by omega)
   rw [if_pos h1]
   refine PW.f (fun K k=>by simp (disch:=omega) only [go_sem,↓reduceIte,reduceCtorEq,d1];exact k) ?_
   refine PW.t ?_
   refine PW.e ?_
   exact PW.ret ⟨_,rfl,Fin.now⟩
  have d1:decide ((last:Int)<(v:Int))=false:=decide_eq_false (by omega)
  rw [if_neg h1]
  refine PW.f (fun K k=>by simp (disch:=omega) only [go_sem,↓reduceIte,reduceCtorEq,d1];exact k) ?_
  refine PW.u ?_
  by_cases h2:v=last
  ·have d2:((v:Int)==(last:Int))=true:=by simp [h2]
   rw [if_pos h2]
   refine PW.f (fun K k=>by simp (disch:=omega) only [go_sem,↓reduceIte,reduceCtorEq,d2];exact k) ?_
   refine PW.t ?_
   refine PW.f (fun K k=>by simp (disch:=omega) only [go_sem,↓reduceIte,reduceCtorEq];refine VCx.call (ti _) rfl ?_;simp (disch:=omega) only [go_sem,↓reduceIte,reduceCtorEq];exact k) ?_
   refine PW.e ?_
   exact PW.ret ⟨_,rfl,Fin.now⟩
  have d2:((v:Int)==(last:Int))=false:=by rw [beq_eq_false_iff_ne];omega
  rw [if_neg h2]
  refine PW.f (fun K k=>by simp (disch:=omega) only [go_sem,↓reduceIte,reduceCtorEq,d2];exact k) ?_
  refine PW.u ?_
  by_cases h3:v=0
  ·have d3:decide ((0:Int)<(v:Int))=false:=decide_eq_false (by omega)
   rw [if_pos h3]
   refine PW.f (fun K k=>by simp (disch:=omega) only [go_sem,↓reduceIte,reduceCtorEq,d3];exact k) ?_
   refine PW.us ?_
   refine PW.e ?_
   exact PW.ret ⟨_,rfl,Fin.now⟩
  have d3:decide ((0:Int)<(v:Int))=true:=decide_eq_true (by omega)
  rw [if_neg h3]
  refine PW.f (fun K k=>by simp (disch:=omega) only [go_sem,↓reduceIte,reduceCtorEq,d3];exact k) ?_
  refine PW.t ?_
  have hv7:v<7:=by omega
  have h6:v=1∨v=2∨v=3∨v=4∨v=5∨v=6:=by omega
  have hm6:mbc { zMb with k:=2 }=mbc { zMb with k:=2 }:=rfl
  have hzl2:=zT { zMb with k:=2 } zaG
  clear h1 h2 h3 d1 d2 d3 hb hL hL0 tu
  refine PW.f (fun K k=>by simp (disch:=omega) only [go_sem,↓reduceIte,reduceCtorEq,g5,g4,s4,s5,zF,zG,zam,zau,zay,zbW,zpx,zaY,hzl];exact k) ?_
  rcases h6 with rfl|rfl|rfl|rfl|rfl|rfl
  all_goals
   refine PW.f (fun K k=>by simp (disch:=omega) only [go_sem,↓reduceIte,reduceCtorEq,g5,g4,s4,s5,zF,zG,zam,zau,zay,zbW,zuh,zaY,hzl2,Nat.reduceAdd];exact k) ?_
   refine PW.f (fun K k=>by simp (disch:=omega) only [go_sem,↓reduceIte,reduceCtorEq,g5,s5,zF,zG,zdZ,zs3,zad,zb4];exact k) ?_
   refine PW.e ?_
   exact PW.ret ⟨_,rfl,Fin.now⟩
end
end Go.Proofs.YtjgmdlcjbgiekaaGreatDoor.Sc
