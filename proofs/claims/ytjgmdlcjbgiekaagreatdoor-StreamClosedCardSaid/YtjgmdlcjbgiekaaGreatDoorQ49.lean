/-
  Parts of the proof, put together in one text. No condition.
-/
import Derived.Test.YtjgmdlcjbgiekaaGreatDoorQ48
import Derived.LaidMore
import Derived.MakeChecks
import Derived.LaidHandle
import Derived.FnData
namespace Go.Proofs.YtjgmdlcjbgiekaaGreatDoor.Sc
set_option linter.all false
open Pm Ty Go.RowKit
theorem znL {xs ys:List PV} {n:Nat} {f:Bool} (h:Wkns xs ys) (hc:ys.all PV.cell=true):Wkn (.slice xs n f) (.slice ys n false):=fun C u hu=>by
 cases hu with
 | slice hl hM _ hR hcap hmax _=>
  refine .slice (hl.trans h.1) hM (fun x hx=>List.all_eq_true.1 hc x hx) (fun j y u hy hu=> ?_) hcap hmax (fun e=>by cases e)
  have hj:j<xs.length:=by have:=(List.getElem?_eq_some_iff.1 hy).1;have:=h.1;omega
  exact h.2 j _ y (List.getElem?_eq_getElem hj) hy C u (hR j _ u (List.getElem?_eq_getElem hj) hu)
 | sliceN ad full=>
  have:=h.1
  have:ys=[]:=List.length_eq_zero_iff.1 this.symm
  subst this
  exact .sliceN ad false
def pz0:Pi:=⟨0,0,0,false,false,false⟩
def hd1 (s:Sq):It:=⟨1,s,false,false,0,pz0,[],[],0⟩
def hd2 (t:Int):It:=⟨2,sq0,true,false,t,pz0,[],[],0⟩
def hdz (s:Sq) (k:Int) (c:Bool) (t:Int):List PV:=.int .i64 k::(sqc s++[.bool c,.bool false,.int .i64 t,.int .i64 0,.int .i64 0,.int .i64 0,.bool false,.bool false,.bool false,.slice [] 0 true,.slice [] 0 true,.int .i64 0])
theorem zpV (s:Sq) (k:Int) (c:Bool) (t:Int):Wkns (hdz s k c t) (itc ⟨k,s,c,false,t,pz0,[],[],0⟩):=by
 refine .cons (.refl _) ((Wkns.refl _).append ?_)
 refine .cons (.refl _) (.cons (.refl _) (.cons (.refl _) (.cons (.refl _) (.cons (.refl _) (.cons (.refl _) (.cons (.refl _) (.cons (.refl _) (.cons (.refl _) (.cons ?_ (.cons ?_ (.cons (.refl _) .nil)))))))))))
 ·exact .slF _ _ _
 ·exact .slF _ _ _
theorem ziB (s:Sq) (h:SqOk s) (k:Int) (c:Bool) (t:Int):(hdz s k c t).length=148:=by
 simp only [hdz,List.length_cons,List.length_append,zlK s h,List.length_nil]
theorem zjV (s:Sq) (k:Int) (c:Bool) (t:Int):(hdz s k c t).all PV.cell=true:=by
 simp [hdz,zb5,PV.cell]
theorem zfR (l:List It):(itL l).all PV.cell=true:=by
 rw [List.all_eq_true]
 intro x hx
 obtain ⟨u,_,hx⟩:=List.mem_flatMap.1 hx
 exact List.all_eq_true.1 (zpP u) x hx
theorem zkv:SqOk sq0:=⟨by decide,by decide,by decide,by decide,by decide,by decide,rfl,rfl⟩
theorem zuX {L:List It} {p:Nat} (hp:p<(za5 L).length):0≤(za5 L)[p].f∧(za5 L)[p].f<L.length∧0≤(za5 L)[p].l∧(za5 L)[p].l<L.length:=by
 obtain ⟨j,e,he,_,e1,e2,_⟩:=zqm L hp
 obtain ⟨a1,a2,a3,_⟩:=zlh he
 rw [e1,e2]
 omega
set_option maxHeartbeats 8000000 in
set_option maxRecDepth 100000 in
theorem zk2 (B A:List It) (s:Sq) (tm:Int) (f1 f2:Bool) (H:za) (hB:∀ x∈B,ItOk x) (hA:∀ x∈A,ItOk x) (hs:SqOk s) (ht:zhl tm):CallOk Tryz.prog 6 [.slice (itL B) B.length f1,.slice (itL A) A.length f2,.agg (sqc s),.int .i64 tm] H (.bool true) H:=by
 have sB:∀ x∈B,SqOk x.s:=fun x hx=>(hB x hx).s
 have sA:∀ x∈A,SqOk x.s:=fun x hx=>(hA x hx).s
 have l1:=fun K=>zmd B f1 K sB
 have l2:=fun K=>zmd A f2 K sA
 have vq:=fun K=>znM s K hs
 have h1:=za8 s
 have h2:=zbs s hs
 have h3:=zdf s hs
 have lnB:=zcU B sB
 have lnA:=zcU A sA
 refine CallOk.body (F0:=[(0,.slice (itL B) B.length f1),(1,.slice (itL A) A.length f2),(2,.agg (sqc s)),(3,.int .i64 tm)]) Tryz.func6 rfl Tryz.ntmps6 Tryz.results6 rfl (by kernel_rfl) rfl ?_
 refine PW.f (fun K k=>by simp (maxSteps:=3000000) (disch:=omega) only [go_sem,↓reduceIte,reduceCtorEq,h1];exact k) ?_
 cases h01:ltB B with
 | false=>
  rw [h01] at l1
  refine PW.f (fun K k=>by simp (maxSteps:=3000000) (disch:=omega) only [go_sem,↓reduceIte,reduceCtorEq];refine VCx.call (l1 _) rfl ?_;simp (maxSteps:=3000000) (disch:=omega) only [go_sem,↓reduceIte,reduceCtorEq];exact k) ?_
  refine PW.t ?_
  refine PW.f (fun K k=>by simp (maxSteps:=3000000) (disch:=omega) only [go_sem,↓reduceIte,reduceCtorEq];refine VCx.call (zkc _) rfl ?_;simp (maxSteps:=3000000) (disch:=omega) only [go_sem,↓reduceIte,reduceCtorEq];exact k) ?_
  (refine PW.ret ⟨_,rfl,?_⟩;first|refine .inl ⟨?_,rfl⟩|refine Fin.base (.id' ?_ (.bool _))|refine Fin.base (.id' ?_ (.int _ _)))
  rfl
 | true=>
 rw [h01] at l1
 cases h02:ltB A with
 | false=>
  rw [h02] at l2
  refine PW.f (fun K k=>by simp (maxSteps:=3000000) (disch:=omega) only [go_sem,↓reduceIte,reduceCtorEq];refine VCx.call (l1 _) rfl ?_;simp (maxSteps:=3000000) (disch:=omega) only [go_sem,↓reduceIte,reduceCtorEq];refine VCx.call (l2 _) rfl ?_;simp (maxSteps:=3000000) (disch:=omega) only [go_sem,↓reduceIte,reduceCtorEq];exact k) ?_
  refine PW.t ?_
  refine PW.f (fun K k=>by simp (maxSteps:=3000000) (disch:=omega) only [go_sem,↓reduceIte,reduceCtorEq];refine VCx.call (zkc _) rfl ?_;simp (maxSteps:=3000000) (disch:=omega) only [go_sem,↓reduceIte,reduceCtorEq];exact k) ?_
  (refine PW.ret ⟨_,rfl,?_⟩;first|refine .inl ⟨?_,rfl⟩|refine Fin.base (.id' ?_ (.bool _))|refine Fin.base (.id' ?_ (.int _ _)))
  rfl
 | true=>
 rw [h02] at l2
 have hb60:=zwr h01
 have ha60:=zwr h02
 by_cases h03:40<B.length+A.length
 ·have d1:decide ((40:Int)<(B.length:Int)+(A.length:Int))=true:=decide_eq_true (by omega)
  refine PW.f (fun K k=>by simp (maxSteps:=3000000) (disch:=omega) only [go_sem,↓reduceIte,reduceCtorEq];refine VCx.call (l1 _) rfl ?_;simp (maxSteps:=3000000) (disch:=omega) only [go_sem,↓reduceIte,reduceCtorEq];refine VCx.call (l2 _) rfl ?_;simp (maxSteps:=3000000) (disch:=omega) only [go_sem,↓reduceIte,reduceCtorEq,d1];exact k) ?_
  refine PW.t ?_
  refine PW.f (fun K k=>by simp (maxSteps:=3000000) (disch:=omega) only [go_sem,↓reduceIte,reduceCtorEq];refine VCx.call (zkc _) rfl ?_;simp (maxSteps:=3000000) (disch:=omega) only [go_sem,↓reduceIte,reduceCtorEq];exact k) ?_
  (refine PW.ret ⟨_,rfl,?_⟩;first|refine .inl ⟨?_,rfl⟩|refine Fin.base (.id' ?_ (.bool _))|refine Fin.base (.id' ?_ (.int _ _)))
  rfl
 have d1:decide ((40:Int)<(B.length:Int)+(A.length:Int))=false:=decide_eq_false (by omega)
 cases h04:zbM s with
 | false=>
  rw [h04] at vq
  refine PW.f (fun K k=>by simp (maxSteps:=3000000) (disch:=omega) only [go_sem,↓reduceIte,reduceCtorEq];refine VCx.call (l1 _) rfl ?_;simp (maxSteps:=3000000) (disch:=omega) only [go_sem,↓reduceIte,reduceCtorEq];refine VCx.call (l2 _) rfl ?_;simp (maxSteps:=3000000) (disch:=omega) only [go_sem,↓reduceIte,reduceCtorEq,d1,h2,h3];refine VCx.call (vq _) rfl ?_;simp (maxSteps:=3000000) (disch:=omega) only [go_sem,↓reduceIte,reduceCtorEq];exact k) ?_
  refine PW.t ?_
  refine PW.f (fun K k=>by simp (maxSteps:=3000000) (disch:=omega) only [go_sem,↓reduceIte,reduceCtorEq];refine VCx.call (zkc _) rfl ?_;simp (maxSteps:=3000000) (disch:=omega) only [go_sem,↓reduceIte,reduceCtorEq];exact k) ?_
  (refine PW.ret ⟨_,rfl,?_⟩;first|refine .inl ⟨?_,rfl⟩|refine Fin.base (.id' ?_ (.bool _))|refine Fin.base (.id' ?_ (.int _ _)))
  rfl
 | true=>
 rw [h04] at vq
 refine PW.f (fun K k=>by simp (maxSteps:=3000000) (disch:=omega) only [go_sem,↓reduceIte,reduceCtorEq];refine VCx.call (l1 _) rfl ?_;simp (maxSteps:=3000000) (disch:=omega) only [go_sem,↓reduceIte,reduceCtorEq];refine VCx.call (l2 _) rfl ?_;simp (maxSteps:=3000000) (disch:=omega) only [go_sem,↓reduceIte,reduceCtorEq,d1,h2,h3];refine VCx.call (vq _) rfl ?_;simp (maxSteps:=3000000) (disch:=omega) only [go_sem,↓reduceIte,reduceCtorEq];exact k) ?_
 refine PW.us ?_
 clear l1 l2 vq d1
 have hl1:=ziB s hs 1 false 0
 have hc1:=zjV s 1 false 0
 have hw1:=zpV s 1 false 0
 have hl2:=ziB sq0 zkv 2 true tm
 have hc2:=zjV sq0 2 true tm
 have hw2:=zpV sq0 2 true tm
 obtain ⟨Z1,hZ1⟩:∃ Z:List PV,Z=hdz s 1 false 0:=⟨_,rfl⟩
 obtain ⟨Z2,hZ2⟩:∃ Z:List PV,Z=hdz sq0 2 true tm:=⟨_,rfl⟩
 rw [←hZ1] at hl1 hc1 hw1
 rw [←hZ2] at hl2 hc2 hw2
 unfold hdz at hZ1 hZ2
 have z8:((0:UInt8).toNat:Int)=0:=rfl
 have hl0:=ziB sq0 zkv 0 false 0
 obtain ⟨Z0,hZ0⟩:∃ Z:List PV,Z=hdz sq0 0 false 0:=⟨_,rfl⟩
 rw [←hZ0] at hl0
 unfold hdz at hZ0
 simp only [sqc,sq0,bs,List.replicate_succ,List.replicate_zero,List.map_cons,List.map_nil,List.cons_append,List.nil_append] at hZ0
 simp only [z8] at hZ0
 have k1:List.drop 148 (Z0++Z0)=Z0:=List.drop_left' hl0
 have k2:List.take 148 (Z1++Z0)=Z1:=List.take_left' hl1
 have k3:List.drop (148+148) (Z1++Z0)=[]:=List.drop_of_length_le (by rw [List.length_append];omega)
 have y2:List.drop (1+134) (List.drop 1 Z0)=[.bool false,.bool false,.int .i64 0,.int .i64 0,.int .i64 0,.int .i64 0,.bool false,.bool false,.bool false,.slice [] 0 true,.slice [] 0 true,.int .i64 0]:=by rw [hZ0];rfl
 have y3:(List.drop 1 Z0).length=147:=by rw [List.length_drop,hl0]
 have y4:List.take 135 (List.drop 1 Z0)=sqc sq0:=by rw [hZ0];rfl
 have y5:List.drop (136+2) (List.drop 1 Z0)=[.int .i64 0,.int .i64 0,.int .i64 0,.bool false,.bool false,.bool false,.slice [] 0 true,.slice [] 0 true,.int .i64 0]:=by rw [hZ0];rfl
 have y6:(Z0++Z0).length=296:=by rw [List.length_append,hl0]
 have y7:(Z1++Z0).length=296:=by rw [List.length_append,hl0,hl1]
 (repeat refine PW.seq ?_);refine PW.rg rfl fun K hK=> ?_;simp (maxSteps:=3000000) (disch:=omega) only [go_sem,↓reduceIte,reduceCtorEq,h1,h2,h3,←hZ1,←hZ2,←hZ0,hl1,hl2,hl0,hc1,hc2,k1,k2,k3,y2,y3,y4,y5,y6,y7]
 refine hK _ _ ?_;clear hK K
 have e9:(Z1++Z2).length=296:=by rw [List.length_append,hl1,hl2]
 have c9:(Z1++Z2).all PV.cell=true:=by rw [List.all_append,hc1,hc2];rfl
 have w9:∀ X:List PV,Wkns (Z1++Z2++X) (itc (hd1 s)++(itc (hd2 tm)++X)):=fun X=>by
  rw [List.append_assoc]
  exact hw1.append (hw2.append (.refl X))
 clear hl1 hl2 hl0 hc1 hc2 hw1 hw2 hZ1 hZ2 hZ0 k1 k2 k3 y2 y3 y4 y5 y6 y7
 obtain ⟨Z,hZ⟩:∃ Z:List PV,Z=Z1++Z2:=⟨_,rfl⟩
 rw [←hZ] at e9 c9 w9
 refine PW.at [0,1,9] (?_:PW _ _ _ [(0,.slice (itL B) B.length f1),(1,.slice (itL A) A.length f2),(9,.slice Z 2 true)] (H++[⟨29,0,sqc s⟩]) _) (by rw [hZ];rfl) rfl
 clear hZ
 have hcA:∀ x∈A,CdOk (zdv x):=zj9 hA h02
 have hT:∀ x∈hd1 s::hd2 tm::A,SqOk x.s:=fun x hx=>by
  rcases List.mem_cons.1 hx with rfl|hx
  ·exact hs
  rcases List.mem_cons.1 hx with rfl|hx
  ·exact zkv
  ·exact sA x hx
 have hTc:∀ x∈hd1 s::hd2 tm::A,CdOk (zdv x):=fun x hx=>by
  rcases List.mem_cons.1 hx with rfl|hx
  ·exact ⟨by show (0:Nat)≤_;omega,fun u hu=>by cases hu⟩
  rcases List.mem_cons.1 hx with rfl|hx
  ·exact ⟨by show (0:Nat)≤_;omega,fun u hu=>by cases hu⟩
  ·exact hcA x hx
 have itT:itL (hd1 s::hd2 tm::A)=itc (hd1 s)++(itc (hd2 tm)++itL A):=rfl
 have hTl:(hd1 s::hd2 tm::A).length=2+A.length:=by simp only [List.length_cons];omega
 have g0:=fun K=>zdu (hd1 s::hd2 tm::A) false hT hTc (by omega) K
 rw [hTl] at g0
 have g1:=fun K=>(g0 K).wk (args:=[.slice (Z++itL A) (2+A.length) false]) (.cons (znL (by rw [itT];exact w9 _) (zfR _)) .nil)
 have cA:=zfR A
 have hZA:(Z++itL A).length=296+A.length * 148:=by rw [List.length_append,e9,lnA]
 have hb1:∀ (k:Nat) (h:k<(za5 (hd1 s::hd2 tm::A)).length),0≤(za5 (hd1 s::hd2 tm::A))[k].f∧(za5 (hd1 s::hd2 tm::A))[k].f<62∧0≤(za5 (hd1 s::hd2 tm::A))[k].l∧(za5 (hd1 s::hd2 tm::A))[k].l<62:=fun k h=>by
  have:=zuX h
  omega
 have hD1:(za5 (hd1 s::hd2 tm::A)).length≤100:=by rw [zcd];have:=zkt hT;omega
 have hcl:za5 (B++hd1 s::hd2 tm::A)=za5 B++(za5 (hd1 s::hd2 tm::A)).map (shS B.length):=zj6 (s:=s) ⟨rfl,rfl,h04,rfl,rfl⟩ B A
 generalize za5 (hd1 s::hd2 tm::A)=D1 at *
 suffices hm:PW Tryz.prog _ _ [(0,.slice (itL B) B.length f1),(1,.slice (itL A) A.length f2),(9,.slice Z 2 true),(10,.slice (shL D1) D1.length false)] (H++[⟨29,0,sqc s⟩,⟨43,296+A.length * 148+1,[]⟩]) _ by
  by_cases hA0:A.length=0
  ·have hA1:A=[]:=List.length_eq_zero_iff.1 hA0
   subst hA1
   have g2:=fun K=>g1 K
   rw [show itL []=[] from rfl,List.append_nil] at g2
   (repeat refine PW.seq ?_);refine PW.rg rfl fun K hK=> ?_;simp (maxSteps:=3000000) (disch:=omega) only [go_sem,↓reduceIte,reduceCtorEq,e9,c9]
   refine VCx.call (CallOk.frz1 (args:=[.msl (H.length+1) 296 0 2 148 true]) (args':=[.slice Z 2 false]) (id:=H.length+1) (k:=⟨43,296,Z⟩) (apn _ _ 1) (g2 _) ⟨.inr ⟨2,148,true,rfl,by rw [e9],rfl⟩,trivial⟩) rfl ?_
   simp (maxSteps:=3000000) (disch:=omega) only [go_sem,↓reduceIte,reduceCtorEq];refine hK _ _ ?_;clear hK K
   exact PW.at [0,1,9,10] hm rfl rfl
  ·(repeat refine PW.seq ?_);refine PW.rg rfl fun K hK=> ?_;simp (maxSteps:=3000000) (disch:=omega) only [go_sem,↓reduceIte,reduceCtorEq,e9,c9,cA,hA0,lnA]
   refine VCx.call (CallOk.frz1 (args:=[.msl (H.length+1) (Z++itL A).length 0 (2+A.length) 148 true]) (args':=[.slice (Z++itL A) (2+A.length) false]) (id:=H.length+1) (k:=⟨43,(Z++itL A).length,Z++itL A⟩) (apn _ _ 1) (g1 _) ⟨.inr ⟨2+A.length,148,true,rfl,by rw [hZA,Nat.add_mul],rfl⟩,trivial⟩) rfl ?_
   simp (maxSteps:=3000000) (disch:=omega) only [go_sem,↓reduceIte,reduceCtorEq,hZA];refine hK _ _ ?_;clear hK K
   exact PW.at [0,1,9,10] hm rfl rfl
 have hcB:∀ x∈B,CdOk (zdv x):=zj9 hB h01
 have k1:=fun K=>zdu B f1 sB hcB (by omega) K
 have hDB:(za5 B).length≤60:=by rw [zcd];have:=zkt sB;omega
 generalize hD2:za5 B=D2 at *
 refine PW.f (fun K k=>by simp (maxSteps:=3000000) (disch:=omega) only [go_sem,↓reduceIte,reduceCtorEq];refine VCx.call (k1 _) rfl ?_;simp (maxSteps:=3000000) (disch:=omega) only [go_sem,↓reduceIte,reduceCtorEq];exact k) ?_
 clear k1 g0 g1
 have hLl:(B++hd1 s::hd2 tm::A).length=B.length+2+A.length:=by simp only [List.length_append,List.length_cons];omega
 have g0:=fun K=>zdu (B++hd1 s::hd2 tm::A) false (fun x hx=>by
  rcases List.mem_append.1 hx with hx|hx
  ·exact sB x hx
  ·exact hT x hx) (fun x hx=>by
  rcases List.mem_append.1 hx with hx|hx
  ·exact hcB x hx
  ·exact hTc x hx) (by omega) K
 rw [hLl] at g0
 have itL3:itL (B++hd1 s::hd2 tm::A)=itL B++(itc (hd1 s)++(itc (hd2 tm)++itL A)):=by unfold itL;rw [List.flatMap_append];rfl
 have g1:=fun K=>(g0 K).wk (args:=[.slice (itL B++Z++itL A) (B.length+2+A.length) false]) (.cons (znL (by rw [itL3,List.append_assoc];exact (Wkns.refl _).append (w9 _)) (zfR _)) .nil)
 have cB:=zfR B
 have hZ3:(itL B++Z++itL A).length=B.length * 148+296+A.length * 148:=by rw [List.length_append,List.length_append,e9,lnA,lnB]
 have hZ2:(itL B++Z).length=B.length * 148+296:=by rw [List.length_append,e9,lnB]
 clear g0
 generalize za5 (B++hd1 s::hd2 tm::A)=D3 at *
 suffices hm:PW Tryz.prog _ _ [(0,.slice (itL B) B.length f1),(10,.slice (shL D1) D1.length false),(11,.slice (shL D2) D2.length false),(12,.slice (shL D3) D3.length false)] (H++[⟨29,0,sqc s⟩,⟨43,296+A.length * 148+1,[]⟩,⟨43,B.length * 148+296+A.length * 148+1,[]⟩]) _ by
  by_cases hB0:B.length=0
  ·have hB1:B=[]:=List.length_eq_zero_iff.1 hB0
   subst hB1
   rw [show itL []=[] from rfl,List.nil_append] at g1
   by_cases hA0:A.length=0
   ·have hA1:A=[]:=List.length_eq_zero_iff.1 hA0
    subst hA1
    rw [show itL []=[] from rfl,List.append_nil] at g1
    (repeat refine PW.seq ?_);refine PW.rg rfl fun K hK=> ?_;simp (maxSteps:=3000000) (disch:=omega) only [go_sem,↓reduceIte,reduceCtorEq,e9,c9]
    refine VCx.call (CallOk.frz1 (args:=[.msl (H.length+2) 296 0 2 148 true]) (args':=[.slice Z 2 false]) (id:=H.length+2) (k:=⟨43,296,Z⟩) (apn _ _ 2) (g1 _) ⟨.inr ⟨2,148,true,rfl,by rw [e9],rfl⟩,trivial⟩) rfl ?_
    simp (maxSteps:=3000000) (disch:=omega) only [go_sem,↓reduceIte,reduceCtorEq];refine hK _ _ ?_;clear hK K
    exact PW.at [0,10,11,12] hm rfl rfl
   ·(repeat refine PW.seq ?_);refine PW.rg rfl fun K hK=> ?_;simp (maxSteps:=3000000) (disch:=omega) only [go_sem,↓reduceIte,reduceCtorEq,e9,c9,cA,hA0,lnA]
    simp only [List.length_nil,Nat.zero_add] at g1
    have hZA:(Z++itL A).length=296+A.length * 148:=by rw [List.length_append,e9,lnA]
    refine VCx.call (CallOk.frz1 (args:=[.msl (H.length+2) (Z++itL A).length 0 (2+A.length) 148 true]) (args':=[.slice (Z++itL A) (2+A.length) false]) (id:=H.length+2) (k:=⟨43,(Z++itL A).length,Z++itL A⟩) (apn _ _ 2) (g1 _) ⟨.inr ⟨2+A.length,148,true,rfl,by rw [hZA,Nat.add_mul],rfl⟩,trivial⟩) rfl ?_
    simp (maxSteps:=3000000) (disch:=omega) only [go_sem,↓reduceIte,reduceCtorEq,hZA];refine hK _ _ ?_;clear hK K
    exact PW.at [0,10,11,12] hm rfl (by simp)
  ·by_cases hA0:A.length=0
   ·have hA1:A=[]:=List.length_eq_zero_iff.1 hA0
    subst hA1
    rw [show itL []=[] from rfl,List.append_nil] at g1
    (repeat refine PW.seq ?_);refine PW.rg rfl fun K hK=> ?_;simp (maxSteps:=3000000) (disch:=omega) only [go_sem,↓reduceIte,reduceCtorEq,e9,c9,cB,hB0,lnB]
    refine VCx.call (CallOk.frz1 (args:=[.msl (H.length+2) (itL B++Z).length 0 (B.length+2) 148 true]) (args':=[.slice (itL B++Z) (B.length+2) false]) (id:=H.length+2) (k:=⟨43,(itL B++Z).length,itL B++Z⟩) (apn _ _ 2) (g1 _) ⟨.inr ⟨B.length+2,148,true,rfl,by rw [hZ2,Nat.add_mul],rfl⟩,trivial⟩) rfl ?_
    simp (maxSteps:=3000000) (disch:=omega) only [go_sem,↓reduceIte,reduceCtorEq,hZ2];refine hK _ _ ?_;clear hK K
    exact PW.at [0,10,11,12] hm rfl (by simp)
   ·(repeat refine PW.seq ?_);refine PW.rg rfl fun K hK=> ?_;simp (maxSteps:=3000000) (disch:=omega) only [go_sem,↓reduceIte,reduceCtorEq,e9,c9,cA,cB,hA0,hB0,lnA,lnB,hZ2]
    rw [List.append_assoc] at g1 hZ3
    refine VCx.call (CallOk.frz1 (args:=[.msl (H.length+2) (itL B++(Z++itL A)).length 0 (B.length+2+A.length) 148 true]) (args':=[.slice (itL B++(Z++itL A)) (B.length+2+A.length) false]) (id:=H.length+2) (k:=⟨43,(itL B++(Z++itL A)).length,itL B++(Z++itL A)⟩) (apn _ _ 2) (g1 _) ⟨.inr ⟨B.length+2+A.length,148,true,rfl,by rw [hZ3];omega,rfl⟩,trivial⟩) rfl ?_
    simp (maxSteps:=3000000) (disch:=omega) only [go_sem,↓reduceIte,reduceCtorEq,hZ3];refine hK _ _ ?_;clear hK K
    exact PW.at [0,10,11,12] hm rfl (by simp)
 have hD3:D3.length=D2.length+D1.length:=by rw [hcl];simp
 refine PW.view (Vs.trim (F1:=[(0,.slice (itL B) B.length f1),(10,.slice (shL D1) D1.length false),(11,.slice (shL D2) D2.length false),(12,.slice (shL D3) D3.length false)]) (H1:=H) (fun h=>h) (Nat.le_refl _) rfl ?_) ?_
 ·exact ⟨.id (zo (ze9 _ _)),.id (zo (zdg _ _)),.id (zo (zdg _ _)),.id (zo (zdg _ _)),trivial⟩
 have dn:((D3.length:Int) !=(D2.length:Int)+(D1.length:Int))=false:=by
  rw [hD3];simp
 refine PW.f (fun K k=>by simp (maxSteps:=3000000) (disch:=omega) only [go_sem,↓reduceIte,reduceCtorEq,dn];exact k) ?_
 refine PW.us ?_
 refine PW.e ?_
 (repeat refine PW.seq ?_);refine PW.block (PW.loop ?_)
 suffices hl:∀ j:Nat,j≤D3.length→PL Tryz.prog _ _ [(0,.slice (itL B) B.length f1),(10,.slice (shL D1) D1.length false),(11,.slice (shL D2) D2.length false),(12,.slice (shL D3) D3.length false),(13,.int .i64 (j:Int))] H _ by
  exact PL.at [0,10,11,12,13] (hl 0 (by omega)) rfl rfl
 have ln1:=zdC D1
 have ln2:=zdC D2
 have ln3:=zdC D3
 refine cnt D3.length (fun j hj ih=> ?_) ?_
 ·have ct:=zhk hj
  have ea:=zh1 D3 j hj
  refine PL.round ?_;refine PW.f (fun K k=>by simp (maxSteps:=3000000) (disch:=omega) only [go_sem,↓reduceIte,reduceCtorEq,ct];exact k) ?_;refine PW.t ?_
  refine PW.skip ?_;(repeat refine PW.seq ?_);refine PW.block ?_
  by_cases hj2:j<D2.length
  ·have ct2:=zhk hj2
   have eb:=zh1 D2 j hj2
   have e3:D3[j]=D2[j]:=by simp only [hcl];rw [List.getElem_append_left hj2]
   rw [e3] at ea
   generalize D2[j]=x at *
   have ss:=fun K=>zhx x K
   refine PW.f (fun K k=>by simp (maxSteps:=3000000) (disch:=omega) only [go_sem,↓reduceIte,reduceCtorEq,ct2];exact k) ?_
   refine PW.t ?_
   (repeat refine PW.seq ?_);refine PW.drawg mix (by kernel_rfl) fun K hK=> ?_;simp (maxSteps:=3000000) (disch:=omega) only [go_sem,↓reduceIte,reduceCtorEq,ln3,ea,ln2,eb]
   refine VCz.call (fun _=>ss _) rfl ?_
   simp (maxSteps:=3000000) (disch:=omega) only [go_sem,↓reduceIte,reduceCtorEq]
   refine hK _ _ ?_;clear hK K
   refine PW.us ?_
   refine PW.exit ?_
   refine PW.e ?_
   exact PL.at [0,10,11,12,13] ih rfl rfl
  ·have ct2:decide ((j:Int)<(D2.length:Int))=false:=decide_eq_false (by omega)
   have hj1:j - D2.length<D1.length:=by omega
   have eb:=zh1 D1 (j - D2.length) hj1
   have e3:D3[j]=shS B.length D1[j - D2.length]:=by simp only [hcl];rw [List.getElem_append_right (by omega),List.getElem_map]
   have hb:=hb1 _ hj1
   rw [e3] at ea
   generalize D1[j - D2.length]=x at *
   have ss:=fun K=>zhx (shS B.length x) K
   have ej:(j:Int) - (D2.length:Int)=((j - D2.length:Nat):Int):=by omega
   have s1:=zfL
   have s2:=zgn
   have s3:∀ x:Sho,List.take 11 (shc x)=shc x:=fun _=>rfl
   have s5:(shc x)[5]? =some (.int .i64 x.f):=rfl
   have s6:(shc x)[6]? =some (.int .i64 x.l):=rfl
   have s7:((shc x).set 5 (.int .i64 (x.f+B.length))).set 6 (.int .i64 (x.l+B.length))=shc (shS B.length x):=rfl
   refine PW.f (fun K k=>by simp (maxSteps:=3000000) (disch:=omega) only [go_sem,↓reduceIte,reduceCtorEq,ct2];exact k) ?_
   refine PW.us ?_
   refine PW.f (fun K k=>by simp (maxSteps:=3000000) (disch:=omega) only [go_sem,↓reduceIte,reduceCtorEq,ej,ln1,eb,s1,s2,s3];exact k) ?_
   refine PW.f (fun K k=>by simp (maxSteps:=3000000) (disch:=omega) only [go_sem,↓reduceIte,reduceCtorEq,s1,s5,s6];exact k) ?_
   refine PW.at [0,10,11,12,13,14] (?_:PW _ _ _ [(0,.slice (itL B) B.length f1),(10,.slice (shL D1) D1.length false),(11,.slice (shL D2) D2.length false),(12,.slice (shL D3) D3.length false),(13,.int .i64 (j:Int)),(14,.ptr H.length 0 0)] (H++[⟨53,0,shc (shS B.length x)⟩]) _) rfl (by rw [←s7])
   have ss2:=ss
   (repeat refine PW.seq ?_);refine PW.drawg mix (by kernel_rfl) fun K hK=> ?_;simp (maxSteps:=3000000) (disch:=omega) only [go_sem,↓reduceIte,reduceCtorEq,ln3,ea,s1,s3]
   refine VCz.call (fun _=>ss _) rfl ?_
   simp (maxSteps:=3000000) (disch:=omega) only [go_sem,↓reduceIte,reduceCtorEq]
   refine hK _ _ ?_;clear hK K
   refine PW.us ?_
   refine PW.e ?_
   refine PL.keep [0,10,11,12,13] ?_
   refine PL.view (Vs.trim (F1:=[(0,.slice (itL B) B.length f1),(10,.slice (shL D1) D1.length false),(11,.slice (shL D2) D2.length false),(12,.slice (shL D3) D3.length false),(13,.int .i64 ((j+1:Nat):Int))]) (H1:=H) (fun h=>h) (Nat.le_refl _) rfl ?_) ih
   exact ⟨.id (zo (ze9 _ _)),.id (zo (zdg _ _)),.id (zo (zdg _ _)),.id (zo (zdg _ _)),.id (.int _ _),trivial⟩
 ·refine PL.round ?_;refine PW.f (fun K k=>by simp (maxSteps:=3000000) (disch:=omega) only [go_sem,↓reduceIte,reduceCtorEq,zjR D3.length];exact k) ?_;refine PW.u ?_
  refine PW.exit ?_
  refine PW.f (fun K k=>by simp (maxSteps:=3000000) (disch:=omega) only [go_sem,↓reduceIte,reduceCtorEq];refine VCx.call (zkc _) rfl ?_;simp (maxSteps:=3000000) (disch:=omega) only [go_sem,↓reduceIte,reduceCtorEq];exact k) ?_
  (refine PW.ret ⟨_,rfl,?_⟩;first|refine .inl ⟨?_,rfl⟩|refine Fin.base (.id' ?_ (.bool _))|refine Fin.base (.id' ?_ (.int _ _)))
  rfl
end Go.Proofs.YtjgmdlcjbgiekaaGreatDoor.Sc
namespace Go.Proofs.YtjgmdlcjbgiekaaGreatDoor.Pm
set_option linter.all false
open Go.ChangeShapes Go.WideShapes Go.ChangeAt Go.RowKit
variable {P:Program} {W:World}
theorem zje {t e:TypeId} {n fuel:Nat} {k:IntKind} {cs:List Value} {z:List Int} {p:List MemPlace} (ht:P.underlying t=some (.array n e)) (he:P.underlying e=some (.int k)) (hc:P.cellsOf e=1)
  (h:DataW.trod (fun _=>()) P W 0 (fun _=>true) false fuel t cs=some (.agg (z.map fun x=>.lit (.int k x)),p)):∀ (j:Nat) (x:Int),z[j]? =some x→cs[j]? =some (.int k x):=by
 obtain ⟨xs,m,rfl,hx,hlen,hn,hel⟩:=DataW.trod_array ht h
 intro j x hj
 simp only [Prod.mk.injEq,DataW.agg.injEq] at hx
 have hx1:=congrArg (fun l=>l[j]?) hx.1
 simp only [List.getElem?_map,hj,Option.map_some] at hx1
 cases hy:xs[j]? with
 | none=>rw [hy] at hx1;cases hx1
 | some y=>
  rw [hy] at hx1
  simp only [Option.map_some,Option.some.injEq] at hx1
  have hjn:j<n:=by rw [←hn];exact (List.getElem?_eq_some_iff.1 hy).1
  have hd:=hel j hjn
  rw [hy,hc,Nat.mul_one] at hd
  obtain ⟨r,e1,e2,_⟩:=DataW.trod_int he hd
  rw [e2] at hx1
  simp only [DataW.lit.injEq,Lit.int.injEq,true_and] at hx1
  subst hx1
  have:=congrArg (fun l=>l[0]?) e1
  simpa using this
theorem zeu:∀ {l:List (String×DataW Unit)} {ps:List MemPlace},DataW.LaidVars P W l ps→∀ x∈l,∃ g t cs fuel p,P.globalNamed x.1=some g∧(P.globals[g]?).map (·.type)=some t∧W.var? P x.1=some cs∧DataW.trod (fun _=>()) P W 0 (fun _=>true) false fuel t cs.toList=some (x.2,p)
 | [],_,_,x,hx=>by cases hx
 | (n,d)::r,ps,h,x,hx=>by
  obtain ⟨g,t,cs,fuel,p,q,h1,h2,h3,h4,h5,_⟩:=h
  rcases List.mem_cons.1 hx with rfl|hx
  ·exact ⟨g,t,cs,fuel,p,h1,h2,h3,h4⟩
  ·exact zeu h5 x hx
theorem zjX {l:List (String×DataW Unit)} {nm:String} {g n:Nat} {t e:TypeId} {k:IntKind} {z:List Int} (h:laidMet P l W) (hm:(nm,DataW.agg (z.map fun x=>.lit (.int k x)))∈l) (hg:P.globalNamed nm=some g) (ht:(P.globals[g]?).map (·.type)=some t)
  (hu:P.underlying t=some (.array n e)) (he:P.underlying e=some (.int k)) (hc:P.cellsOf e=1):∀ (j:Nat) (x:Int),z[j]? =some x→(Ctx.start W).M g j=some (.int k x):=fun j x hj=>by
 obtain ⟨ps,hv,_⟩:=h
 obtain ⟨g',t',cs,fuel,p,h1,h2,h3,h4⟩:=zeu hv _ hm
 obtain rfl:=Option.some.inj (hg.symm.trans h1)
 obtain rfl:=Option.some.inj (ht.symm.trans h2)
 have h5:=zje hu he hc h4 j x hj
 show W.cell? ⟨g,j,none⟩=_
 rw [World.var?_cell hg h3 j,←h5]
 simp
theorem zr6 {l:List (String×DataW Unit)} (h:laidMetH Tryz.prog l W) (hl:(l.all fun x=>x.2.handleName?.isNone)=true)
  (h1 : ("cutroom/quant.alternateScan", Rows.laid_cutroom_quant_alternateScan) ∈ l)
  (h2 : ("cutroom/quant.defaultIntra", Rows.laid_cutroom_quant_defaultIntra) ∈ l)
  :Glob (Ctx.start W).M:=by
 rw [MakeChecks.laidMetH_plain _ _ _ hl] at h
 intro g l hg
 unfold zuC at hg
 split at hg
 ·rename_i e
  subst e
  obtain rfl:=Option.some.inj hg
  intro j x hj
  unfold zwx at hj
  rw [List.getElem?_map,Option.map_eq_some_iff] at hj
  obtain ⟨y,hy,rfl⟩:=hj
  exact zjX (t:=151) h (k:=.i64) h1 (by kernel_rfl) (by kernel_rfl) Tryz.underlying151 Tryz.underlying3 (by kernel_rfl) j y hy
 split at hg
 ·rename_i e
  subst e
  obtain rfl:=Option.some.inj hg
  intro j x hj
  unfold zpZ at hj
  rw [List.getElem?_map,Option.map_eq_some_iff] at hj
  obtain ⟨y,hy,rfl⟩:=hj
  exact zjX (t:=27) h (k:=.u8) h2 (by kernel_rfl) (by kernel_rfl) Tryz.underlying27 Tryz.underlying5 (by kernel_rfl) j y hy
 cases hg
end Go.Proofs.YtjgmdlcjbgiekaaGreatDoor.Pm
