/-
  Parts of the proof, put together in one text. No condition.
-/
import Derived.Test.YtjgmdlcjbgiekaaGreatDoorQ43
import Derived.Test.YtjgmdlcjbgiekaaGreatDoorQ47
namespace Go.Proofs.YtjgmdlcjbgiekaaGreatDoor.Sc
set_option linter.all false
open Pm Ty Go.RowKit
def shc (x:Sho):List PV:=fmc x.fr++[.int .i64 x.f,.int .i64 x.l,.int .i64 x.ty,.bool x.ok,.int .i64 x.fi,.bool x.tf]
theorem zfL (x:Sho):(shc x).length=11:=rfl
theorem zgn (x:Sho):(shc x).all PV.cell=true:=rfl
theorem zov (n:Nat) (x:Sho):∀ y∈shc x,Scoped n y:=fun y hy=>by
 rcases List.mem_append.1 hy with hy|hy
 ·exact za3 _ _ _ _ _ _ _ _ _ _ _ _ y hy
 ·simp only [List.mem_cons,List.not_mem_nil,or_false] at hy
  rcases hy with rfl|rfl|rfl|rfl|rfl|rfl<;>first|exact .int _ _|exact .bool _
def shL (l:List Sho):List PV:=l.flatMap shc
theorem zdC (l:List Sho):(shL l).length=l.length * 11:=zaD shc 11 l fun _ _=>rfl
theorem zh1 (l:List Sho) (k:Nat) (hk:k<l.length):List.take 11 (List.drop (k * 11) (shL l))=shc l[k]:=zcn shc 11 l k hk fun _ _=>rfl
theorem zdg (n:Nat) (l:List Sho):∀ x∈shL l,Scoped n x:=fun x hx=>by
 obtain ⟨u,_,hx⟩:=List.mem_flatMap.1 hx
 exact zov _ _ x hx
theorem zj1 {α:Type} (enc:α→List PV) (N:Nat) (v:α):∀ (l:List α) (k:Nat),k<l.length→(∀ x∈l,(enc x).length=N)→(enc v).length=N→zO (l.flatMap enc) (k * N) (enc v)=(l.set k v).flatMap enc
 | [],k,hk,_,_=>by simp at hk
 | a::r,0,_,h,hv=>by
  unfold zO
  rw [Nat.zero_mul,List.take_zero,List.nil_append,Nat.zero_add,hv,List.flatMap_cons,List.set_cons_zero,List.flatMap_cons,List.drop_left' (h a (List.mem_cons_self ..))]
 | a::r,k+1,hk,h,hv=>by
  have ih:=zj1 enc N v r k (by simpa using hk) (fun x hx=>h x (List.mem_cons_of_mem _ hx)) hv
  have ha:=h a (List.mem_cons_self ..)
  unfold zO at ih ⊢
  have e:(k+1) * N=(enc a).length+k * N:=by rw [ha,Nat.add_mul,Nat.one_mul,Nat.add_comm]
  rw [List.flatMap_cons,e,List.take_append,Nat.add_sub_cancel_left,List.take_of_length_le (by omega),Nat.add_assoc,←List.drop_drop,List.drop_left,List.append_assoc,List.append_assoc,←List.append_assoc (List.take _ _),ih,List.set_cons_succ,List.flatMap_cons]
theorem zrh (l:List Sho) (k:Nat) (x:Sho) (hk:k<l.length):zO (shL l) (k * 11) (shc x)=shL (l.set k x):=zj1 shc 11 x l k hk (fun _ _=>rfl) rfl
def zsh:List PV:=[.int .i64 0,.int .i64 0,.slice [] 0 true,.slice [] 0 true,.slice [] 0 true,.int .i64 0,.int .i64 0,.int .i64 0,.bool false,.int .i64 0,.bool false]
theorem znA (n:Nat) (H:za):FzC n H zsh (shc zjm):=⟨.id (.int _ _),.id (.int _ _),Fz.sliceC (xs:=[]) (ys:=[]) trivial (fun h=>by cases h),Fz.sliceC (xs:=[]) (ys:=[]) trivial (fun h=>by cases h),Fz.sliceC (xs:=[]) (ys:=[]) trivial (fun h=>by cases h),.id (.int _ _),.id (.int _ _),.id (.int _ _),.id (.bool _),.id (.int _ _),.id (.bool _),trivial⟩
theorem zlx (n:Nat) (H:za):∀ k:Nat,FzC n H ((List.replicate k zsh).flatten) (shL (List.replicate k zjm))
 | 0=>trivial
 | k+1=>by
  rw [List.replicate_succ,List.replicate_succ,List.flatten_cons]
  exact FzC.append (znA n H) (zlx n H k)
theorem zrn (S:List Ent) (out:List Sho) (n:Int) (i j o:Nat) (K:za) (hi:K[i]? =some ⟨49,0,[.msl o 0 0 out.length 11 true]⟩) (hj:K[j]? =some ⟨68,0,[.slice (S.flatMap zE) S.length false]⟩) (ho:K[o]? =some ⟨53,0,shL out⟩)
  (hsq:∀ e∈S,SqL e.2.1) (hn:n<S.length) (hs:∀ (j:Nat) (e:Ent),S[j]? =some e→0≤e.1.sh∧e.1.sh<out.length):CallOk Tryz.prog 44 [.int .i64 n,.ptr i 0 0,.ptr j 0 0] K (.agg (shc (zro S out n))) K:=by
 have hi':∀ X,(K++X)[i]? =some ⟨49,0,[.msl o 0 0 out.length 11 true]⟩:=fun X=>by rw [List.getElem?_append_left (List.getElem?_eq_some_iff.1 hi).1];exact hi
 have hj':∀ X,(K++X)[j]? =some ⟨68,0,[.slice (S.flatMap zE) S.length false]⟩:=fun X=>by rw [List.getElem?_append_left (List.getElem?_eq_some_iff.1 hj).1];exact hj
 have ho':∀ X,(K++X)[o]? =some ⟨53,0,shL out⟩:=fun X=>by rw [List.getElem?_append_left (List.getElem?_eq_some_iff.1 ho).1];exact ho
 unfold zro
 refine CallOk.body (F0:=[(0,.int .i64 n),(1,.ptr i 0 0),(2,.ptr j 0 0)]) Tryz.func44 rfl Tryz.ntmps44 Tryz.results44 rfl (by kernel_rfl) rfl ?_
 refine PW.e ?_
 refine PW.e ?_
 by_cases h0:n<0
 ·rw [if_pos h0]
  (repeat refine PW.seq ?_);refine PW.cond (t:=_) rfl (fun h=> ?_) (fun h=> ?_)
  rotate_left
  ·exact absurd h0 (of_decide_eq_false h)
  refine PW.e ?_
  refine PW.ret ⟨.agg zsh,by simp (maxSteps:=3000000) (disch:=omega) only [go_sem,↓reduceIte,reduceCtorEq,zd,zg,List.mapM_cons,List.mapM_nil,Option.pure_def,Option.bind_eq_bind,Option.bind_some,Array.toList,zsh],?_⟩
  exact Fin.base (Fz.aggC (znA _ _))
 ·rw [if_neg h0]
  obtain ⟨m,rfl⟩:∃ m:Nat,n=(m:Int):=⟨n.toNat,by omega⟩
  have hm:m<S.length:=by omega
  have e1:=List.getElem?_eq_getElem hm
  rw [Int.toNat_natCast,e1]
  dsimp only
  have hsh:=hs m _ e1
  have g5:(S.flatMap zE)[m * 147+5]? =some (.int .i64 S[m].1.sh):=zeA zE 147 S m 5 hm (fun e he=>zcc e (hsq e he)) (by omega)
  have ln:=zg0 hsq
  generalize S[m]=e at *
  obtain ⟨q,hq⟩:∃ q:Nat,e.1.sh=(q:Int):=⟨e.1.sh.toNat,by omega⟩
  rw [hq] at g5 hsh ⊢
  have hql:q<out.length:=by omega
  have e2:=List.getElem?_eq_getElem hql
  rw [Int.toNat_natCast,e2,Option.getD_some]
  have g6:=zh1 out q hql
  have l2:=zdC out
  generalize out[q]=x at *
  (repeat refine PW.seq ?_);refine PW.cond (t:=_) rfl (fun h=> ?_) (fun h=> ?_)
  ·exact absurd (of_decide_eq_true h) h0
  refine PW.skip ?_
  (repeat refine PW.seq ?_);refine PW.drawt [] [] mix (by kernel_rfl) fun K hK=> ?_
  simp (maxSteps:=3000000) (disch:=omega) only [go_sem,↓reduceIte,reduceCtorEq,hi',hj',ho',g5,g6,ln,l2]
  refine hK _ _ ?_;clear hK K
  refine PW.ret ⟨.agg (shc x),by simp (maxSteps:=3000000) (disch:=omega) only [go_sem,↓reduceIte,reduceCtorEq,zd,zg,List.mapM_cons,List.mapM_nil,Option.pure_def,Option.bind_eq_bind,Option.bind_some,Array.toList,zfL,show List.take 11 (shc x)=shc x from rfl],?_⟩
  exact Fin.base (.id (zB (zov _ x)))
theorem zqp {L:List It} (hL:∀ x∈L,SqOk x.s):∀ n,n≤L.length→SqOk (cur L n)
 | 0,_=>by
  show SqOk sq0
  exact ⟨by decide,by decide,by decide,by decide,by decide,by decide,rfl,rfl⟩
 | n+1,h=>by
  rw [zg3 (show n<L.length by omega)]
  split
  ·exact hL _ (List.getElem_mem _)
  ·exact zqp hL n (by omega)
theorem zq9 {L:List It} (hL:∀ x∈L,SqOk x.s) {j:Nat} {e:Ent} (he:(zZ L)[j]? =some e):SqOk e.2.1:=by
 obtain ⟨n,m,hn,hm,_,_,_,_,_,_,h,_⟩:=((zbB L).e j e he).1
 rw [h];exact zqp hL n (by omega)
theorem zkt {L:List It} (hL:∀ x∈L,SqOk x.s):(zZ L).length≤L.length:=(zez (zqh L hL L 0 (as0 sq0) dp0 rfl (zqG L) ztn (Nat.zero_le _))).1.ok.n
def dH (H:za) (S:List Ent) (out:List Sho):za:=H++[⟨68,0,[.slice (S.flatMap zE) S.length false]⟩,⟨53,0,shL out⟩,⟨49,0,[.msl (H.length+1) 0 0 S.length 11 true]⟩]
theorem zpT (H:za) (S:List Ent) (out:List Sho) (h:HSc H):HSc (dH H S out):=ziA (fun b hb x hx=>by
 simp only [List.mem_cons,List.not_mem_nil,or_false] at hb
 rcases hb with rfl|rfl|rfl
 ·rw [List.mem_singleton] at hx
  rw [hx];exact zo fun x hx=>zcZ _ _ x hx
 ·exact zdg _ _ x hx
 ·rw [List.mem_singleton] at hx
  rw [hx];exact .msl (by simp)) h
theorem znc {L:List It} {j:Nat} {e:Ent} (h:EOk L j e):∃ (n m:Nat),e.1.f=(n:Int)∧e.1.l=(m:Int)∧n≤m∧m≤n+1∧m<L.length∧(zbF L e).length=m+1 - n∧∀ i,i<m+1 - n→∃ x,L[n+i]? =some x∧(zbF L e)[i]? =some (zdv x):=by
 obtain ⟨⟨n,m,hn,hm,e1,e2,e3,_⟩,_⟩:=h
 have hml:m=n∨m=n+1:=by
  rcases e3 with h|h
  ·exact .inl h.1
  ·exact .inr h.1
 refine ⟨n,m,e1,e2,by omega,by omega,hm,?_,fun i hi=> ?_⟩
 ·unfold zbF
  rw [e1,e2,Int.toNat_natCast,Int.toNat_natCast,List.length_map,List.length_take,List.length_drop]
  omega
 ·refine ⟨L[n+i]'(by omega),List.getElem?_eq_getElem _,?_⟩
  unfold zbF
  rw [e1,e2,Int.toNat_natCast,Int.toNat_natCast,List.getElem?_map,List.getElem?_take,if_pos hi,List.getElem?_drop,List.getElem?_eq_getElem (show n+i<L.length by omega)]
  rfl
theorem zuS (e:Ent) (h:SqL e.2.1):List.take 135 (List.drop 6 (zE e))=sqc e.2.1:=by
 show List.take 135 (sqc e.2.1++pic e.2.2)=_
 exact List.take_left' (zab _ h)
theorem zqc (e:Ent) (h:SqL e.2.1) (n:Nat):(zE e)[141+n]? =(pic e.2.2)[n]? :=by
 have e1:List.drop 141 (zE e)=pic e.2.2:=by
  show List.drop 135 (sqc e.2.1++pic e.2.2)=_
  exact List.drop_left' (zab _ h)
 rw [←List.getElem?_drop,e1]
set_option maxHeartbeats 16000000 in
set_option maxRecDepth 100000 in
theorem zdu (L:List It) (fl:Bool) (hL:∀ x∈L,SqOk x.s) (hc:∀ x∈L,CdOk (zdv x)) (hn:L.length≤800000) (H:za):CallOk Tryz.prog 17 [.slice (itL L) L.length fl] H (.slice (shL (za5 L)) (za5 L).length false) H:=by
 have so:=fun K=>zra L fl hL hn K
 have hI:=zbB L
 have hsq:=fun (j:Nat) (e:Ent) (he:(zZ L)[j]? =some e)=>zq9 hL he
 have hlen:=zkt hL
 have hdl:=zcd L
 have hli:=zcU L hL
 unfold za5 at hdl ⊢
 generalize zZ L=S at *
 have hsl:∀ e∈S,SqL e.2.1:=fun e he=>by
  obtain ⟨j,hj⟩:=List.getElem?_of_mem he
  exact (hsq j e hj).toL
 have ln:=zg0 hsl
 have hz:(List.replicate S.length zsh).flatten=(List.replicate S.length zsh).flatten:=rfl
 refine CallOk.body (F0:=[(0,.slice (itL L) L.length fl)]) Tryz.func17 rfl Tryz.ntmps17 Tryz.results17 rfl (by kernel_rfl) rfl ?_
 refine PW.e ?_
 refine PW.f (fun K k=>by simp (maxSteps:=3000000) (disch:=omega) only [go_sem,↓reduceIte,reduceCtorEq];refine VCx.call (so _) rfl ?_;simp (maxSteps:=3000000) (disch:=omega) only [go_sem,↓reduceIte,reduceCtorEq];exact k) ?_
 refine PW.e ?_
 refine PW.e ?_
 refine PW.e ?_
 refine PW.at [0,4,5,22,23,24] (?_:PW _ _ _ [(0,.slice (itL L) L.length fl),(4,.ptr (H.length+2) 0 0),(5,.func 44 [] [.ptr (H.length+2) 0 0,.ptr H.length 0 0]),(22,.slice (S.flatMap zE) S.length false),(23,.int .i64 (S.length:Int)),(24,.int .i64 0)] (H++[⟨68,0,[.slice (S.flatMap zE) S.length false]⟩,⟨53,0,(List.replicate S.length zsh).flatten⟩,⟨49,0,[.msl (H.length+1) 0 0 S.length 11 true]⟩]) _) rfl rfl
 refine PW.view (Vs.cut (F1:=[(0,.slice (itL L) L.length fl),(4,.ptr (H.length+2) 0 0),(5,.func 44 [] [.ptr (H.length+2) 0 0,.ptr H.length 0 0]),(22,.slice (S.flatMap zE) S.length false),(23,.int .i64 (S.length:Int)),(24,.int .i64 0)]) (H1:=dH H S (zdn L S 0)) (by simp [dH]) (fun hs=> ?_) ?_) ?_
 ·have:=CutH.of (A:=H) (L:=[⟨68,0,[.slice (S.flatMap zE) S.length false]⟩,⟨53,0,(List.replicate S.length zsh).flatten⟩,⟨49,0,[.msl (H.length+1) 0 0 S.length 11 true]⟩]) (K:=[]) (L1:=[⟨68,0,[.slice (S.flatMap zE) S.length false]⟩,⟨53,0,shL (zdn L S 0)⟩,⟨49,0,[.msl (H.length+1) 0 0 S.length 11 true]⟩]) hs ⟨rfl,rfl,⟨.id (zo fun x hx=>zcZ _ _ x hx),trivial⟩,rfl,rfl,zlx _ _ _,rfl,rfl,⟨.id (.msl (by simp)),trivial⟩,trivial⟩
  rw [List.append_nil] at this
  exact this
 ·have hl:(dH H S (zdn L S 0)).length=H.length+3:=by simp [dH]
  rw [hl]
  exact ⟨.id (zo (ze9 _ _)),.id (.ptr (by omega)),.id (.func (fun j x hx=>by simp at hx) (fun j x hx=>by
   have hx:=List.mem_of_getElem? hx
   simp only [List.mem_cons,List.not_mem_nil,or_false] at hx
   rcases hx with rfl|rfl
   ·exact .ptr (by omega)
   ·exact .ptr (by omega))),.id (zo fun x hx=>zcZ _ _ x hx),.id (.int _ _),.id (.int _ _),trivial⟩
 (repeat refine PW.seq ?_);refine PW.block (PW.loop ?_)
 suffices hl1:∀ k:Nat,k≤S.length→PL Tryz.prog _ _ [(0,.slice (itL L) L.length fl),(4,.ptr (H.length+2) 0 0),(5,.func 44 [] [.ptr (H.length+2) 0 0,.ptr H.length 0 0]),(22,.slice (S.flatMap zE) S.length false),(23,.int .i64 (S.length:Int)),(24,.int .i64 (k:Int))] (dH H S (zdn L S k)) _ by
  exact PL.at [0,4,5,22,23,24] (hl1 0 (by omega)) rfl rfl
 clear so
 refine cnt S.length (fun k hk ih=> ?_) ?_
 rotate_left
 ·refine PL.round ?_;refine PW.f (fun K k=>by simp (maxSteps:=3000000) (disch:=omega) only [go_sem,↓reduceIte,reduceCtorEq,zjR S.length];exact k) ?_;refine PW.u ?_
  refine PW.exit ?_
  refine PW.f (fun K k=>by simp (maxSteps:=3000000) (disch:=omega) only [go_sem,↓reduceIte,reduceCtorEq,dH];exact k) ?_
  refine PW.ret ⟨.msl (H.length+1) 0 0 S.length 11 true,by simp (maxSteps:=3000000) (disch:=omega) only [go_sem,↓reduceIte,reduceCtorEq,zd,zg,List.mapM_cons,List.mapM_nil,Option.pure_def,Option.bind_eq_bind,Option.bind_some,Array.toList],?_⟩
  have hon:=zcA L S S.length
  rw [hdl]
  exact Fin.base (Fz.mslC (e:=53) (xs:=shL (zdn L S S.length)) (by omega) (apn _ _ 1) (by rw [zdC,hon]) (FzC.refl (zdg _ _)))
 have ct:=zhk hk
 have he:=List.getElem?_eq_getElem hk
 have hE:=hI.e k _ he
 have hsE:=hsq k _ he
 have hshE:=hI.s k _ he
 have r1:=zlT hI (show k≤S.length by omega) (n:=S[k].1.pa) ⟨hE.2.2.1.1,hE.2.2.1.2⟩
 have r2:=zlT hI (show k≤S.length by omega) (n:=S[k].1.fu) ⟨hE.2.2.2.1.1,hE.2.2.2.1.2⟩
 have hol:=zcA L S k
 have ro:=fun (n:Int) (hn:n<S.length) K (h1) (h2) (h3)=>zrn S (zdn L S k) n (H.length+2) H.length (H.length+1) K h1 h2 h3 hsl hn fun j e he=>by rw [hol];exact hI.s j e he
 have rA:=fun K h1 h2 h3=>ro S[k].1.pa (by have:=hE.2.2.1.2;omega) K h1 h2 h3
 have rB:=fun K h1 h2 h3=>ro S[k].1.fu (by have:=hE.2.2.2.1.2;omega) K h1 h2 h3
 rw [r1] at rA
 rw [r2] at rB
 clear ro r1 r2
 have ia:List.take 147 (List.drop (k * 147) (S.flatMap zE))=zE S[k]:=zcn zE 147 S k hk fun e he=>zcc e (hsl e he)
 rw [zdn,he] at ih
 dsimp only at ih
 rw [zvY] at ih
 obtain ⟨n,m,e1,e2,hnm,hm1,hmL,hPl,hPa⟩:=znc hE
 have hfr:=fun K=>zp1 S[k].2.1 (zbF L S[k]) (zcP (dvN L S k) S[k].1.pa).fr (zcP (dvN L S k) S[k].1.fu).fr false hsE (fun c hcm=>by
  obtain ⟨i,hi⟩:=List.getElem?_of_mem hcm
  obtain ⟨x,hx,hx2⟩:=hPa i (by have:=(List.getElem?_eq_some_iff.1 hi).1;omega)
  rw [hx2] at hi
  injection hi with hi
  rw [←hi];exact hc x (List.mem_of_getElem? hx)) (by omega) K
 have hsl':=hsE.toL
 generalize zcP (dvN L S k) S[k].1.pa=ra at *
 generalize zcP (dvN L S k) S[k].1.fu=rb at *
 generalize zbF L S[k]=P at *
 generalize S[k]=e at *
 generalize zdn L S k=out at *
 obtain ⟨q,hq⟩:∃ q:Nat,e.1.sh=(q:Int):=⟨e.1.sh.toNat,by omega⟩
 have x1:=zcc e hsl'
 have x2:(zE e)[0]? =some (.int .i64 (n:Int)):=by rw [←e1];rfl
 have x3:(zE e)[1]? =some (.int .i64 (m:Int)):=by rw [←e2];rfl
 have x4:(zE e)[2]? =some (.int .i64 e.1.ty):=rfl
 have x5:(zE e)[3]? =some (.int .i64 e.1.pa):=rfl
 have x6:(zE e)[4]? =some (.int .i64 e.1.fu):=rfl
 have x7:(zE e)[5]? =some (.int .i64 (q:Int)):=by rw [←hq];rfl
 have x8:=zuS e hsl'
 have x9:(zE e)[144]? =some (.bool e.2.2.tf):=zqc e hsl' 3
 have x10:(zE e)[145]? =some (.bool e.2.2.rp):=zqc e hsl' 4
 have x11:(zE e).all PV.cell=true:=by simp [zE,zb5,PV.cell,pic]
 have x12:List.take 147 (zE e)=zE e:=List.take_of_length_le (by omega)
 refine PL.round ?_;refine PW.f (fun K k=>by simp (maxSteps:=3000000) (disch:=omega) only [go_sem,↓reduceIte,reduceCtorEq,ct];exact k) ?_;refine PW.t ?_
 refine PW.skip ?_;(repeat refine PW.seq ?_);refine PW.block ?_
 refine PW.f (fun K k=>by simp (maxSteps:=3000000) (disch:=omega) only [go_sem,↓reduceIte,reduceCtorEq,ln,ia,x1,x11,x12];exact k) ?_
 refine PW.e ?_
 refine PW.f (fun K k=>by simp (maxSteps:=3000000) (disch:=omega) only [go_sem,↓reduceIte,reduceCtorEq,x1,x2];exact k) ?_
 refine PW.view (Vs.ghost 8 39 8 rfl) ?_
 have hdl3:(dH H S out).length=H.length+3:=by simp [dH]
 refine PW.at [0,4,5,7,8,9,22,23,24] (?_:PW _ _ _ [(0,.slice (itL L) L.length fl),(4,.ptr (H.length+2) 0 0),(5,.func 44 [] [.ptr (H.length+2) 0 0,.ptr H.length 0 0]),(7,.ptr (H.length+3) 0 0),(8,.msl (H.length+4) 0 0 0 8 true),(9,.int .i64 (n:Int)),(22,.slice (S.flatMap zE) S.length false),(23,.int .i64 (S.length:Int)),(24,.int .i64 (k:Int))] (dH H S out++[⟨74,0,zE e⟩,⟨39,0,[]⟩]) _) (by simp [kp,slot,Nat.beq,dH]) (by simp)
 (repeat refine PW.seq ?_);refine PW.block (PW.loop ?_)
 suffices hl2:∀ j:Nat,j≤P.length→PL Tryz.prog _ _ [(0,.slice (itL L) L.length fl),(4,.ptr (H.length+2) 0 0),(5,.func 44 [] [.ptr (H.length+2) 0 0,.ptr H.length 0 0]),(7,.ptr (H.length+3) 0 0),(8,.msl (H.length+4) (cdL (P.take j)).length 0 j 8 true),(9,.int .i64 ((n+j:Nat):Int)),(22,.slice (S.flatMap zE) S.length false),(23,.int .i64 (S.length:Int)),(24,.int .i64 (k:Int))] (dH H S out++[⟨74,0,zE e⟩,⟨39,(cdL (P.take j)).length,cdL (P.take j)⟩]) _ by
  exact PL.at [0,4,5,7,8,9,22,23,24] (hl2 0 (by omega)) rfl rfl
 intro j hj
 induction hd:P.length - j using Nat.strongRecOn generalizing j with
 | _ d ih2=>
  have hlk:(cdL (P.take j)).length=j * 8:=by rw [zmE,List.length_take,Nat.min_eq_left hj]
  by_cases hjl:j<P.length
  ·have d1:decide (((n+j:Nat):Int)≤(m:Int))=true:=decide_eq_true (by omega)
   have hnext:=ih2 (P.length - (j+1)) (by omega) (j+1) (by omega) rfl
   obtain ⟨x,hx,hPx⟩:=hPa j (by omega)
   have hnj:n+j<L.length:=by omega
   have hxe:L[n+j]=x:=by rw [List.getElem?_eq_getElem hnj] at hx;injection hx
   have ec:=zfP L hL (n+j) 139 8 hnj (by omega)
   rw [hxe,ztg _ (hL x (List.mem_of_getElem? hx))] at ec
   have et:cdL (P.take (j+1))=cdL (P.take j)++cdE (zdv x):=by
    rw [List.take_add_one,hPx]
    simp [cdL]
   have ec':List.take 8 (List.drop ((n+j) * 148+139) (itL L))=cdE (zdv x):=ec
   rw [et] at hnext
   have hA:∀ y∈cdL (P.take j),Scoped H.length y:=ziR _ _
   generalize cdL (P.take j)=A at *
   have y5:(cdE (zdv x)).length=8:=rfl
   have y6:List.take 8 (cdE (zdv x))=cdE (zdv x):=rfl
   have y7:(cdE (zdv x)).all PV.cell=true:=rfl
   generalize cdE (zdv x)=B at *
   refine PL.round ?_;refine PW.f (fun K k=>by simp (maxSteps:=3000000) (disch:=omega) only [go_sem,↓reduceIte,reduceCtorEq,dH,x1,x3,d1];exact k) ?_
   refine PW.t ?_
   refine PW.skip ?_;(repeat refine PW.seq ?_);refine PW.block ?_
   refine PW.f (fun K k=>by simp (maxSteps:=3000000) (disch:=omega) only [go_sem,↓reduceIte,reduceCtorEq,hli,ec',y5,y6,y7,hlk];exact k) ?_
   refine PW.e ?_
   exact PL.at [0,4,5,7,8,9,22,23,24] hnext (by simp [kp,slot,Nat.beq];omega) (by simp [dH])
  ·have hjl':j=P.length:=by omega
   subst hjl'
   have d1:decide (((n+P.length:Nat):Int)≤(m:Int))=false:=decide_eq_false (by omega)
   rw [List.take_length] at hlk ⊢
   clear ih2
   refine PL.round ?_;refine PW.f (fun K k=>by simp (maxSteps:=3000000) (disch:=omega) only [go_sem,↓reduceIte,reduceCtorEq,dH,x1,x3,d1];exact k) ?_
   refine PW.u ?_
   refine PW.exit ?_
   refine PW.view (Vs.trim (F1:=[(0,.slice (itL L) L.length fl),(4,.ptr (H.length+2) 0 0),(5,.func 44 [] [.ptr (H.length+2) 0 0,.ptr H.length 0 0]),(7,.ptr (H.length+3) 0 0),(8,.slice (cdL P) P.length false),(22,.slice (S.flatMap zE) S.length false),(23,.int .i64 (S.length:Int)),(24,.int .i64 (k:Int))]) (H1:=dH H S out++[⟨74,0,zE e⟩]) (K:=[⟨39,(cdL P).length,cdL P⟩]) (fun hh=>ziA (fun b hb x hx=> ?_) (zpT H S out hh)) (by simp [dH]) (by simp [dH]) ?_) ?_
   ·rw [List.mem_singleton] at hb
    subst hb
    exact zcZ _ [e] x (by simpa [enB] using hx)
   ·have hl:(dH H S out++[⟨74,0,zE e⟩]:za).length=H.length+4:=by simp [dH]
    rw [hl]
    exact ⟨.id (zo (ze9 _ _)),.id (.ptr (by omega)),.id (.func (fun j x hx=>by simp at hx) (fun j x hx=>by
     have hx:=List.mem_of_getElem? hx
     simp only [List.mem_cons,List.not_mem_nil,or_false] at hx
     rcases hx with rfl|rfl
     ·exact .ptr (by omega)
     ·exact .ptr (by omega))),.id (.ptr (by omega)),Fz.mslC (e:=39) (xs:=cdL P) (by omega) (by simp) hlk (FzC.refl (ziR _ _)),.id (zo fun x hx=>zcZ _ _ x hx),.id (.int _ _),.id (.int _ _),trivial⟩
   have b1:(H++[⟨68,0,[.slice (S.flatMap zE) S.length false]⟩,⟨53,0,shL out⟩,⟨49,0,[.msl (H.length+1) 0 0 S.length 11 true]⟩,⟨74,0,zE e⟩,⟨53,0,[]⟩,⟨53,0,[]⟩]:za)[H.length+2]? =some ⟨49,0,[.msl (H.length+1) 0 0 out.length 11 true]⟩:=by rw [hol];exact apn _ _ 2
   have b2:(H++[⟨68,0,[.slice (S.flatMap zE) S.length false]⟩,⟨53,0,shL out⟩,⟨49,0,[.msl (H.length+1) 0 0 S.length 11 true]⟩,⟨74,0,zE e⟩,⟨53,0,[]⟩,⟨53,0,[]⟩]:za)[H.length]? =some ⟨68,0,[.slice (S.flatMap zE) S.length false]⟩:=apn _ _ 0
   have b3:(H++[⟨68,0,[.slice (S.flatMap zE) S.length false]⟩,⟨53,0,shL out⟩,⟨49,0,[.msl (H.length+1) 0 0 S.length 11 true]⟩,⟨74,0,zE e⟩,⟨53,0,[]⟩,⟨53,0,[]⟩]:za)[H.length+1]? =some ⟨53,0,shL out⟩:=apn _ _ 1
   have s1:=zfL
   have s2:=zgn
   have s3:∀ x:Sho,List.take 11 (shc x)=shc x:=fun _=>rfl
   have s4:∀ x:Sho,List.take 5 (shc x)=fmc x.fr:=fun _=>rfl
   have s5:∀ x:Sho,(shc x)[8]? =some (.bool x.ok):=fun _=>rfl
   have F7:∀ g:Fm,(fmc g).length=5:=fun _=>rfl
   have F5:∀ g:Fm,(fmc g).all PV.cell=true:=fun _=>rfl
   have F8:∀ g:Fm,List.take 5 (fmc g)=fmc g:=fun _=>rfl
   have Z7:zfr.length=5:=rfl
   have F9:∀ g:Fm,List.drop 5 (fmc g)=[]:=fun _=>rfl
   refine PW.view (Vs.place 53) (PW.view (Vs.place 53) ?_)
   refine PW.at [0,4,5,7,8,22,23,24] (?_:PW _ _ _ [(0,.slice (itL L) L.length fl),(4,.ptr (H.length+2) 0 0),(5,.func 44 [] [.ptr (H.length+2) 0 0,.ptr H.length 0 0]),(7,.ptr (H.length+3) 0 0),(8,.slice (cdL P) P.length false),(22,.slice (S.flatMap zE) S.length false),(23,.int .i64 (S.length:Int)),(24,.int .i64 (k:Int))] (H++[⟨68,0,[.slice (S.flatMap zE) S.length false]⟩,⟨53,0,shL out⟩,⟨49,0,[.msl (H.length+1) 0 0 S.length 11 true]⟩,⟨74,0,zE e⟩,⟨53,0,[]⟩,⟨53,0,[]⟩]) _) rfl (by simp [dH])
   (repeat refine PW.seq ?_);refine PW.drawi [H.length+4,H.length+5] [(10,[0]),(11,[1])] [(10,0),(11,1)] [50,55] mix (by kernel_rfl) (by simp<;>omega) fun K hK=> ?_
   simp (maxSteps:=3000000) (disch:=omega) only [go_sem,↓reduceIte,reduceCtorEq,x1,x5,x6]
   refine VCj.read (fun X hX=>rA X ((hX.out _ (by simp)).trans b1) ((hX.out _ (by simp)).trans b2) ((hX.out _ (by simp)).trans b3)) rfl ?_
   simp (maxSteps:=3000000) (disch:=omega) only [go_sem,↓reduceIte,reduceCtorEq,x1,x5,x6]
   refine VCj.read (fun X hX=>rB X ((hX.out _ (by simp)).trans b1) ((hX.out _ (by simp)).trans b2) ((hX.out _ (by simp)).trans b3)) rfl ?_
   simp (maxSteps:=3000000) (disch:=omega) only [go_sem,↓reduceIte,reduceCtorEq,s1,s2,s3]
   refine hK _ _ ?_;clear hK K
   unfold shV at ih
   generalize zlc e.2.1 P ra.fr rb.fr=X at hfr ih
   unfold zd4 at hfr
   refine PW.f (fun K k=>by simp (maxSteps:=3000000) (disch:=omega) only [go_sem,↓reduceIte,reduceCtorEq,x1,x8,s1,s4,F5,F7,F8,F9];refine VCx.call (hfr _) rfl ?_;simp (maxSteps:=3000000) (disch:=omega) only [go_sem,↓reduceIte,reduceCtorEq,x1,x8,s1,s4,F5,F7,F8,F9];exact k) ?_
   suffices h1:PW Tryz.prog _ _ [(0,.slice (itL L) L.length fl),(4,.ptr (H.length+2) 0 0),(5,.func 44 [] [.ptr (H.length+2) 0 0,.ptr H.length 0 0]),(7,.ptr (H.length+3) 0 0),(10,.ptr (H.length+4) 1 0),(11,.ptr (H.length+5) 1 0),(12,.ptr (H.length+6) 0 0),(13,.bool (X.2.1&&(decide (e.1.ty=1)||ra.ok))),(22,.slice (S.flatMap zE) S.length false),(23,.int .i64 (S.length:Int)),(24,.int .i64 (k:Int))] (H++[⟨68,0,[.slice (S.flatMap zE) S.length false]⟩,⟨53,0,shL out⟩,⟨49,0,[.msl (H.length+1) 0 0 S.length 11 true]⟩,⟨74,0,zE e⟩,⟨53,1,shc ra⟩,⟨53,1,shc rb⟩,⟨33,0,fmc X.1⟩]) _ by
    by_cases hty:e.1.ty=1
    ·have d1:(e.1.ty !=1)=false:=by simp [hty]
     rw [decide_eq_true hty,Bool.true_or,Bool.and_true] at h1
     refine PW.f (fun K k=>by simp (maxSteps:=3000000) (disch:=omega) only [go_sem,↓reduceIte,reduceCtorEq,x1,x4,d1];exact k) ?_
     refine PW.us ?_
     exact PW.at [0,4,5,7,10,11,12,13,22,23,24] h1 rfl rfl
    ·have d1:(e.1.ty !=1)=true:=by simpa using hty
     rw [decide_eq_false hty,Bool.false_or] at h1
     refine PW.f (fun K k=>by simp (maxSteps:=3000000) (disch:=omega) only [go_sem,↓reduceIte,reduceCtorEq,x1,x4,d1];exact k) ?_
     refine PW.t ?_
     cases hok:X.2.1 with
     | false=>
      rw [hok] at h1
      refine PW.e ?_
      exact PW.at [0,4,5,7,10,11,12,13,22,23,24] h1 rfl rfl
     | true=>
      rw [hok,Bool.true_and] at h1
      refine PW.f (fun K k=>by simp (maxSteps:=3000000) (disch:=omega) only [go_sem,↓reduceIte,reduceCtorEq,s1,s5];exact k) ?_
      exact PW.at [0,4,5,7,10,11,12,13,22,23,24] h1 rfl rfl
   generalize (X.2.1&&(decide (e.1.ty=1)||ra.ok))=I1 at ih ⊢
   suffices h2:PW Tryz.prog _ _ [(0,.slice (itL L) L.length fl),(4,.ptr (H.length+2) 0 0),(5,.func 44 [] [.ptr (H.length+2) 0 0,.ptr H.length 0 0]),(7,.ptr (H.length+3) 0 0),(12,.ptr (H.length+6) 0 0),(13,.bool (I1&&(!decide (e.1.ty=3)||rb.ok))),(22,.slice (S.flatMap zE) S.length false),(23,.int .i64 (S.length:Int)),(24,.int .i64 (k:Int))] (H++[⟨68,0,[.slice (S.flatMap zE) S.length false]⟩,⟨53,0,shL out⟩,⟨49,0,[.msl (H.length+1) 0 0 S.length 11 true]⟩,⟨74,0,zE e⟩,⟨53,1,shc ra⟩,⟨53,1,shc rb⟩,⟨33,0,fmc X.1⟩]) _ by
    by_cases hty:e.1.ty=3
    ·have d1:(e.1.ty==3)=true:=by simp [hty]
     rw [decide_eq_true hty,Bool.not_true,Bool.false_or] at h2
     refine PW.f (fun K k=>by simp (maxSteps:=3000000) (disch:=omega) only [go_sem,↓reduceIte,reduceCtorEq,x1,x4,d1];exact k) ?_
     refine PW.t ?_
     cases I1 with
     | false=>
      refine PW.e ?_
      exact PW.at [0,4,5,7,12,13,22,23,24] h2 rfl rfl
     | true=>
      rw [Bool.true_and] at h2
      refine PW.f (fun K k=>by simp (maxSteps:=3000000) (disch:=omega) only [go_sem,↓reduceIte,reduceCtorEq,s1,s5];exact k) ?_
      exact PW.at [0,4,5,7,12,13,22,23,24] h2 rfl rfl
    ·have d1:(e.1.ty==3)=false:=by simp [hty]
     rw [decide_eq_false hty,Bool.not_false,Bool.true_or,Bool.and_true] at h2
     refine PW.f (fun K k=>by simp (maxSteps:=3000000) (disch:=omega) only [go_sem,↓reduceIte,reduceCtorEq,x1,x4,d1];exact k) ?_
     refine PW.us ?_
     exact PW.at [0,4,5,7,12,13,22,23,24] h2 rfl rfl
   generalize (I1&&(!decide (e.1.ty=3)||rb.ok))=I2 at ih ⊢
   suffices h3:PW Tryz.prog _ _ [(0,.slice (itL L) L.length fl),(4,.ptr (H.length+2) 0 0),(5,.func 44 [] [.ptr (H.length+2) 0 0,.ptr H.length 0 0]),(7,.ptr (H.length+3) 0 0),(12,.ptr (H.length+6) 0 0),(13,.bool I2),(15,.int .i64 (if e.2.2.rp then 3 else 2)),(22,.slice (S.flatMap zE) S.length false),(23,.int .i64 (S.length:Int)),(24,.int .i64 (k:Int))] (H++[⟨68,0,[.slice (S.flatMap zE) S.length false]⟩,⟨53,0,shL out⟩,⟨49,0,[.msl (H.length+1) 0 0 S.length 11 true]⟩,⟨74,0,zE e⟩,⟨53,1,shc ra⟩,⟨53,1,shc rb⟩,⟨33,0,fmc X.1⟩]) _ by
    refine PW.e ?_
    refine PW.f (fun K k=>by simp (maxSteps:=3000000) (disch:=omega) only [go_sem,↓reduceIte,reduceCtorEq,x1,x10];exact k) ?_
    cases hrp:e.2.2.rp with
    | false=>
     rw [hrp,if_neg (by simp)] at h3
     refine PW.us ?_
     exact PW.at [0,4,5,7,12,13,15,22,23,24] h3 rfl rfl
    | true=>
     rw [hrp,if_pos rfl] at h3
     refine PW.t ?_
     refine PW.e ?_
     exact PW.at [0,4,5,7,12,13,15,22,23,24] h3 rfl rfl
   generalize (if e.2.2.rp then (3:Int) else 2)=fi at ih ⊢
   have hql:q<out.length:=by omega
   have lsh:=zdC out
   rw [hq,Int.toNat_natCast,e1,e2] at ih
   refine PW.f (fun K k=>by simp (maxSteps:=3000000) (disch:=omega) only [go_sem,↓reduceIte,reduceCtorEq,x1,x2,x3,x4,x7,x9,fmc,lsh];exact k) ?_
   refine PW.e ?_
   have hp:=zrh out q ⟨X.1,(n:Int),(m:Int),e.1.ty,I2,fi,e.2.2.tf⟩ hql
   have hps:zO (shL out) (q * 11) (shc ⟨X.1,(n:Int),(m:Int),e.1.ty,I2,fi,e.2.2.tf⟩)=List.take (q * 11) (shL out)++(shc ⟨X.1,(n:Int),(m:Int),e.1.ty,I2,fi,e.2.2.tf⟩++List.drop (q * 11+11) (shL out)):=by unfold zO;rw [List.append_assoc];rfl
   rw [hps] at hp
   refine PL.at [0,4,5,22,23,24] (?_:PL _ _ _ [(0,.slice (itL L) L.length fl),(4,.ptr (H.length+2) 0 0),(5,.func 44 [] [.ptr (H.length+2) 0 0,.ptr H.length 0 0]),(22,.slice (S.flatMap zE) S.length false),(23,.int .i64 (S.length:Int)),(24,.int .i64 ((k+1:Nat):Int))] (dH H S (out.set q ⟨X.1,(n:Int),(m:Int),e.1.ty,I2,fi,e.2.2.tf⟩)++[⟨74,0,zE e⟩,⟨53,1,shc ra⟩,⟨53,1,shc rb⟩,⟨33,0,fmc X.1⟩]) _) (by simp [kp,slot,Nat.beq]) (by unfold dH;rw [←hp];simp [shc,fmc])
   refine PL.view (Vs.trim (F1:=[(0,.slice (itL L) L.length fl),(4,.ptr (H.length+2) 0 0),(5,.func 44 [] [.ptr (H.length+2) 0 0,.ptr H.length 0 0]),(22,.slice (S.flatMap zE) S.length false),(23,.int .i64 (S.length:Int)),(24,.int .i64 ((k+1:Nat):Int))]) (H1:=dH H S (out.set q ⟨X.1,(n:Int),(m:Int),e.1.ty,I2,fi,e.2.2.tf⟩)) (zpT H S _) (by simp [dH]) rfl ?_) ih
   have hl:(dH H S (out.set q ⟨X.1,(n:Int),(m:Int),e.1.ty,I2,fi,e.2.2.tf⟩)).length=H.length+3:=by simp [dH]
   rw [hl]
   exact ⟨.id (zo (ze9 _ _)),.id (.ptr (by omega)),.id (.func (fun j x hx=>by simp at hx) (fun j x hx=>by
    have hx:=List.mem_of_getElem? hx
    simp only [List.mem_cons,List.not_mem_nil,or_false] at hx
    rcases hx with rfl|rfl
    ·exact .ptr (by omega)
    ·exact .ptr (by omega))),.id (zo fun x hx=>zcZ _ _ x hx),.id (.int _ _),.id (.int _ _),trivial⟩
set_option maxHeartbeats 1600000 in
theorem zhx (x:Sho) (H:za):CallOk Tryz.prog 19 [.agg (shc x),.agg (shc x)] H (.bool true) H:=by
 have eq:=fun K=>znr x.fr K
 have s1:=zfL x
 have s2:=zgn x
 have s4:List.take 5 (shc x)=fmc x.fr:=rfl
 have g1:(shc x)[5]? =some (.int .i64 x.f):=rfl
 have g2:(shc x)[6]? =some (.int .i64 x.l):=rfl
 have g3:(shc x)[7]? =some (.int .i64 x.ty):=rfl
 have g4:(shc x)[8]? =some (.bool x.ok):=rfl
 have g5:(shc x)[9]? =some (.int .i64 x.fi):=rfl
 have g6:(shc x)[10]? =some (.bool x.tf):=rfl
 refine CallOk.body (F0:=[(0,.agg (shc x)),(1,.agg (shc x))]) Tryz.func19 rfl Tryz.ntmps19 Tryz.results19 rfl (by kernel_rfl) rfl ?_
 refine PW.f (fun K k=>by simp (maxSteps:=3000000) (disch:=omega) only [go_sem,↓reduceIte,reduceCtorEq,s2];exact k) ?_
 refine PW.f (fun K k=>by simp (maxSteps:=3000000) (disch:=omega) only [go_sem,↓reduceIte,reduceCtorEq,s1,s4,g1,g2,g3,g4,g5,g6];refine VCx.call (eq _) rfl ?_;simp (maxSteps:=3000000) (disch:=omega) only [go_sem,↓reduceIte,reduceCtorEq,s1,s4,g1,g2,g3,g4,g5,g6];exact k) ?_
 (refine PW.ret ⟨_,rfl,?_⟩;first|refine .inl ⟨?_,rfl⟩|refine Fin.base (.id' ?_ (.bool _))|refine Fin.base (.id' ?_ (.int _ _)))
 rfl
theorem zj9 {l:List It} (hok:∀ x∈l,ItOk x) (h:ltB l=true):∀ x∈l,CdOk (zdv x):=fun x hx=>by
 unfold ltB at h
 rw [Bool.and_eq_true] at h
 have:=List.all_eq_true.1 h.2 x hx
 unfold ltI at this
 simp only [Bool.and_eq_true,decide_eq_true_eq] at this
 exact ⟨by have:=this.1.2.2;show x.us.length≤_;omega,fun u hu=>⟨(hok x hx).ut u hu,by have:=of_decide_eq_true (List.all_eq_true.1 this.2.2 u hu);omega⟩⟩
end Go.Proofs.YtjgmdlcjbgiekaaGreatDoor.Sc
