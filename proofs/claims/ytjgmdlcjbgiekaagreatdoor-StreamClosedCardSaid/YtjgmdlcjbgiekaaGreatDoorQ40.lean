/-
  Parts of the proof, put together in one text. No condition.
-/
import Derived.Test.YtjgmdlcjbgiekaaGreatDoorQ39
namespace Go.Proofs.YtjgmdlcjbgiekaaGreatDoor.Sc
set_option linter.all false
open Pm Ty Go.RowKit
theorem zor {c:Cx} {q:List UInt8} {n:Nat} (hv:vcx c=true):∀ (r:Nat) (s:St) (a:Nat) {z:List Mb×St} {a1:Nat},slL c q n r s a= .ok z a1→∀ m∈z.1,fmS c m=true
 | 0,s,a,z,a1,h=>by
  rw [slL] at h
  injection h with h _
  rw [←h];intro m hm;cases hm
 | r+1,s,a,z,a1,h=>by
  rw [slL] at h
  obtain ⟨y,a2,h1,h⟩:=Rr.bind_okE h
  obtain ⟨z2,a3,h2,h⟩:=Rr.bind_okE h
  injection h with h _
  rw [←h]
  intro m hm
  rcases List.mem_cons.1 hm with rfl|hm
  ·unfold zhj at h1
   split at h1
   ·rename_i hc
    rw [Bool.and_eq_true] at hc
    exact zuc hv (zlA hc.2).1 h1
   ·cases h1
  ·exact zor hv r _ _ h2 m hm
theorem zop {s:Sq} {p:Pi} {b:Bool} {t:Int} {q:List UInt8} {v:Nat} {l:List Mb} {a1:Nat} (hv:vcx (cxP s p b)=true) (h:slT s p b t q= .ok (v,l) a1):l.length=wmb s∧∀ m∈l,fmS (cxP s p b) m=true:=by
 unfold slT at h
 split at h
 ·split at h
  ·cases h
  split at h
  ·cases h
  split at h
  ·cases h
  obtain ⟨z,a2,h1,h⟩:=Rr.bind_okE h
  split at h
  ·injection h with h _
   injection h with h3 h4
   subst h4
   exact ⟨(zgm _ _ _ h1).1,zor hv _ _ _ h1⟩
  ·cases h
 ·cases h
def rwF (s:Sq) (p:Pi) (b:Bool) (pa fu fi:Fm) (A k:Nat):List Mb→Int→Nat→Fm→Fm
 | [],_,_,g=>g
 | m::r,q,X,g=>rwF s p b pa fu fi A k r (q+m.dl) (X+1) (smF A X k g (zgt (cxP s p b) s.ia s.ie p.al (q+m.dl) m pa fu fi (X:Int) (k:Int)).1)
def zoJ (s:Sq) (p:Pi) (b:Bool) (us:List (Int×List UInt8)) (pa fu fi:Fm) (A k:Nat) (g:Fm):Fm×Bool:=
 match fnu us k with
 | none=>(g,false)
 | some u=>match slT s p b u.1 u.2 with
  | .ok x _=>(rwF s p b pa fu fi A k x.2 (x.1:Int) 0 g,true)
  | .er _ _=>(g,false)
def zcj (s:Sq) (p:Pi) (b:Bool) (us:List (Int×List UInt8)) (pa fu fi:Fm) (A:Nat) (g:Fm):Nat→Fm×List Bool
 | 0=>(g,[])
 | k+1=>((zoJ s p b us pa fu fi A k (zcj s p b us pa fu fi A g k).1).1,(zcj s p b us pa fu fi A g k).2++[(zoJ s p b us pa fu fi A k (zcj s p b us pa fu fi A g k).1).2])
theorem zdD (s:Sq) (p:Pi) (b:Bool) (us:List (Int×List UInt8)) (pa fu fi:Fm) (A:Nat) (g:Fm):∀ k,(zcj s p b us pa fu fi A g k).2.length=k
 | 0=>rfl
 | k+1=>by rw [zcj,List.length_append,zdD s p b us pa fu fi A g k];rfl
theorem zmB {s:Sq} {p:Pi} {pa fu fi:Fm} {b:Bool} {A B:Nat} (h:DecOk s p pa fu fi b A B):Gok A B (zj7 s p pa):=by
 have ew:=h.w
 have eg:=h.g
 unfold zj7
 by_cases hz:pa.w=0
 ·rw [if_pos hz,ew,eg,show (((16 * A:Nat):Int) / 16).toNat=A by omega,show (((16 * B:Nat):Int) / 16).toNat=B by omega]
  exact ⟨rfl,rfl,h.ra,h.rb,by simp [flt],by simp [flt],by simp [flt]⟩
 ·rw [if_neg hz]
  obtain ⟨g1,g2,g3⟩:=zit h.mp hz
  obtain ⟨v1,v2⟩:=zla h.hv g1 g2 g3
  by_cases h3:p.st=3
  ·rw [if_pos h3]
   exact zi3 h.ra h.rb g1 (by omega) (by have:=h.h3 h3;omega)
  ·rw [if_neg h3]
   have:=(h.h4 h3).1
   have:=h.st
   exact zhQ h.ra h.rb v1 (by omega) (by omega) (by omega)
theorem zlO {s:Sq} {p:Pi} {pa fu fi:Fm} {b:Bool} {A B k:Nat} (h:DecOk s p pa fu fi b A B) (hk:k<B):∀ (l:List Mb) (q:Int) (X:Nat) (g:Fm),Gok A B g→X+l.length≤A→(∀ m∈l,fmS (cxP s p b) m=true)→(∀ x∈zks q l,1≤x∧x≤31)→Gok A B (rwF s p b pa fu fi A k l q X g)
 | [],_,_,g,hg,_,_,_=>hg
 | m::r,q,X,g,hg,hX,hf,hq=>by
  rw [rwF]
  rw [List.length_cons] at hX
  have e:=zlU h (hf m (List.mem_cons_self ..)) p.al (hq (q+m.dl) (List.mem_cons_self ..)) (X:=X) (Y:=k) (by omega) hk
  exact zlO h hk r _ _ _ (zon hg (zlV e) (by omega) hk) (by omega) (fun m hm=>hf m (List.mem_cons_of_mem _ hm)) (fun x hx=>hq x (List.mem_cons_of_mem _ hx))
theorem zsT {s:Sq} {p:Pi} {pa fu fi:Fm} {b:Bool} {A B:Nat} (h:DecOk s p pa fu fi b A B):wmb s=A:=by
 unfold wmb
 rw [h.w,zx _ _ (by omega)]
 omega
theorem zoI {s:Sq} {p:Pi} {pa fu fi:Fm} {b:Bool} {A B k:Nat} (h:DecOk s p pa fu fi b A B) (hk:k<B) (us:List (Int×List UInt8)) {g:Fm} (hg:Gok A B g):Gok A B (zoJ s p b us pa fu fi A k g).1:=by
 unfold zoJ
 split
 ·exact hg
 ·split
  ·rename_i x a1 hs
   obtain ⟨v,l⟩:=x
   obtain ⟨e1,e2⟩:=zop h.vc hs
   exact zlO h hk l _ 0 g hg (by rw [e1,zsT h];omega) e2 (zs4 hs).2.2
  ·exact hg
theorem zeT {s:Sq} {p:Pi} {pa fu fi:Fm} {b:Bool} {A B:Nat} (h:DecOk s p pa fu fi b A B) (us:List (Int×List UInt8)) {g:Fm} (hg:Gok A B g):∀ k,k≤B→Gok A B (zcj s p b us pa fu fi A g k).1
 | 0,_=>hg
 | k+1,hk=>zoI h (by omega) us (zeT h us hg k (by omega))
def flR (B:Nat) (l:List Bool):List PV:=(l++List.replicate (B - l.length) false).map PV.bool
theorem zmn {B:Nat} {l:List Bool} (h:l.length≤B):(flR B l).length=B:=by simp [flR];omega
theorem zsi {B k:Nat} {l:List Bool} (h:l.length=k) (hk:k<B):(flR B l).set k (.bool true)=flR B (l++[true]):=by
 unfold flR
 subst h
 rw [show B - l.length=(B - (l++[true]).length)+1 by simp;omega,List.replicate_succ,List.map_append,List.map_append,List.map_append,List.set_append_right _ _ (by simp)]
 simp
theorem zuN {B k:Nat} {l:List Bool} (h:l.length=k) (hk:k<B):flR B l=flR B (l++[false]):=by
 unfold flR
 subst h
 rw [show B - l.length=(B - (l++[false]).length)+1 by simp;omega,List.replicate_succ]
 simp
theorem zwF (B:Nat):flR B []=List.replicate B (.bool false):=by simp [flR]
theorem zsj {B:Nat} {l:List Bool} (h:l.length=B):flR B l=l.map PV.bool:=by simp [flR,h]
theorem zp6 (B:Nat) (l:List Bool) (n:Nat):∀ x∈flR B l,Scoped n x:=fun x hx=>by
 obtain ⟨y,_,rfl⟩:=List.mem_map.1 hx
 exact .bool _
def dgH (H:za) (s:Sq) (p:Pi) (U:List (List UInt8)) (us:List (Int×List UInt8)) (pa fu fi g:Fm) (r:Nat) (l:List Bool):za:=H++[⟨29,0,sqc s⟩,⟨39,0,cdc p U us⟩,⟨87,0,fmc pa++(fmc fu++fmc fi)⟩,⟨33,0,[.int .i64 0,.int .i64 0,.slice [] 0 true,.slice [] 0 true,.slice [] 0 true]⟩,⟨33,0,fmc g⟩,⟨4,0,flR r l⟩,mpB r]
theorem zmg (H:za) (s:Sq) (p:Pi) (U:List (List UInt8)) (us:List (Int×List UInt8)) (pa fu fi g:Fm) (r:Nat) (l:List Bool) (h:HSc H):HSc (dgH H s p U us pa fu fi g r l):=ziA (fun b hb x hx=>by
 simp only [List.mem_cons,List.not_mem_nil,or_false] at hb
 rcases hb with rfl|rfl|rfl|rfl|rfl|rfl|rfl
 ·exact zbn _ _ x hx
 ·exact ziQ _ _ _ _ x hx
 ·rcases List.mem_append.1 hx with hx|hx
  ·exact za3 _ _ _ _ _ _ _ _ _ _ _ _ x hx
  ·rcases List.mem_append.1 hx with hx|hx
   ·exact za3 _ _ _ _ _ _ _ _ _ _ _ _ x hx
   ·exact za3 _ _ _ _ _ _ _ _ _ _ _ _ x hx
 ·exact za3 _ 0 0 [] [] [] _ _ _ _ _ _ x hx
 ·exact za3 _ _ _ _ _ _ _ _ _ _ _ _ x hx
 ·exact zp6 _ _ _ x hx
 ·exact zlR _ _ x hx) h
def zbl (s:Sq) (p:Pi) (us:List (Int×List UInt8)) (pa fu fi:Fm) (b:Bool):(Fm×List Bool)×Int:=
 if ziM s p pa fu fi b=0 then (zcj s p b us pa fu fi (s.w / 16).toNat (zj7 s p pa) (za2 s p).toNat,0) else ((f0,[]),ziM s p pa fu fi b)
def zeD (r:(Fm×List Bool)×Int):PV:=if r.2=0 then .tup [.agg (fmc r.1.1),.slice (r.1.2.map PV.bool) r.1.2.length false,.int .i64 0] else .tup [.agg [.int .i64 0,.int .i64 0,.slice [] 0 true,.slice [] 0 true,.slice [] 0 true],.slice [] 0 true,.int .i64 r.2]
set_option maxHeartbeats 16000000 in
set_option maxRecDepth 100000 in
theorem zfg (s:Sq) (p:Pi) (U:List (List UInt8)) (us:List (Int×List UInt8)) (pa fu fi:Fm) (b:Bool) (hs:SqOk s) (hu:us.length≤1000000) (hul:∀ u∈us,zhl u.1∧u.2.length≤100000000) (H:za):
  CallOk Tryz.prog 36 [.agg (sqc s),.agg (cdc p U us),.agg (fmc pa++(fmc fu++fmc fi)),.bool b] H (zeD (zbl s p us pa fu fi b)) H:=by
 have h1:=za8 s
 have h2:=zbs s hs
 have h3:=zdf s hs
 have c1:=zg7 p U us
 have c2:=zf1 p U us
 have c3:=zwP p U us
 have c4:=zwO p U us
 have c5:(cdc p U us)[5]? =some (.bool p.al):=rfl
 have rl:(fmc pa++(fmc fu++fmc fi)).length=15:=rfl
 have rc:(fmc pa++(fmc fu++fmc fi)).all PV.cell=true:=rfl
 have rt:List.take 15 (fmc pa++(fmc fu++fmc fi))=fmc pa++(fmc fu++fmc fi):=rfl
 have r0:List.take 5 (fmc pa++(fmc fu++fmc fi))=fmc pa:=rfl
 have F5:∀ g:Fm,(fmc g).all PV.cell=true:=fun _=>rfl
 have F7:∀ g:Fm,(fmc g).length=5:=fun _=>rfl
 have F8:∀ g:Fm,List.take 5 (fmc g)=fmc g:=fun _=>rfl
 have F9:∀ g:Fm,List.drop 5 (fmc g)=[]:=fun _=>rfl
 have z9:List.drop 5 [PV.int .i64 0,PV.int .i64 0,PV.slice [] 0 true,PV.slice [] 0 true,PV.slice [] 0 true]=[]:=rfl
 have de:=fun K=>zuW s p pa fu fi b hs K
 have h0:ziM s p pa fu fi b=0→∃ A B,DecOk s p pa fu fi b A B:=DecOk.of
 unfold zbl
 generalize ziM s p pa fu fi b=e at de h0 ⊢
 refine CallOk.body (F0:=[(0,.agg (sqc s)),(1,.agg (cdc p U us)),(2,.agg (fmc pa++(fmc fu++fmc fi))),(3,.bool b)]) Tryz.func36 rfl Tryz.ntmps36 Tryz.results36 rfl (by kernel_rfl) rfl ?_
 refine PW.f (fun K k=>by simp (maxSteps:=3000000) (disch:=omega) only [go_sem,↓reduceIte,reduceCtorEq,h1,c1,rc];exact k) ?_
 (repeat refine PW.seq ?_)
 refine PW.scope ?_
 refine PW.f (fun K k=>by simp (maxSteps:=3000000) (disch:=omega) only [go_sem,↓reduceIte,reduceCtorEq,h2,h3,c2,c3,rl,rt];refine VCx.call (de _) rfl ?_;simp (maxSteps:=3000000) (disch:=omega) only [go_sem,↓reduceIte,reduceCtorEq,h2,h3,c2,c3,rl,rt];exact k) ?_
 refine PW.e ?_
 (repeat refine PW.seq ?_);refine PW.cond (t:=_) rfl (fun h=> ?_) (fun h=> ?_)
 ·have he:e≠0:=by simpa using h
  rw [if_neg he]
  unfold zeD
  rw [if_neg (by exact he)]
  refine PW.e ?_
  refine PW.ret ⟨.tup [.agg [.int .i64 0,.int .i64 0,.slice [] 0 true,.slice [] 0 true,.slice [] 0 true],.slice [] 0 true,.int .i64 e],by simp (maxSteps:=3000000) (disch:=omega) only [go_sem,↓reduceIte,reduceCtorEq,zd,zg,List.mapM_cons,List.mapM_nil,Option.pure_def,Option.bind_eq_bind,Option.bind_some,Array.toList],?_⟩
  exact Fin.base (.id (.tup (asc fun x hx=>by
   simp only [List.mem_cons,List.not_mem_nil,or_false] at hx
   rcases hx with rfl|rfl|rfl
   ·exact zB (za3 _ 0 0 [] [] [] _ _ _ _ _ _)
   ·exact zo (fun x hx=>by cases hx)
   ·exact .int _ _)))
 have he:e=0:=by simpa using h
 subst he
 rw [if_pos rfl]
 obtain ⟨A,B,hd⟩:=h0 rfl
 refine PW.skip ?_
 have co:=fun K=>zuY s p pa hs hd.hv hd.mp K
 have hcg:=zmB hd
 have ro:=fun K=>zjr s p K hs
 have er:=hd.r
 have eA:(s.w / 16).toNat=A:=by rw [hd.w];omega
 rw [er] at ro ⊢
 rw [eA,Int.toNat_natCast]
 generalize zj7 s p pa=g0 at co hcg ⊢
 have hB:=hd.rb
 have rb:=fun K=>zt3 B K (by omega)
 have zb:(List.replicate B [PV.bool false]).flatten=flR B []:=by
  rw [zwF]
  clear hd er ro rb hB hcg
  induction B with
  | zero=>rfl
  | succ n ih=>simp [List.replicate_succ]
 refine PW.f (fun K k=>by simp (maxSteps:=3000000) (disch:=omega) only [go_sem,↓reduceIte,reduceCtorEq,h2,h3,c2,c3,rl,r0,F5,F7];refine VCx.call (co _) rfl ?_;simp (maxSteps:=3000000) (disch:=omega) only [go_sem,↓reduceIte,reduceCtorEq,h2,h3,c2,c3,rl,r0,F5,F7];exact k) ?_
 refine PW.e ?_
 refine PW.us ?_
 refine PW.f (fun K k=>by simp (maxSteps:=3000000) (disch:=omega) only [go_sem,↓reduceIte,reduceCtorEq,h2,h3,c2,c3];refine VCx.call (ro _) rfl ?_;simp (maxSteps:=3000000) (disch:=omega) only [go_sem,↓reduceIte,reduceCtorEq,h2,h3,c2,c3];exact k) ?_
 refine PW.f (fun K k=>by simp (maxSteps:=3000000) (disch:=omega) only [go_sem,↓reduceIte,reduceCtorEq];refine VCx.call (rb _) rfl ?_;simp (maxSteps:=3000000) (disch:=omega) only [go_sem,↓reduceIte,reduceCtorEq];exact k) ?_
 rw [zb]
 refine PW.seq ?_
 refine PW.label ?_
 refine PW.e ?_
 (repeat refine PW.seq ?_);refine PW.block (PW.loop ?_)
 suffices hl1:∀ k:Nat,k≤B→PL Tryz.prog _ _ [(3,.bool b),(4,.ptr H.length 0 0),(5,.ptr (H.length+1) 0 0),(6,.ptr (H.length+2) 0 0),(8,.ptr (H.length+3) 0 0),(12,.ptr (H.length+4) 0 0),(14,.msl (H.length+5) 0 0 B 1 true),(15,.mp (H.length+6) 0),(59,.int .i64 (B:Int)),(60,.int .i64 (k:Int))] (dgH H s p U us pa fu fi (zcj s p b us pa fu fi A g0 k).1 B (zcj s p b us pa fu fi A g0 k).2) _ by
  exact PL.at [3,4,5,6,8,12,14,15,59,60] (hl1 0 (by omega)) rfl rfl
 clear ro rb co de
 refine cnt B (fun k hk ih=> ?_) ?_
 ·have ct:=zhk hk
  have hgk:=zeT hd us hcg k (by omega)
  have hlk:=zdD s p b us pa fu fi A g0 k
  rw [zcj] at ih
  generalize zcj s p b us pa fu fi A g0 k=R at ih hgk hlk ⊢
  obtain ⟨g,fl⟩:=R
  simp only at ih hgk hlk ⊢
  have hlB:=zmn (B:=B) (l:=fl) (by omega)
  have cu:=fun (K:za) (hK:K[H.length+6]? =some (mpB B))=>zqs p U us (H.length+6) B k K hK hk hu
  have vb:∀ (g':Fm) (fl':List Bool) (K:za),Vs { N:=134,H0:=H } [(3,.bool b),(4,.ptr H.length 0 0),(5,.ptr (H.length+1) 0 0),(6,.ptr (H.length+2) 0 0),(8,.ptr (H.length+3) 0 0),(12,.ptr (H.length+4) 0 0),(14,.msl (H.length+5) 0 0 B 1 true),(15,.mp (H.length+6) 0),(59,.int .i64 (B:Int)),(60,.int .i64 ((k+1:Nat):Int))] (dgH H s p U us pa fu fi g' B fl'++K) [(3,.bool b),(4,.ptr H.length 0 0),(5,.ptr (H.length+1) 0 0),(6,.ptr (H.length+2) 0 0),(8,.ptr (H.length+3) 0 0),(12,.ptr (H.length+4) 0 0),(14,.msl (H.length+5) 0 0 B 1 true),(15,.mp (H.length+6) 0),(59,.int .i64 (B:Int)),(60,.int .i64 ((k+1:Nat):Int))] (dgH H s p U us pa fu fi g' B fl'):=fun g' fl' K=>by
   refine Vs.trim (zmg H s p U us pa fu fi g' B fl') (by simp [dgH]) rfl ?_
   have hl:(dgH H s p U us pa fu fi g' B fl').length=H.length+7:=by simp [dgH]
   rw [hl]
   exact ⟨.id (.bool _),.id (.ptr (by omega)),.id (.ptr (by omega)),.id (.ptr (by omega)),.id (.ptr (by omega)),.id (.ptr (by omega)),.id (.msl (by omega)),.id (.mp (by omega)),.id (.int _ _),.id (.int _ _),trivial⟩
  refine PL.round ?_;refine PW.f (fun K k=>by simp (maxSteps:=3000000) (disch:=omega) only [go_sem,↓reduceIte,reduceCtorEq,ct];exact k) ?_;refine PW.t ?_
  refine PW.skip ?_;(repeat refine PW.seq ?_);refine PW.block ?_
  refine PW.e ?_
  (repeat refine PW.seq ?_);refine PW.rg rfl fun K hK=> ?_;simp (maxSteps:=3000000) (disch:=omega) only [go_sem,↓reduceIte,reduceCtorEq,dgH,c2,c4]
  refine VCx.call (cu _ (apn _ _ 6)) rfl ?_
  unfold zoJ at ih
  have hno:dgH H s p U us pa fu fi g B (fl++[false])=dgH H s p U us pa fu fi g B fl:=by unfold dgH;rw [←zuN hlk hk]
  cases hfn:fnu us k with
  | none=>
   rw [hfn] at ih
   simp only at ih
   simp (maxSteps:=3000000) (disch:=omega) only [go_sem,↓reduceIte,reduceCtorEq,cuV,dgH,c2,c4]
   refine hK _ _ ?_;clear hK K
   refine PW.e ?_
   refine PW.t ?_
   refine PW.exit ?_
   refine PW.e ?_
   exact PL.at [3,4,5,6,8,12,14,15,59,60] (PL.view (vb g fl [⟨61,0,[.int .i64 0,.slice [] 0 true]⟩]) (by rw [←hno];exact ih)) rfl (by unfold dgH;simp)
  | some u=>
   obtain ⟨t,q⟩:=u
   obtain ⟨hmem,_⟩:=zmk hfn
   have hq:=hul _ hmem
   have so:=fun K=>zoo s p b t q false K hs hq.1 hq.2
   rw [hfn] at ih
   dsimp only at ih
   simp (maxSteps:=3000000) (disch:=omega) only [go_sem,↓reduceIte,reduceCtorEq,cuV,dgH,c2,c4]
   refine hK _ _ ?_;clear hK K
   refine PW.e ?_
   refine PW.us ?_
   (repeat refine PW.seq ?_);refine PW.rg rfl fun K hK=> ?_;simp (maxSteps:=3000000) (disch:=omega) only [go_sem,↓reduceIte,reduceCtorEq,h2,h3,c2,c3]
   refine VCx.call (so _) rfl ?_
   cases hsl:slT s p b t q with
   | er e a1=>
    rw [hsl] at ih
    dsimp only at ih
    have d0:((e:Int)+1 !=0)=true:=by simp;omega
    simp (maxSteps:=3000000) (disch:=omega) only [go_sem,↓reduceIte,reduceCtorEq,rvT,ecd];refine hK _ _ ?_;clear hK K
    refine PW.f (fun K k=>by simp (maxSteps:=3000000) (disch:=omega) only [go_sem,↓reduceIte,reduceCtorEq,d0];exact k) ?_
    refine PW.t ?_
    refine PW.exit ?_
    refine PW.e ?_
    exact PL.at [3,4,5,6,8,12,14,15,59,60] (PL.view (vb g fl [⟨61,0,[.int .i64 t,.slice (bs q) q.length false]⟩]) (by rw [←hno];exact ih)) rfl (by unfold dgH;simp)
   | ok x a1=>
    obtain ⟨v,l⟩:=x
    rw [hsl] at ih
    dsimp only at ih
    have hsb:=zs4 hsl
    obtain ⟨e1,e2⟩:=zop hd.vc hsl
    rw [zsT hd] at e1
    have lm:=zaD mbc 408 l (fun x hx=>zT x (hsb.2.1 x hx))
    have hll:=hsb.1
    clear so cu
    simp (maxSteps:=3000000) (disch:=omega) only [go_sem,↓reduceIte,reduceCtorEq,rvT];refine hK _ _ ?_;clear hK K
    refine PW.e ?_
    refine PW.us ?_
    refine PW.f (fun K k=>by simp (maxSteps:=3000000) (disch:=omega) only [go_sem,↓reduceIte,reduceCtorEq,F5,F7,F8];exact k) ?_
    refine PW.e ?_
    (repeat refine PW.seq ?_);refine PW.block (PW.loop ?_)
    obtain ⟨G',hG'⟩:∃ G',rwF s p b pa fu fi A k l (v:Int) 0 g=G':=⟨_,rfl⟩
    rw [hG'] at ih
    suffices hl2:∀ (j:Nat) (q1:Int) (gg:Fm),j≤l.length→Gok A B gg→(∀ x∈zks q1 (l.drop j),1≤x∧x≤31)→rwF s p b pa fu fi A k (l.drop j) q1 j gg=G'→PL Tryz.prog _ _ [(3,.bool b),(4,.ptr H.length 0 0),(5,.ptr (H.length+1) 0 0),(6,.ptr (H.length+2) 0 0),(8,.ptr (H.length+3) 0 0),(12,.ptr (H.length+4) 0 0),(14,.msl (H.length+5) 0 0 B 1 true),(15,.mp (H.length+6) 0),(16,.int .i64 (k:Int)),(19,.int .i64 q1),(22,.ptr (H.length+8) 0 0),(59,.int .i64 (B:Int)),(60,.int .i64 (k:Int)),(85,.slice (l.flatMap mbc) l.length false),(86,.int .i64 (l.length:Int)),(87,.int .i64 (j:Int))] (dgH H s p U us pa fu fi g B fl++[⟨61,0,[.int .i64 t,.slice (bs q) q.length false]⟩,⟨33,0,fmc gg⟩]) _ by
     exact PL.at [3,4,5,6,8,12,14,15,16,19,22,59,60,85,86,87] (hl2 0 v g (by omega) hgk hsb.2.2 hG') rfl (by unfold dgH;simp)
    intro j q1 gg hj hgg hbd hG
    induction hd2:l.length - j using Nat.strongRecOn generalizing j q1 gg with
    | _ d2 ih2=>
     refine PL.round ?_;refine PW.e ?_
     (repeat refine PW.seq ?_);refine PW.cond (t:=_) rfl (fun h=> ?_) (fun h=> ?_)
     ·have hjl:j<l.length:=by have:=of_decide_eq_true h;omega
      have ha:=zcn mbc 408 l j hjl (fun x hx=>zT x (hsb.2.1 x hx))
      have hfm:=e2 _ (List.getElem_mem hjl)
      have hlv:=hsb.2.1 _ (List.getElem_mem hjl)
      rw [List.drop_eq_getElem_cons hjl] at hbd hG
      simp only [zks,rwF] at hbd hG
      generalize l[j]=m at *
      have hb1:=hbd (q1+m.dl) (List.mem_cons_self ..)
      have hjA:j<A:=by omega
      have re0:=zlU hd hfm p.al hb1 hjA hk
      have r16:=zlV re0
      have re:=fun K=>zoN (cxP s p b) s p.al (q1+m.dl) m pa fu fi (j:Int) (k:Int) K hlv hs.ia hs.ie
      have cx:=fun K=>zqr s p b K hs
      generalize zgt (cxP s p b) s.ia s.ie p.al (q1+m.dl) m pa fu fi (j:Int) (k:Int)=T at re re0 r16 hG
      obtain ⟨gm,em⟩:=T
      simp only at re re0 r16 hG
      subst re0
      have sm:=fun K=>zoC A B j k gg gm hgg r16 hjA hk K
      have hsm:=zon hgg r16 hjA hk
      generalize smF A j k gg gm=g2 at sm hsm hG
      have m1:=zT m hlv
      have m2:=zer m
      have m3:List.take 408 (mbc m)=mbc m:=List.take_of_length_le (by omega)
      have m17:(mbc m)[17]? =some (.int .i64 m.dl):=rfl
      have cl4:(cxc (cxP s p b)).length=4:=rfl
      refine PW.skip ?_;(repeat refine PW.seq ?_);refine PW.block ?_
      refine PW.f (fun K k=>by simp (maxSteps:=3000000) (disch:=omega) only [go_sem,↓reduceIte,reduceCtorEq,ha,lm,m1,m2];exact k) ?_
      refine PW.f (fun K k=>by simp (maxSteps:=3000000) (disch:=omega) only [go_sem,↓reduceIte,reduceCtorEq,m1,m17];exact k) ?_
      refine PW.view (Vs.place 33) ?_
      (repeat refine PW.seq ?_);refine PW.drawi [H.length+10] [(25,[0])] [(25,0)] [101,111] mix (by kernel_rfl) (by simp<;>omega) fun K hK=> ?_
      simp (maxSteps:=3000000) (disch:=omega) only [go_sem,↓reduceIte,reduceCtorEq,zaF,dgH,h2,h3,c2,c3]
      refine VCj.read (fun _ _=>cx _) rfl ?_
      simp (maxSteps:=3000000) (disch:=omega) only [go_sem,↓reduceIte,reduceCtorEq,zaF,dgH,h2,h3,c2,c3,c5,rl,rt,m1,m3]
      refine VCj.read (fun _ _=>re _) rfl ?_
      simp (maxSteps:=3000000) (disch:=omega) only [go_sem,↓reduceIte,reduceCtorEq,F5,F7]
      refine hK _ _ ?_;clear hK K
      refine PW.e ?_
      refine PW.us ?_
      refine PW.f (fun K k=>by simp (maxSteps:=3000000) (disch:=omega) only [go_sem,↓reduceIte,reduceCtorEq,F5,F7,F8,F9];refine VCx.call (sm _) rfl ?_;simp (maxSteps:=3000000) (disch:=omega) only [go_sem,↓reduceIte,reduceCtorEq,F5,F7,F8,F9];exact k) ?_
      refine PW.e ?_
      refine PW.us ?_
      refine PW.e ?_
      have hnx:=ih2 (l.length - (j+1)) (by omega) (j+1) (q1+m.dl) g2 (by omega) hsm (fun x hx=>hbd x (List.mem_cons_of_mem _ hx)) hG rfl
      refine PL.view (Vs.trim (F1:=[(3,.bool b),(4,.ptr H.length 0 0),(5,.ptr (H.length+1) 0 0),(6,.ptr (H.length+2) 0 0),(8,.ptr (H.length+3) 0 0),(12,.ptr (H.length+4) 0 0),(14,.msl (H.length+5) 0 0 B 1 true),(15,.mp (H.length+6) 0),(16,.int .i64 (k:Int)),(19,.int .i64 (q1+m.dl)),(22,.ptr (H.length+8) 0 0),(59,.int .i64 (B:Int)),(60,.int .i64 (k:Int)),(85,.slice (l.flatMap mbc) l.length false),(86,.int .i64 (l.length:Int)),(87,.int .i64 ((j+1:Nat):Int))]) (H1:=dgH H s p U us pa fu fi g B fl++[⟨61,0,[.int .i64 t,.slice (bs q) q.length false]⟩,⟨33,0,fmc g2⟩]) (K:=[⟨154,0,mbc m⟩,⟨33,1,fmc gm⟩]) (fun hh=>ziA (fun b' hb' x hx=> ?_) (zmg H s p U us pa fu fi g B fl hh)) (by simp [dgH]) (by unfold dgH;simp) ?_) hnx
      ·simp only [List.mem_cons,List.not_mem_nil,or_false] at hb'
       rcases hb' with rfl|rfl
       ·simp only [List.mem_cons,List.not_mem_nil,or_false] at hx
        rcases hx with rfl|rfl
        ·exact .int _ _
        ·exact zo (zq _ _)
       ·exact za3 _ _ _ _ _ _ _ _ _ _ _ _ x hx
      ·have hl:(dgH H s p U us pa fu fi g B fl++[⟨61,0,[.int .i64 t,.slice (bs q) q.length false]⟩,⟨33,0,fmc g2⟩]:za).length=H.length+9:=by simp [dgH]
       rw [hl]
       exact ⟨.id (.bool _),.id (.ptr (by omega)),.id (.ptr (by omega)),.id (.ptr (by omega)),.id (.ptr (by omega)),.id (.ptr (by omega)),.id (.msl (by omega)),.id (.mp (by omega)),.id (.int _ _),.id (.int _ _),.id (.ptr (by omega)),.id (.int _ _),.id (.int _ _),.id (zo (zpu _ _)),.id (.int _ _),.id (.int _ _),trivial⟩
     ·have hjl:j=l.length:=by have:=of_decide_eq_false h;omega
      subst hjl
      rw [List.drop_length] at hG
      simp only [rwF] at hG
      subst hG
      refine PW.exit ?_
      refine PW.f (fun K k=>by simp (maxSteps:=3000000) (disch:=omega) only [go_sem,↓reduceIte,reduceCtorEq,dgH,F5,F7,F8,F9,hlB,zsi hlk hk];exact k) ?_
      refine PW.e ?_
      exact PL.at [3,4,5,6,8,12,14,15,59,60] (PL.view (vb gg (fl++[true]) [⟨61,0,[.int .i64 t,.slice (bs q) q.length false]⟩,⟨33,0,fmc gg⟩]) ih) rfl (by unfold dgH;simp)
 have hlen:=zdD s p b us pa fu fi A g0 B
 generalize zcj s p b us pa fu fi A g0 B=R at hlen ⊢
 obtain ⟨g,fl⟩:=R
 simp only at hlen ⊢
 refine PL.round ?_;refine PW.f (fun K k=>by simp (maxSteps:=3000000) (disch:=omega) only [go_sem,↓reduceIte,reduceCtorEq,zjR B];exact k) ?_;refine PW.u ?_
 refine PW.exit ?_
 refine PW.f (fun K k=>by simp (maxSteps:=3000000) (disch:=omega) only [go_sem,↓reduceIte,reduceCtorEq,dgH,F5,F7,F8,z9];exact k) ?_
 unfold zeD
 rw [if_pos rfl]
 refine PW.ret ⟨.tup [.agg (fmc g),.msl (H.length+5) 0 0 B 1 true,.int .i64 0],by simp (maxSteps:=3000000) (disch:=omega) only [go_sem,↓reduceIte,reduceCtorEq,zd,zg,List.mapM_cons,List.mapM_nil,Option.pure_def,Option.bind_eq_bind,Option.bind_some,Array.toList,F7,F8],?_⟩
 rw [←zsj hlen,hlen]
 refine Fin.base (Fz.tupC ⟨.id (zB (za3 _ _ _ _ _ _ _ _ _ _ _ _)),Fz.mslC (e:=4) (xs:=flR B fl) (by omega) (apn _ _ 5) (by rw [zmn (by omega)];omega) (FzC.refl (zp6 _ _ _)),.id (.int _ _),trivial⟩)
structure Cdd where
 p:Pi
 U:List (List UInt8)
 us:List (Int×List UInt8)
structure Sho where
 fr:Fm
 f:Int
 l:Int
 ty:Int
 ok:Bool
 fi:Int
 tf:Bool
def zjm:Sho:=⟨f0,0,0,0,false,0,false⟩
def zlo (s:Sq) (cs:List Cdd):Bool:=(cs.all fun c=>zL s c.p)&&match cs with
 | [c]=>decide (c.p.st=3)
 | [c,d]=>zca c.p&&zaW c.p d.p
 | _=>false
def zmU (a b:Fm):Fm:=znK (a.w / 2).toNat (a.h / 2).toNat a b
def zlc (s:Sq) (cs:List Cdd) (pa fu:Fm):Fm×Bool×Int:=
 if zlo s cs then match cs with
  | [c]=>if (zbl s c.p c.us pa fu f0 false).2=0 then ((zbl s c.p c.us pa fu f0 false).1.1,(zbl s c.p c.us pa fu f0 false).1.2.all id,0) else (f0,false,(zbl s c.p c.us pa fu f0 false).2)
  | [c,d]=>if (zbl s c.p c.us pa fu f0 false).2=0 then
    (if (zbl s d.p d.us pa fu (zbl s c.p c.us pa fu f0 false).1.1 true).2=0 then
     (if c.p.st=2 then zmU (zbl s d.p d.us pa fu (zbl s c.p c.us pa fu f0 false).1.1 true).1.1 (zbl s c.p c.us pa fu f0 false).1.1 else zmU (zbl s c.p c.us pa fu f0 false).1.1 (zbl s d.p d.us pa fu (zbl s c.p c.us pa fu f0 false).1.1 true).1.1,(zbl s c.p c.us pa fu f0 false).1.2.all id&&(zbl s d.p d.us pa fu (zbl s c.p c.us pa fu f0 false).1.1 true).1.2.all id,0)
     else (f0,false,(zbl s d.p d.us pa fu (zbl s c.p c.us pa fu f0 false).1.1 true).2))
   else (f0,false,(zbl s c.p c.us pa fu f0 false).2)
  | _=>(f0,false,1)
 else (f0,false,1)
def zdv (x:It):Cdd:=⟨x.p,x.U,x.us⟩
def zbF (L:List It) (e:Ent):List Cdd:=((L.drop e.1.f.toNat).take (e.1.l.toNat+1 - e.1.f.toNat)).map zdv
def zcP (l:List Sho) (n:Int):Sho:=if n<0 then zjm else (l[n.toNat]?).getD zjm
def shE (L:List It) (e:Ent) (l:List Sho):Sho:=
 ⟨(zlc e.2.1 (zbF L e) (zcP l e.1.pa).fr (zcP l e.1.fu).fr).1,e.1.f,e.1.l,e.1.ty,((zlc e.2.1 (zbF L e) (zcP l e.1.pa).fr (zcP l e.1.fu).fr).2.1&&(decide (e.1.ty=1)||(zcP l e.1.pa).ok))&&(!decide (e.1.ty=3)||(zcP l e.1.fu).ok),if e.2.2.rp then 3 else 2,e.2.2.tf⟩
def dvN (L:List It) (es:List Ent):Nat→List Sho
 | 0=>[]
 | k+1=>dvN L es k++(match es[k]? with|some e=>[shE L e (dvN L es k)]|none=>[])
theorem zbY (L:List It) (es:List Ent):∀ k,k≤es.length→(dvN L es k).length=k
 | 0,_=>rfl
 | k+1,h=>by
  rw [dvN,List.getElem?_eq_getElem (by omega),List.length_append,zbY L es k (by omega)];rfl
theorem zqe (L:List It) (es:List Ent) {j:Nat}:∀ (k:Nat),j<k→k≤es.length→(dvN L es k)[j]? =(dvN L es (j+1))[j]?
 | 0,h,_=>by omega
 | k+1,h,hk=>by
  by_cases hj:j=k
  ·rw [hj]
  ·rw [dvN,List.getElem?_append_left (by rw [zbY L es k (by omega)];omega)]
   exact zqe L es k (by omega) (by omega)
def zdn (L:List It) (es:List Ent):Nat→List Sho
 | 0=>List.replicate es.length zjm
 | k+1=>match es[k]? with|some e=>(zdn L es k).set e.1.sh.toNat (shE L e (dvN L es k))|none=>zdn L es k
theorem zcA (L:List It) (es:List Ent):∀ k,(zdn L es k).length=es.length
 | 0=>by simp [zdn]
 | k+1=>by
  rw [zdn]
  split
  ·rw [List.length_set,zcA L es k]
  ·exact zcA L es k
theorem zin {L:List It} {es:List Ent} (h:SInv L es):∀ (k:Nat),k≤es.length→∀ (j:Nat) (e:Ent),j<k→es[j]? =some e→(zdn L es k)[e.1.sh.toNat]? =(dvN L es k)[j]?
 | 0,_,j,_,hj,_=>by omega
 | k+1,hk,j,e,hj,he=>by
  have hkk:k<es.length:=by omega
  have hl:=zcA L es k
  have hs:=h.s k _ (List.getElem?_eq_getElem hkk)
  rw [zdn,dvN,List.getElem?_eq_getElem hkk]
  dsimp only
  by_cases hjk:j=k
  ·subst hjk
   rw [List.getElem?_eq_getElem hkk] at he
   injection he with he
   subst he
   rw [List.getElem?_set,if_pos rfl,if_pos (by omega),List.getElem?_append_right (by rw [zbY L es j (by omega)];exact Nat.le_refl _),zbY L es j (by omega),Nat.sub_self]
   rfl
  ·have hne:es[k].1.sh.toNat≠e.1.sh.toNat:=fun hh=>by
    have hs2:=h.s j e he
    have:=h.i j k e es[k] he (List.getElem?_eq_getElem hkk) (by omega)
    exact hjk this
   rw [List.getElem?_set,if_neg hne,List.getElem?_append_left (by rw [zbY L es k (by omega)];omega)]
   exact zin h k (by omega) j e (by omega) he
def zro (es:List Ent) (out:List Sho) (n:Int):Sho:=if n<0 then zjm else match es[n.toNat]? with|some e=>(out[e.1.sh.toNat]?).getD zjm|none=>zjm
theorem zlT {L:List It} {es:List Ent} (h:SInv L es) {k:Nat} (hk:k≤es.length) {n:Int} (hn: -1≤n∧n<k):zro es (zdn L es k) n=zcP (dvN L es k) n:=by
 unfold zro zcP
 by_cases h0:n<0
 ·rw [if_pos h0,if_pos h0]
 ·rw [if_neg h0,if_neg h0,List.getElem?_eq_getElem (show n.toNat<es.length by omega)]
  dsimp only
  rw [zin h k hk n.toNat _ (by omega) (List.getElem?_eq_getElem (by omega))]
def za5 (L:List It):List Sho:=zdn L (zZ L) (zZ L).length
theorem zhE:∀ (n:Nat) (l:List Nat),l.Nodup→(∀ x∈l,x<n)→l.length≤n
 | 0,l,_,h=>by
  cases l with
  | nil=>exact Nat.le_refl _
  | cons a r=>exact absurd (h a (List.mem_cons_self ..)) (Nat.not_lt_zero _)
 | n+1,l,hd,h=>by
  have h1:=zhE n (l.filter (· ≠n)) (hd.sublist List.filter_sublist) fun x hx=>by
   simp only [List.mem_filter,decide_eq_true_eq] at hx
   have:=h x hx.1
   omega
  have h2:(l.filter (fun x=> !decide (x≠n))).length≤1:=by
   have h3:(l.filter (fun x=> !decide (x≠n))).Nodup:=hd.sublist List.filter_sublist
   have h4:∀ x∈l.filter (fun x=> !decide (x≠n)),x=n:=fun x hx=>by
    simp only [List.mem_filter] at hx
    simpa using hx.2
   generalize l.filter (fun x=> !decide (x≠n))=m at h3 h4
   match m with
   | []=>exact Nat.zero_le _
   | [a]=>exact Nat.le_refl _
   | a::b::r=>
    have e1:=h4 a (by simp)
    have e2:=h4 b (by simp)
    rw [e1,e2] at h3
    simp at h3
  have h5:(l.filter (· ≠n)).length+(l.filter (fun x=> !decide (x≠n))).length=l.length:=by
   rw [←List.countP_eq_length_filter,←List.countP_eq_length_filter]
   have:=List.length_eq_countP_add_countP (fun x=>decide (x≠n)) (l:=l)
   simp at this ⊢
   omega
  omega
theorem zgM:∀ (n:Nat) (l:List Nat),l.Nodup→(∀ x∈l,x<n)→l.length=n→l.Perm (List.range n)
 | 0,l,_,_,hl=>by
  rw [List.length_eq_zero_iff.1 hl];exact List.Perm.refl _
 | n+1,l,hd,h,hl=>by
  have hn:n∈l:=by
   refine Classical.byContradiction fun hn=> ?_
   have:=zhE n l hd fun x hx=>by
    have:=h x hx
    have:x≠n:=fun e=>hn (e▸hx)
    omega
   omega
  have hp:=List.perm_cons_erase hn
  have h1:=zgM n (l.erase n) (hd.erase n) (fun x hx=>by
   have h2:=h x (List.mem_of_mem_erase hx)
   have h3:x≠n:=((List.Nodup.mem_erase_iff hd).1 hx).1
   omega) (by rw [List.length_erase_of_mem hn,hl];rfl)
  rw [List.range_succ]
  exact hp.trans ((List.Perm.cons n h1).trans (List.perm_append_comm (l₁:=[n])))
def tw (H:za) (i j:Nat) (A B:Blk):za:=(H.set i A).set j B
theorem ztG (H:za) (i j:Nat) (A B:Blk) (h:i<H.length∧i≠j):(tw H i j A B)[i]? =some A:=by
 unfold tw;rw [List.getElem?_set_ne (by omega)];simp [h.1]
theorem tw_1 (H:za) (i j:Nat) (A B:Blk) (h:j<H.length):(tw H i j A B)[j]? =some B:=by
 unfold tw;simp [h]
theorem ztF (H:za) (i j:Nat) (A B:Blk):(tw H i j A B).length=H.length:=by simp [tw]
theorem zsY (H:za) (i j:Nat) (A B C D:Blk) (h:i≠j):tw (tw H i j A B) i j C D=tw H i j C D:=by
 unfold tw;rw [List.set_comm _ _ (by omega:i≠j),List.set_set,List.set_comm _ _ (by omega:j≠i),List.set_set]
theorem zd0 {H:za} {i:Nat} {A:Blk} (h:H[i]? =some A):H.set i A=H:=by
 apply List.ext_getElem?
 intro j
 rw [List.getElem?_set]
 split
 ·rename_i e;subst e
  split
  ·exact h.symm
  ·rename_i hn;exact absurd (List.getElem?_eq_some_iff.1 h).1 hn
 ·rfl
theorem zsZ {H:za} {i j:Nat} {A B:Blk} (hA:∀ x∈A.cells,Scoped H.length x) (hB:∀ x∈B.cells,Scoped H.length x) (h:HSc H):HSc (tw H i j A B):=
 HSc.set (HSc.set h hA) (by rw [List.length_set];exact hB)
end Go.Proofs.YtjgmdlcjbgiekaaGreatDoor.Sc
