/-
  Parts of the proof, put together in one text. No condition.
-/
import Derived.Test.YtjgmdlcjbgiekaaGreatDoorP18
namespace Go.Proofs.YtjgmdlcjbgiekaaGreatDoor.Sc
set_option linter.all false
open Pm Ty Go.RowKit
def fnu:List (Int×List UInt8)→Nat→Option (Int×List UInt8)
 | [],_=>none
 | u::r,k=>if u.1=1+(k:Int) then some u else fnu r k
theorem zmc:∀ {us:List (Int×List UInt8)} {k:Nat} {u:Int×List UInt8},fnu us k=some u→u∈us∧u.1=1+(k:Int)
 | x::r,k,u,h=>by
  unfold fnu at h
  split at h
  ·injection h with h
   rw [←h]
   exact ⟨List.mem_cons_self ..,by assumption⟩
  ·have:=zmc h
   exact ⟨List.mem_cons_of_mem _ this.1,this.2⟩
theorem zp1 (us:List (Int×List UInt8)) (j k:Nat) (hj:j<us.length):fnu (us.drop j) k=if us[j].1=1+(k:Int) then some us[j] else fnu (us.drop (j+1)) k:=by
 rw [List.drop_eq_getElem_cons hj];rfl
def cuV:Option (Int×List UInt8)→PV
 | none=>.tup [.agg [.int .i64 0,.slice [] 0 true],.bool false]
 | some u=>.tup [.agg [.int .i64 u.1,.slice (bs u.2) u.2.length false],.bool true]
theorem zqm (n:Nat):∀ o,Scoped n (cuV o)
 | none=>.tup (zay fun x hx=>by
   simp only [List.mem_cons,List.not_mem_nil,or_false] at hx
   rcases hx with rfl|rfl
   ·exact .agg (zay fun x hx=>by
     simp only [List.mem_cons,List.not_mem_nil,or_false] at hx
     rcases hx with rfl|rfl
     ·exact .int _ _
     ·exact zr (fun x hx=>by cases hx))
   ·exact .bool _)
 | some u=>.tup (zay fun x hx=>by
   simp only [List.mem_cons,List.not_mem_nil,or_false] at hx
   rcases hx with rfl|rfl
   ·exact .agg (zay fun x hx=>by
     simp only [List.mem_cons,List.not_mem_nil,or_false] at hx
     rcases hx with rfl|rfl
     ·exact .int _ _
     ·exact zr (zq _ _))
   ·exact .bool _)
set_option maxHeartbeats 4000000 in
theorem zqo (p:Pi) (U:List (List UInt8)) (us:List (Int×List UInt8)) (i r k:Nat) (H:za) (hi:H[i]? =some (mpB r)) (hk:k<r) (hu:us.length≤1000000):
  CallOk Tryz.prog 73 [.agg (cdc p U us),.mp i 0,.int .i64 (k:Int)] H (cuV (fnu us k)) H:=by
 have h1:=zg8 p U us
 have h7:=zts p U us
 have h8:=zf2 p U us
 have ul:=znM us
 have il:=(List.getElem?_eq_some_iff.1 hi).1
 unfold mpB at hi
 have gi:∀ K,(H++K)[i]? =some ⟨139,0,zh5 r⟩:=fun K=>by rw [List.getElem?_append_left il];exact hi
 have hsc:HSc H→HSc (H++[⟨39,0,cdc p U us⟩,⟨61,0,[.int .i64 0,.slice [] 0 true]⟩]):=ziz (fun b hb x hx=>by
  simp only [List.mem_cons,List.not_mem_nil,or_false] at hb
  rcases hb with rfl|rfl
  ·exact ziM _ _ _ _ x hx
  ·simp only [List.mem_cons,List.not_mem_nil,or_false] at hx
   rcases hx with rfl|rfl
   ·exact .int _ _
   ·exact zr (fun x hx=>by cases hx))
 have fz:∀ (j:Nat) (F:Fr) (K:za),slot F 1= .mp i 0→slot F 2= .int .i64 (k:Int)→slot F 6= .ptr (H.length+1) 0 0→slot F 13= .slice (uq us) us.length false→slot F 14= .int .i64 (us.length:Int)→slot F 15= .int .i64 (j:Int)→FzF (H++[⟨39,0,cdc p U us⟩,⟨61,0,[.int .i64 0,.slice [] 0 true]⟩]:za).length K F [(1,.mp i 0),(2,.int .i64 (k:Int)),(6,.ptr (H.length+1) 0 0),(13,.slice (uq us) us.length false),(14,.int .i64 (us.length:Int)),(15,.int .i64 (j:Int))]:=fun j F K q1 q2 q3 q4 q5 q6=>by
  refine ⟨?_,?_,?_,?_,?_,?_,trivial⟩
  ·rw [q1];exact .id (.mp (by simp;omega))
  ·rw [q2];exact .id (.int _ _)
  ·rw [q3];exact .id (.ptr (by simp))
  ·rw [q4];exact .id (zr (zs1 _ _))
  ·rw [q5];exact .id (.int _ _)
  ·rw [q6];exact .id (.int _ _)
 refine CallOk.body (F0:=[(0,.agg (cdc p U us)),(1,.mp i 0),(2,.int .i64 (k:Int))]) Tryz.func73 rfl Tryz.ntmps73 Tryz.results73 rfl (by kernel_rfl) rfl ?_
 refine PW.f (fun K k=>by simp (disch:=omega) only [go_sem,↓reduceIte,reduceCtorEq,h1];exact k) ?_
 refine PW.f (fun K k=>by simp (disch:=omega) only [go_sem,↓reduceIte,reduceCtorEq,h7,h8];exact k) ?_
 (repeat refine PW.seq ?_);refine PW.block (PW.loop ?_)
 suffices hl1:∀ j:Nat,j≤us.length→fnu (us.drop j) k=fnu us k→PL Tryz.prog _ _ [(1,.mp i 0),(2,.int .i64 (k:Int)),(6,.ptr (H.length+1) 0 0),(13,.slice (uq us) us.length false),(14,.int .i64 (us.length:Int)),(15,.int .i64 (j:Int))] (H++[⟨39,0,cdc p U us⟩,⟨61,0,[.int .i64 0,.slice [] 0 true]⟩]) _ by
  exact PL.at [1,2,6,13,14,15] (hl1 0 (by omega) rfl) rfl rfl
 intro j hj hf
 induction hd:us.length - j using Nat.strongRecOn generalizing j with
 | _ d ih=>
  refine PL.round ?_;refine PW.e ?_
  (repeat refine PW.seq ?_);refine PW.cond (t:=_) rfl (fun h=> ?_) (fun h=> ?_)
  ·have hjr:j<us.length:=by have:=of_decide_eq_true h;omega
   have ua:=zvu us j hjr
   rw [zp1 us j k hjr] at hf
   generalize us[j]=u at *
   obtain ⟨t,q⟩:=u
   simp only [uq1] at ua
   dsimp only at hf
   refine PW.skip ?_;(repeat refine PW.seq ?_);refine PW.block ?_
   refine PW.f (fun K k=>by simp (disch:=omega) only [go_sem,↓reduceIte,reduceCtorEq,ua,ul];exact k) ?_
   obtain ⟨m1,m2⟩:=zeV t r
   have done:∀ F,slot F 6= .ptr (H.length+1) 0 0→True:=fun _ _=>trivial
   by_cases hin:1≤t∧t<1+(r:Int)
   ·obtain ⟨pp,hp⟩:=m1 hin
    refine PW.f (fun K k=>by simp (disch:=omega) only [go_sem,↓reduceIte,reduceCtorEq,gi,hp,zc3,zar,zcu,znD];exact k) ?_
    by_cases htk:t=1+(k:Int)
    ·have d1:(t - 1==(k:Int))=true:=by rw [beq_iff_eq];omega
     rw [if_pos htk] at hf
     refine PW.f (fun K k=>by simp (disch:=omega) only [go_sem,↓reduceIte,reduceCtorEq,d1];exact k) ?_
     (repeat refine PW.seq ?_);refine PW.cond (t:=_) rfl (fun h=> ?_) (fun h=> ?_)
     rotate_left
     ·cases h
     refine PW.e ?_
     refine PW.ret ⟨cuV (some (t,q)),by simp (disch:=omega) only [go_sem,↓reduceIte,reduceCtorEq,zd,zg,List.mapM_cons,List.mapM_nil,Option.pure_def,Option.bind_eq_bind,Option.bind_some,Array.toList,cuV],?_⟩
     rw [←hf]
     exact Fin.base (.id (zqm _ _))
    ·have d1:(t - 1==(k:Int))=false:=by rw [beq_eq_false_iff_ne];omega
     rw [if_neg htk] at hf
     refine PW.f (fun K k=>by simp (disch:=omega) only [go_sem,↓reduceIte,reduceCtorEq,d1];exact k) ?_
     (repeat refine PW.seq ?_);refine PW.cond (t:=_) rfl (fun h=> ?_) (fun h=> ?_)
     ·cases h
     refine PW.skip ?_
     refine PW.e ?_
     exact PL.view (Vs.trim (F1:=[(1,.mp i 0),(2,.int .i64 (k:Int)),(6,.ptr (H.length+1) 0 0),(13,.slice (uq us) us.length false),(14,.int .i64 (us.length:Int)),(15,.int .i64 ((j+1:Nat):Int))]) (H1:=H++[⟨39,0,cdc p U us⟩,⟨61,0,[.int .i64 0,.slice [] 0 true]⟩]) hsc (by simp) (List.append_assoc _ [_,_] [_]).symm (fz (j+1) _ _ rfl rfl rfl rfl rfl rfl)) (ih (us.length - (j+1)) (by omega) (j+1) (by omega) hf rfl)
   ·have hp:=m2 hin
    rw [if_neg (by omega)] at hf
    refine PW.f (fun K k=>by simp (disch:=omega) only [go_sem,↓reduceIte,reduceCtorEq,gi,hp,zc3,zar,zcu,znD];exact k) ?_
    refine PW.e ?_
    (repeat refine PW.seq ?_);refine PW.cond (t:=_) rfl (fun h=> ?_) (fun h=> ?_)
    ·cases h
    refine PW.skip ?_
    refine PW.e ?_
    exact PL.view (Vs.trim (F1:=[(1,.mp i 0),(2,.int .i64 (k:Int)),(6,.ptr (H.length+1) 0 0),(13,.slice (uq us) us.length false),(14,.int .i64 (us.length:Int)),(15,.int .i64 ((j+1:Nat):Int))]) (H1:=H++[⟨39,0,cdc p U us⟩,⟨61,0,[.int .i64 0,.slice [] 0 true]⟩]) hsc (by simp) (List.append_assoc _ [_,_] [_]).symm (fz (j+1) _ _ rfl rfl rfl rfl rfl rfl)) (ih (us.length - (j+1)) (by omega) (j+1) (by omega) hf rfl)
  ·have hjr:j=us.length:=by have:=of_decide_eq_false h;omega
   subst hjr
   rw [List.drop_length] at hf
   refine PW.exit ?_
   refine PW.e ?_
   refine PW.ret ⟨cuV none,by simp (disch:=omega) only [go_sem,↓reduceIte,reduceCtorEq,zd,zg,List.mapM_cons,List.mapM_nil,Option.pure_def,Option.bind_eq_bind,Option.bind_some,Array.toList,cuV],?_⟩
   rw [←hf]
   exact Fin.base (.id (zqm _ _))
theorem zs8 {s:Sq} {p:Pi} {b:Bool} {t:Int} {q:List UInt8} {v:Nat} {l:List Mb} {a1:Nat} (h:slT s p b t q= .ok (v,l) a1):l.length≤4∧(∀ x∈l,x.lv.length=384)∧∀ x∈zks (v:Int) l,1≤x∧x≤31:=by
 unfold slT at h
 split at h
 ·rename_i hc
  rw [Bool.and_eq_true] at hc
  have hw:wmb s≤4:=by
   have hv:zM s p=true:=by
    have:=hc.1
    unfold zfc at this
    rw [Bool.and_eq_true] at this
    exact this.1
   have:=za9 hv
   have e:=Int.tdiv_eq_ediv_of_nonneg (a:=s.w) (b:=16) (by omega)
   unfold wmb
   omega
  split at h
  ·cases h
  rename_i hb
  split at h
  ·cases h
  rename_i h5
  split at h
  ·cases h
  obtain ⟨z,a2,h1,h⟩:=Rr.bind_okE h
  split at h
  ·injection h with h _
   injection h with h3 h4
   subst h3 h4
   obtain ⟨e1,e2⟩:=zgn _ _ _ h1
   exact ⟨by omega,zop _ _ _ h1 (by omega),e2⟩
  ·cases h
 ·cases h
theorem zlJ (n:Nat):∀ r,∀ x∈zh5 r,Scoped n x
 | 0=>fun x hx=>by cases hx
 | r+1=>fun x hx=>by
  rcases List.mem_append.1 hx with hx|hx
  ·exact zlJ n r x hx
  ·rw [List.mem_singleton] at hx
   rw [hx]
   exact .tup (zay fun x hx=>by
    simp only [List.mem_cons,List.not_mem_nil,or_false] at hx
    rcases hx with rfl|rfl
    ·exact .int _ _
    ·exact .int _ _)
theorem zoq {c:Cx} {q:List UInt8} {n:Nat} (hv:vcx c=true):∀ (r:Nat) (s:St) (a:Nat) {z:List Mb×St} {a1:Nat},slL c q n r s a= .ok z a1→∀ m∈z.1,fmS c m=true
 | 0,s,a,z,a1,h=>by
  rw [slL] at h
  injection h with h _
  rw [←h];intro m hm;cases hm
 | r+1,s,a,z,a1,h=>by
  rw [slL] at h
  obtain ⟨y,a2,h1,h⟩:=Rr.bind_okE h
  obtain ⟨z2,a3,h2,h⟩:=Rr.bind_okE h
  injection h with h _
  rw [←h]
  intro m hm
  rcases List.mem_cons.1 hm with rfl|hm
  ·unfold zhm at h1
   split at h1
   ·rename_i hc
    rw [Bool.and_eq_true] at hc
    exact zuf hv (zlt hc.2).1 h1
   ·cases h1
  ·exact zoq hv r _ _ h2 m hm
theorem zoo {s:Sq} {p:Pi} {b:Bool} {t:Int} {q:List UInt8} {v:Nat} {l:List Mb} {a1:Nat} (hv:vcx (cxP s p b)=true) (h:slT s p b t q= .ok (v,l) a1):l.length=wmb s∧∀ m∈l,fmS (cxP s p b) m=true:=by
 unfold slT at h
 split at h
 ·split at h
  ·cases h
  split at h
  ·cases h
  split at h
  ·cases h
  obtain ⟨z,a2,h1,h⟩:=Rr.bind_okE h
  split at h
  ·injection h with h _
   injection h with h3 h4
   subst h4
   exact ⟨(zgn _ _ _ h1).1,zoq hv _ _ _ h1⟩
  ·cases h
 ·cases h
def rwF (s:Sq) (p:Pi) (b:Bool) (pa fu fi:Fm) (A k:Nat):List Mb→Int→Nat→Fm→Fm
 | [],_,_,g=>g
 | m::r,q,X,g=>rwF s p b pa fu fi A k r (q+m.dl) (X+1) (smF A X k g (zgs (cxP s p b) s.ia s.ie p.al (q+m.dl) m pa fu fi (X:Int) (k:Int)).1)
def zoJ (s:Sq) (p:Pi) (b:Bool) (us:List (Int×List UInt8)) (pa fu fi:Fm) (A k:Nat) (g:Fm):Fm×Bool:=
 match fnu us k with
 | none=>(g,false)
 | some u=>match slT s p b u.1 u.2 with
  | .ok x _=>(rwF s p b pa fu fi A k x.2 (x.1:Int) 0 g,true)
  | .er _ _=>(g,false)
def zcb (s:Sq) (p:Pi) (b:Bool) (us:List (Int×List UInt8)) (pa fu fi:Fm) (A:Nat) (g:Fm):Nat→Fm×List Bool
 | 0=>(g,[])
 | k+1=>((zoJ s p b us pa fu fi A k (zcb s p b us pa fu fi A g k).1).1,(zcb s p b us pa fu fi A g k).2++[(zoJ s p b us pa fu fi A k (zcb s p b us pa fu fi A g k).1).2])
theorem zdv (s:Sq) (p:Pi) (b:Bool) (us:List (Int×List UInt8)) (pa fu fi:Fm) (A:Nat) (g:Fm):∀ k,(zcb s p b us pa fu fi A g k).2.length=k
 | 0=>rfl
 | k+1=>by rw [zcb,List.length_append,zdv s p b us pa fu fi A g k];rfl
theorem zmr {s:Sq} {p:Pi} {pa fu fi:Fm} {b:Bool} {A B:Nat} (h:DecOk s p pa fu fi b A B):Gok A B (zj8 s p pa):=by
 have ew:=h.w
 have eg:=h.g
 unfold zj8
 by_cases hz:pa.w=0
 ·rw [if_pos hz,ew,eg,show (((16 * A:Nat):Int) / 16).toNat=A by omega,show (((16 * B:Nat):Int) / 16).toNat=B by omega]
  exact ⟨rfl,rfl,h.ra,h.rb,by simp [flt],by simp [flt],by simp [flt]⟩
 ·rw [if_neg hz]
  obtain ⟨g1,g2,g3⟩:=zir h.mp hz
  obtain ⟨v1,v2⟩:=zk7 h.hv g1 g2 g3
  by_cases h3:p.st=3
  ·rw [if_pos h3]
   exact zi0 h.ra h.rb g1 (by omega) (by have:=h.h3 h3;omega)
  ·rw [if_neg h3]
   have:=(h.h4 h3).1
   have:=h.st
   exact zhQ h.ra h.rb v1 (by omega) (by omega) (by omega)
theorem zlF {s:Sq} {p:Pi} {pa fu fi:Fm} {b:Bool} {A B k:Nat} (h:DecOk s p pa fu fi b A B) (hk:k<B):∀ (l:List Mb) (q:Int) (X:Nat) (g:Fm),Gok A B g→X+l.length≤A→(∀ m∈l,fmS (cxP s p b) m=true)→(∀ x∈zks q l,1≤x∧x≤31)→Gok A B (rwF s p b pa fu fi A k l q X g)
 | [],_,_,g,hg,_,_,_=>hg
 | m::r,q,X,g,hg,hX,hf,hq=>by
  rw [rwF]
  rw [List.length_cons] at hX
  have e:=zlM h (hf m (List.mem_cons_self ..)) p.al (hq (q+m.dl) (List.mem_cons_self ..)) (X:=X) (Y:=k) (by omega) hk
  exact zlF h hk r _ _ _ (zom hg (zlN e) (by omega) hk) (by omega) (fun m hm=>hf m (List.mem_cons_of_mem _ hm)) (fun x hx=>hq x (List.mem_cons_of_mem _ hx))
theorem zsX {s:Sq} {p:Pi} {pa fu fi:Fm} {b:Bool} {A B:Nat} (h:DecOk s p pa fu fi b A B):wmb s=A:=by
 unfold wmb
 rw [h.w,zx _ _ (by omega)]
 omega
theorem zoI {s:Sq} {p:Pi} {pa fu fi:Fm} {b:Bool} {A B k:Nat} (h:DecOk s p pa fu fi b A B) (hk:k<B) (us:List (Int×List UInt8)) {g:Fm} (hg:Gok A B g):Gok A B (zoJ s p b us pa fu fi A k g).1:=by
 unfold zoJ
 split
 ·exact hg
 ·split
  ·rename_i x a1 hs
   obtain ⟨v,l⟩:=x
   obtain ⟨e1,e2⟩:=zoo h.vc hs
   exact zlF h hk l _ 0 g hg (by rw [e1,zsX h];omega) e2 (zs8 hs).2.2
  ·exact hg
theorem zeU {s:Sq} {p:Pi} {pa fu fi:Fm} {b:Bool} {A B:Nat} (h:DecOk s p pa fu fi b A B) (us:List (Int×List UInt8)) {g:Fm} (hg:Gok A B g):∀ k,k≤B→Gok A B (zcb s p b us pa fu fi A g k).1
 | 0,_=>hg
 | k+1,hk=>zoI h (by omega) us (zeU h us hg k (by omega))
def flR (B:Nat) (l:List Bool):List PV:=(l++List.replicate (B - l.length) false).map PV.bool
theorem zmf {B:Nat} {l:List Bool} (h:l.length≤B):(flR B l).length=B:=by simp [flR];omega
theorem zsl {B k:Nat} {l:List Bool} (h:l.length=k) (hk:k<B):(flR B l).set k (.bool true)=flR B (l++[true]):=by
 unfold flR
 subst h
 rw [show B - l.length=(B - (l++[true]).length)+1 by simp;omega,List.replicate_succ,List.map_append,List.map_append,List.map_append,List.set_append_right _ _ (by simp)]
 simp
theorem zuO {B k:Nat} {l:List Bool} (h:l.length=k) (hk:k<B):flR B l=flR B (l++[false]):=by
 unfold flR
 subst h
 rw [show B - l.length=(B - (l++[false]).length)+1 by simp;omega,List.replicate_succ]
 simp
theorem zwH (B:Nat):flR B []=List.replicate B (.bool false):=by simp [flR]
theorem zsm {B:Nat} {l:List Bool} (h:l.length=B):flR B l=l.map PV.bool:=by simp [flR,h]
theorem zp5 (B:Nat) (l:List Bool) (n:Nat):∀ x∈flR B l,Scoped n x:=fun x hx=>by
 obtain ⟨y,_,rfl⟩:=List.mem_map.1 hx
 exact .bool _
def dgH (H:za) (s:Sq) (p:Pi) (U:List (List UInt8)) (us:List (Int×List UInt8)) (pa fu fi g:Fm) (r:Nat) (l:List Bool):za:=H++[⟨29,0,sqc s⟩,⟨39,0,cdc p U us⟩,⟨87,0,fmc pa++(fmc fu++fmc fi)⟩,⟨33,0,[.int .i64 0,.int .i64 0,.slice [] 0 true,.slice [] 0 true,.slice [] 0 true]⟩,⟨33,0,fmc g⟩,⟨4,0,flR r l⟩,mpB r]
theorem zl8 (H:za) (s:Sq) (p:Pi) (U:List (List UInt8)) (us:List (Int×List UInt8)) (pa fu fi g:Fm) (r:Nat) (l:List Bool) (h:HSc H):HSc (dgH H s p U us pa fu fi g r l):=ziz (fun b hb x hx=>by
 simp only [List.mem_cons,List.not_mem_nil,or_false] at hb
 rcases hb with rfl|rfl|rfl|rfl|rfl|rfl|rfl
 ·exact zbn _ _ x hx
 ·exact ziM _ _ _ _ x hx
 ·rcases List.mem_append.1 hx with hx|hx
  ·exact za5 _ _ _ _ _ _ _ _ _ _ _ _ x hx
  ·rcases List.mem_append.1 hx with hx|hx
   ·exact za5 _ _ _ _ _ _ _ _ _ _ _ _ x hx
   ·exact za5 _ _ _ _ _ _ _ _ _ _ _ _ x hx
 ·exact za5 _ 0 0 [] [] [] _ _ _ _ _ _ x hx
 ·exact za5 _ _ _ _ _ _ _ _ _ _ _ _ x hx
 ·exact zp5 _ _ _ x hx
 ·exact zlJ _ _ x hx) h
def zbl (s:Sq) (p:Pi) (us:List (Int×List UInt8)) (pa fu fi:Fm) (b:Bool):(Fm×List Bool)×Int:=
 if ziI s p pa fu fi b=0 then (zcb s p b us pa fu fi (s.w / 16).toNat (zj8 s p pa) (za4 s p).toNat,0) else ((f0,[]),ziI s p pa fu fi b)
def zeD (r:(Fm×List Bool)×Int):PV:=if r.2=0 then .tup [.agg (fmc r.1.1),.slice (r.1.2.map PV.bool) r.1.2.length false,.int .i64 0] else .tup [.agg [.int .i64 0,.int .i64 0,.slice [] 0 true,.slice [] 0 true,.slice [] 0 true],.slice [] 0 true,.int .i64 r.2]
set_option maxHeartbeats 16000000 in
set_option maxRecDepth 100000 in
theorem zfi (s:Sq) (p:Pi) (U:List (List UInt8)) (us:List (Int×List UInt8)) (pa fu fi:Fm) (b:Bool) (hs:SqOk s) (hu:us.length≤1000000) (hul:∀ u∈us,zgS u.1∧u.2.length≤100000000) (H:za):
  CallOk Tryz.prog 36 [.agg (sqc s),.agg (cdc p U us),.agg (fmc pa++(fmc fu++fmc fi)),.bool b] H (zeD (zbl s p us pa fu fi b)) H:=by
 have h1:=zbB s
 have h2:=zbO s hs
 have h3:=zdS s hs
 have c1:=zg8 p U us
 have c2:=zf2 p U us
 have c3:=zwS p U us
 have c4:=zwR p U us
 have c5:(cdc p U us)[5]? =some (.bool p.al):=rfl
 have rl:(fmc pa++(fmc fu++fmc fi)).length=15:=rfl
 have rc:(fmc pa++(fmc fu++fmc fi)).all PV.cell=true:=rfl
 have rt:List.take 15 (fmc pa++(fmc fu++fmc fi))=fmc pa++(fmc fu++fmc fi):=rfl
 have r0:List.take 5 (fmc pa++(fmc fu++fmc fi))=fmc pa:=rfl
 have F5:∀ g:Fm,(fmc g).all PV.cell=true:=fun _=>rfl
 have F7:∀ g:Fm,(fmc g).length=5:=fun _=>rfl
 have F8:∀ g:Fm,List.take 5 (fmc g)=fmc g:=fun _=>rfl
 have F9:∀ g:Fm,List.drop 5 (fmc g)=[]:=fun _=>rfl
 have z9:List.drop 5 [PV.int .i64 0,PV.int .i64 0,PV.slice [] 0 true,PV.slice [] 0 true,PV.slice [] 0 true]=[]:=rfl
 have de:=fun K=>zuX s p pa fu fi b hs K
 have h0:ziI s p pa fu fi b=0→∃ A B,DecOk s p pa fu fi b A B:=DecOk.of
 unfold zbl
 generalize ziI s p pa fu fi b=e at de h0 ⊢
 refine CallOk.body (F0:=[(0,.agg (sqc s)),(1,.agg (cdc p U us)),(2,.agg (fmc pa++(fmc fu++fmc fi))),(3,.bool b)]) Tryz.func36 rfl Tryz.ntmps36 Tryz.results36 rfl (by kernel_rfl) rfl ?_
 refine PW.f (fun K k=>by simp (maxSteps:=3000000) (disch:=omega) only [go_sem,↓reduceIte,reduceCtorEq,h1,c1,rc];exact k) ?_
 (repeat refine PW.seq ?_)
 refine PW.scope ?_
 refine PW.f (fun K k=>by simp (maxSteps:=3000000) (disch:=omega) only [go_sem,↓reduceIte,reduceCtorEq,h2,h3,c2,c3,rl,rt];refine VCx.call (de _) rfl ?_;simp (maxSteps:=3000000) (disch:=omega) only [go_sem,↓reduceIte,reduceCtorEq,h2,h3,c2,c3,rl,rt];exact k) ?_
 refine PW.e ?_
 (repeat refine PW.seq ?_);refine PW.cond (t:=_) rfl (fun h=> ?_) (fun h=> ?_)
 ·have he:e≠0:=by simpa using h
  rw [if_neg he]
  unfold zeD
  rw [if_neg (by exact he)]
  refine PW.e ?_
  refine PW.ret ⟨.tup [.agg [.int .i64 0,.int .i64 0,.slice [] 0 true,.slice [] 0 true,.slice [] 0 true],.slice [] 0 true,.int .i64 e],by simp (maxSteps:=3000000) (disch:=omega) only [go_sem,↓reduceIte,reduceCtorEq,zd,zg,List.mapM_cons,List.mapM_nil,Option.pure_def,Option.bind_eq_bind,Option.bind_some,Array.toList],?_⟩
  exact Fin.base (.id (.tup (asc fun x hx=>by
   simp only [List.mem_cons,List.not_mem_nil,or_false] at hx
   rcases hx with rfl|rfl|rfl
   ·exact zB (za5 _ 0 0 [] [] [] _ _ _ _ _ _)
   ·exact zr (fun x hx=>by cases hx)
   ·exact .int _ _)))
 have he:e=0:=by simpa using h
 subst he
 rw [if_pos rfl]
 obtain ⟨A,B,hd⟩:=h0 rfl
 refine PW.skip ?_
 have co:=fun K=>zuY s p pa hs hd.hv hd.mp K
 have hcg:=zmr hd
 have ro:=fun K=>zjs s p K hs
 have er:=hd.r
 have eA:(s.w / 16).toNat=A:=by rw [hd.w];omega
 rw [er] at ro ⊢
 rw [eA,Int.toNat_natCast]
 generalize zj8 s p pa=g0 at co hcg ⊢
 have hB:=hd.rb
 have rb:=fun K=>zt6 B K (by omega)
 have zb:(List.replicate B [PV.bool false]).flatten=flR B []:=by
  rw [zwH]
  clear hd er ro rb hB hcg
  induction B with
  | zero=>rfl
  | succ n ih=>simp [List.replicate_succ]
 refine PW.f (fun K k=>by simp (maxSteps:=3000000) (disch:=omega) only [go_sem,↓reduceIte,reduceCtorEq,h2,h3,c2,c3,rl,r0,F5,F7];refine VCx.call (co _) rfl ?_;simp (maxSteps:=3000000) (disch:=omega) only [go_sem,↓reduceIte,reduceCtorEq,h2,h3,c2,c3,rl,r0,F5,F7];exact k) ?_
 refine PW.e ?_
 (repeat refine PW.seq ?_);refine PW.cond (t:=_) rfl (fun h=> ?_) (fun h=> ?_)
 ·cases h
 refine PW.skip ?_
 refine PW.f (fun K k=>by simp (maxSteps:=3000000) (disch:=omega) only [go_sem,↓reduceIte,reduceCtorEq,h2,h3,c2,c3];refine VCx.call (ro _) rfl ?_;simp (maxSteps:=3000000) (disch:=omega) only [go_sem,↓reduceIte,reduceCtorEq,h2,h3,c2,c3];exact k) ?_
 refine PW.f (fun K k=>by simp (maxSteps:=3000000) (disch:=omega) only [go_sem,↓reduceIte,reduceCtorEq];refine VCx.call (rb _) rfl ?_;simp (maxSteps:=3000000) (disch:=omega) only [go_sem,↓reduceIte,reduceCtorEq];exact k) ?_
 rw [zb]
 refine PW.seq ?_
 refine PW.label ?_
 refine PW.e ?_
 (repeat refine PW.seq ?_);refine PW.block (PW.loop ?_)
 suffices hl1:∀ k:Nat,k≤B→PL Tryz.prog _ _ [(3,.bool b),(4,.ptr H.length 0 0),(5,.ptr (H.length+1) 0 0),(6,.ptr (H.length+2) 0 0),(8,.ptr (H.length+3) 0 0),(12,.ptr (H.length+4) 0 0),(14,.msl (H.length+5) 0 0 B 1 true),(15,.mp (H.length+6) 0),(59,.int .i64 (B:Int)),(60,.int .i64 (k:Int))] (dgH H s p U us pa fu fi (zcb s p b us pa fu fi A g0 k).1 B (zcb s p b us pa fu fi A g0 k).2) _ by
  exact PL.at [3,4,5,6,8,12,14,15,59,60] (hl1 0 (by omega)) rfl rfl
 clear ro rb co de
 refine cnt B (fun k hk ih=> ?_) ?_
 ·have ct:=zgQ hk
  have hgk:=zeU hd us hcg k (by omega)
  have hlk:=zdv s p b us pa fu fi A g0 k
  rw [zcb] at ih
  generalize zcb s p b us pa fu fi A g0 k=R at ih hgk hlk ⊢
  obtain ⟨g,fl⟩:=R
  simp only at ih hgk hlk ⊢
  have hlB:=zmf (B:=B) (l:=fl) (by omega)
  have cu:=fun (K:za) (hK:K[H.length+6]? =some (mpB B))=>zqo p U us (H.length+6) B k K hK hk hu
  have vb:∀ (g':Fm) (fl':List Bool) (K:za),Vs { N:=134,H0:=H } [(3,.bool b),(4,.ptr H.length 0 0),(5,.ptr (H.length+1) 0 0),(6,.ptr (H.length+2) 0 0),(8,.ptr (H.length+3) 0 0),(12,.ptr (H.length+4) 0 0),(14,.msl (H.length+5) 0 0 B 1 true),(15,.mp (H.length+6) 0),(59,.int .i64 (B:Int)),(60,.int .i64 ((k+1:Nat):Int))] (dgH H s p U us pa fu fi g' B fl'++K) [(3,.bool b),(4,.ptr H.length 0 0),(5,.ptr (H.length+1) 0 0),(6,.ptr (H.length+2) 0 0),(8,.ptr (H.length+3) 0 0),(12,.ptr (H.length+4) 0 0),(14,.msl (H.length+5) 0 0 B 1 true),(15,.mp (H.length+6) 0),(59,.int .i64 (B:Int)),(60,.int .i64 ((k+1:Nat):Int))] (dgH H s p U us pa fu fi g' B fl'):=fun g' fl' K=>by
   refine Vs.trim (zl8 H s p U us pa fu fi g' B fl') (by simp [dgH]) rfl ?_
   have hl:(dgH H s p U us pa fu fi g' B fl').length=H.length+7:=by simp [dgH]
   rw [hl]
   exact ⟨.id (.bool _),.id (.ptr (by omega)),.id (.ptr (by omega)),.id (.ptr (by omega)),.id (.ptr (by omega)),.id (.ptr (by omega)),.id (.msl (by omega)),.id (.mp (by omega)),.id (.int _ _),.id (.int _ _),trivial⟩
  refine PL.round ?_;refine PW.f (fun K k=>by simp (maxSteps:=3000000) (disch:=omega) only [go_sem,↓reduceIte,reduceCtorEq,ct];exact k) ?_;(repeat refine PW.seq ?_);refine PW.cond (t:=_) rfl (fun h=> ?_) (fun h=> ?_)
  rotate_left
  ·cases h
  refine PW.skip ?_;(repeat refine PW.seq ?_);refine PW.block ?_
  refine PW.e ?_
  (repeat refine PW.seq ?_);refine PW.rg rfl fun K hK=> ?_;simp (maxSteps:=3000000) (disch:=omega) only [go_sem,↓reduceIte,reduceCtorEq,dgH,c2,c4]
  refine VCx.call (cu _ (apn _ _ 6)) rfl ?_
  unfold zoJ at ih
  have hno:dgH H s p U us pa fu fi g B (fl++[false])=dgH H s p U us pa fu fi g B fl:=by unfold dgH;rw [←zuO hlk hk]
  cases hfn:fnu us k with
  | none=>
   rw [hfn] at ih
   simp only at ih
   simp (maxSteps:=3000000) (disch:=omega) only [go_sem,↓reduceIte,reduceCtorEq,cuV,dgH,c2,c4]
   refine hK _ _ ?_;clear hK K
   refine PW.e ?_
   (repeat refine PW.seq ?_);refine PW.cond (t:=_) rfl (fun h=> ?_) (fun h=> ?_)
   rotate_left
   ·cases h
   refine PW.exit ?_
   refine PW.e ?_
   exact PL.at [3,4,5,6,8,12,14,15,59,60] (PL.view (vb g fl [⟨61,0,[.int .i64 0,.slice [] 0 true]⟩]) (by rw [←hno];exact ih)) rfl (by unfold dgH;simp)
  | some u=>
   obtain ⟨t,q⟩:=u
   obtain ⟨hmem,_⟩:=zmc hfn
   have hq:=hul _ hmem
   have so:=fun K=>zon s p b t q false K hs hq.1 hq.2
   rw [hfn] at ih
   dsimp only at ih
   simp (maxSteps:=3000000) (disch:=omega) only [go_sem,↓reduceIte,reduceCtorEq,cuV,dgH,c2,c4]
   refine hK _ _ ?_;clear hK K
   refine PW.e ?_
   (repeat refine PW.seq ?_);refine PW.cond (t:=_) rfl (fun h=> ?_) (fun h=> ?_)
   ·cases h
   refine PW.skip ?_
   (repeat refine PW.seq ?_);refine PW.rg rfl fun K hK=> ?_;simp (maxSteps:=3000000) (disch:=omega) only [go_sem,↓reduceIte,reduceCtorEq,h2,h3,c2,c3]
   refine VCx.call (so _) rfl ?_
   cases hsl:slT s p b t q with
   | er e a1=>
    rw [hsl] at ih
    dsimp only at ih
    have d0:((e:Int)+1 !=0)=true:=by simp;omega
    simp (maxSteps:=3000000) (disch:=omega) only [go_sem,↓reduceIte,reduceCtorEq,rvT,ecd];refine hK _ _ ?_;clear hK K
    refine PW.f (fun K k=>by simp (maxSteps:=3000000) (disch:=omega) only [go_sem,↓reduceIte,reduceCtorEq,d0];exact k) ?_
    (repeat refine PW.seq ?_);refine PW.cond (t:=_) rfl (fun h=> ?_) (fun h=> ?_)
    rotate_left
    ·cases h
    refine PW.exit ?_
    refine PW.e ?_
    exact PL.at [3,4,5,6,8,12,14,15,59,60] (PL.view (vb g fl [⟨61,0,[.int .i64 t,.slice (bs q) q.length false]⟩]) (by rw [←hno];exact ih)) rfl (by unfold dgH;simp)
   | ok x a1=>
    obtain ⟨v,l⟩:=x
    rw [hsl] at ih
    dsimp only at ih
    have hsb:=zs8 hsl
    obtain ⟨e1,e2⟩:=zoo hd.vc hsl
    rw [zsX hd] at e1
    have lm:=zaF mbc 408 l (fun x hx=>zV x (hsb.2.1 x hx))
    have hll:=hsb.1
    clear so cu
    simp (maxSteps:=3000000) (disch:=omega) only [go_sem,↓reduceIte,reduceCtorEq,rvT];refine hK _ _ ?_;clear hK K
    refine PW.e ?_
    (repeat refine PW.seq ?_);refine PW.cond (t:=_) rfl (fun h=> ?_) (fun h=> ?_)
    ·cases h
    refine PW.skip ?_
    refine PW.f (fun K k=>by simp (maxSteps:=3000000) (disch:=omega) only [go_sem,↓reduceIte,reduceCtorEq,F5,F7,F8];exact k) ?_
    refine PW.e ?_
    (repeat refine PW.seq ?_);refine PW.block (PW.loop ?_)
    obtain ⟨G',hG'⟩:∃ G',rwF s p b pa fu fi A k l (v:Int) 0 g=G':=⟨_,rfl⟩
    rw [hG'] at ih
    suffices hl2:∀ (j:Nat) (q1:Int) (gg:Fm),j≤l.length→Gok A B gg→(∀ x∈zks q1 (l.drop j),1≤x∧x≤31)→rwF s p b pa fu fi A k (l.drop j) q1 j gg=G'→PL Tryz.prog _ _ [(3,.bool b),(4,.ptr H.length 0 0),(5,.ptr (H.length+1) 0 0),(6,.ptr (H.length+2) 0 0),(8,.ptr (H.length+3) 0 0),(12,.ptr (H.length+4) 0 0),(14,.msl (H.length+5) 0 0 B 1 true),(15,.mp (H.length+6) 0),(16,.int .i64 (k:Int)),(19,.int .i64 q1),(22,.ptr (H.length+8) 0 0),(59,.int .i64 (B:Int)),(60,.int .i64 (k:Int)),(85,.slice (l.flatMap mbc) l.length false),(86,.int .i64 (l.length:Int)),(87,.int .i64 (j:Int))] (dgH H s p U us pa fu fi g B fl++[⟨61,0,[.int .i64 t,.slice (bs q) q.length false]⟩,⟨33,0,fmc gg⟩]) _ by
     exact PL.at [3,4,5,6,8,12,14,15,16,19,22,59,60,85,86,87] (hl2 0 v g (by omega) hgk hsb.2.2 hG') rfl (by unfold dgH;simp)
    intro j q1 gg hj hgg hbd hG
    induction hd2:l.length - j using Nat.strongRecOn generalizing j q1 gg with
    | _ d2 ih2=>
     refine PL.round ?_;refine PW.e ?_
     (repeat refine PW.seq ?_);refine PW.cond (t:=_) rfl (fun h=> ?_) (fun h=> ?_)
     ·have hjl:j<l.length:=by have:=of_decide_eq_true h;omega
      have ha:=zch mbc 408 l j hjl (fun x hx=>zV x (hsb.2.1 x hx))
      have hfm:=e2 _ (List.getElem_mem hjl)
      have hlv:=hsb.2.1 _ (List.getElem_mem hjl)
      rw [List.drop_eq_getElem_cons hjl] at hbd hG
      simp only [zks,rwF] at hbd hG
      generalize l[j]=m at *
      have hb1:=hbd (q1+m.dl) (List.mem_cons_self ..)
      have hjA:j<A:=by omega
      have re0:=zlM hd hfm p.al hb1 hjA hk
      have r16:=zlN re0
      have re:=fun K=>zoN (cxP s p b) s p.al (q1+m.dl) m pa fu fi (j:Int) (k:Int) K hlv hs.ia hs.ie
      have cx:=fun K=>zqn s p b K hs
      generalize zgs (cxP s p b) s.ia s.ie p.al (q1+m.dl) m pa fu fi (j:Int) (k:Int)=T at re re0 r16 hG
      obtain ⟨gm,em⟩:=T
      simp only at re re0 r16 hG
      subst re0
      have sm:=fun K=>zoC A B j k gg gm hgg r16 hjA hk K
      have hsm:=zom hgg r16 hjA hk
      generalize smF A j k gg gm=g2 at sm hsm hG
      have m1:=zV m hlv
      have m2:=zeo m
      have m3:List.take 408 (mbc m)=mbc m:=List.take_of_length_le (by omega)
      have m17:(mbc m)[17]? =some (.int .i64 m.dl):=rfl
      have cl4:(cxc (cxP s p b)).length=4:=rfl
      refine PW.skip ?_;(repeat refine PW.seq ?_);refine PW.block ?_
      refine PW.f (fun K k=>by simp (maxSteps:=3000000) (disch:=omega) only [go_sem,↓reduceIte,reduceCtorEq,ha,lm,m1,m2];exact k) ?_
      refine PW.f (fun K k=>by simp (maxSteps:=3000000) (disch:=omega) only [go_sem,↓reduceIte,reduceCtorEq,m1,m17];exact k) ?_
      refine PW.view (Vs.place 33) ?_
      (repeat refine PW.seq ?_);refine PW.drawi [H.length+10] [(25,[0])] [(25,0)] [101,111] mix (by kernel_rfl) (by simp<;>omega) fun K hK=> ?_
      simp (maxSteps:=3000000) (disch:=omega) only [go_sem,↓reduceIte,reduceCtorEq,zaH,dgH,h2,h3,c2,c3]
      refine VCj.read (fun _ _=>cx _) rfl ?_
      simp (maxSteps:=3000000) (disch:=omega) only [go_sem,↓reduceIte,reduceCtorEq,zaH,dgH,h2,h3,c2,c3,c5,rl,rt,m1,m3]
      refine VCj.read (fun _ _=>re _) rfl ?_
      simp (maxSteps:=3000000) (disch:=omega) only [go_sem,↓reduceIte,reduceCtorEq,F5,F7]
      refine hK _ _ ?_;clear hK K
      refine PW.e ?_
      (repeat refine PW.seq ?_);refine PW.cond (t:=_) rfl (fun h=> ?_) (fun h=> ?_)
      ·cases h
      refine PW.skip ?_
      refine PW.f (fun K k=>by simp (maxSteps:=3000000) (disch:=omega) only [go_sem,↓reduceIte,reduceCtorEq,F5,F7,F8,F9];refine VCx.call (sm _) rfl ?_;simp (maxSteps:=3000000) (disch:=omega) only [go_sem,↓reduceIte,reduceCtorEq,F5,F7,F8,F9];exact k) ?_
      refine PW.e ?_
      (repeat refine PW.seq ?_);refine PW.cond (t:=_) rfl (fun h=> ?_) (fun h=> ?_)
      ·cases h
      refine PW.skip ?_
      refine PW.e ?_
      have hnx:=ih2 (l.length - (j+1)) (by omega) (j+1) (q1+m.dl) g2 (by omega) hsm (fun x hx=>hbd x (List.mem_cons_of_mem _ hx)) hG rfl
      refine PL.view (Vs.trim (F1:=[(3,.bool b),(4,.ptr H.length 0 0),(5,.ptr (H.length+1) 0 0),(6,.ptr (H.length+2) 0 0),(8,.ptr (H.length+3) 0 0),(12,.ptr (H.length+4) 0 0),(14,.msl (H.length+5) 0 0 B 1 true),(15,.mp (H.length+6) 0),(16,.int .i64 (k:Int)),(19,.int .i64 (q1+m.dl)),(22,.ptr (H.length+8) 0 0),(59,.int .i64 (B:Int)),(60,.int .i64 (k:Int)),(85,.slice (l.flatMap mbc) l.length false),(86,.int .i64 (l.length:Int)),(87,.int .i64 ((j+1:Nat):Int))]) (H1:=dgH H s p U us pa fu fi g B fl++[⟨61,0,[.int .i64 t,.slice (bs q) q.length false]⟩,⟨33,0,fmc g2⟩]) (K:=[⟨154,0,mbc m⟩,⟨33,1,fmc gm⟩]) (fun hh=>ziz (fun b' hb' x hx=> ?_) (zl8 H s p U us pa fu fi g B fl hh)) (by simp [dgH]) (by unfold dgH;simp) ?_) hnx
      ·simp only [List.mem_cons,List.not_mem_nil,or_false] at hb'
       rcases hb' with rfl|rfl
       ·simp only [List.mem_cons,List.not_mem_nil,or_false] at hx
        rcases hx with rfl|rfl
        ·exact .int _ _
        ·exact zr (zq _ _)
       ·exact za5 _ _ _ _ _ _ _ _ _ _ _ _ x hx
      ·have hl:(dgH H s p U us pa fu fi g B fl++[⟨61,0,[.int .i64 t,.slice (bs q) q.length false]⟩,⟨33,0,fmc g2⟩]:za).length=H.length+9:=by simp [dgH]
       rw [hl]
       exact ⟨.id (.bool _),.id (.ptr (by omega)),.id (.ptr (by omega)),.id (.ptr (by omega)),.id (.ptr (by omega)),.id (.ptr (by omega)),.id (.msl (by omega)),.id (.mp (by omega)),.id (.int _ _),.id (.int _ _),.id (.ptr (by omega)),.id (.int _ _),.id (.int _ _),.id (zr (zpt _ _)),.id (.int _ _),.id (.int _ _),trivial⟩
     ·have hjl:j=l.length:=by have:=of_decide_eq_false h;omega
      subst hjl
      rw [List.drop_length] at hG
      simp only [rwF] at hG
      subst hG
      refine PW.exit ?_
      refine PW.f (fun K k=>by simp (maxSteps:=3000000) (disch:=omega) only [go_sem,↓reduceIte,reduceCtorEq,dgH,F5,F7,F8,F9,hlB,zsl hlk hk];exact k) ?_
      refine PW.e ?_
      exact PL.at [3,4,5,6,8,12,14,15,59,60] (PL.view (vb gg (fl++[true]) [⟨61,0,[.int .i64 t,.slice (bs q) q.length false]⟩,⟨33,0,fmc gg⟩]) ih) rfl (by unfold dgH;simp)
 have hlen:=zdv s p b us pa fu fi A g0 B
 generalize zcb s p b us pa fu fi A g0 B=R at hlen ⊢
 obtain ⟨g,fl⟩:=R
 simp only at hlen ⊢
 refine PL.round ?_;refine PW.f (fun K k=>by simp (maxSteps:=3000000) (disch:=omega) only [go_sem,↓reduceIte,reduceCtorEq,zit B];exact k) ?_;(repeat refine PW.seq ?_);refine PW.cond (t:=_) rfl (fun h=> ?_) (fun h=> ?_)
 ·cases h
 refine PW.exit ?_
 refine PW.f (fun K k=>by simp (maxSteps:=3000000) (disch:=omega) only [go_sem,↓reduceIte,reduceCtorEq,dgH,F5,F7,F8,z9];exact k) ?_
 unfold zeD
 rw [if_pos rfl]
 refine PW.ret ⟨.tup [.agg (fmc g),.msl (H.length+5) 0 0 B 1 true,.int .i64 0],by simp (maxSteps:=3000000) (disch:=omega) only [go_sem,↓reduceIte,reduceCtorEq,zd,zg,List.mapM_cons,List.mapM_nil,Option.pure_def,Option.bind_eq_bind,Option.bind_some,Array.toList,F7,F8],?_⟩
 rw [←zsm hlen,hlen]
 refine Fin.base (Fz.tupC ⟨.id (zB (za5 _ _ _ _ _ _ _ _ _ _ _ _)),Fz.mslC (e:=4) (xs:=flR B fl) (by omega) (apn _ _ 5) (by rw [zmf (by omega)];omega) (FzC.refl (zp5 _ _ _)),.id (.int _ _),trivial⟩)
structure Cdd where
 p:Pi
 U:List (List UInt8)
 us:List (Int×List UInt8)
structure Sho where
 fr:Fm
 f:Int
 l:Int
 ty:Int
 ok:Bool
 fi:Int
 tf:Bool
def zjl:Sho:=⟨f0,0,0,0,false,0,false⟩
def zhq (s:Sq) (cs:List Cdd):Bool:=(cs.all fun c=>zM s c.p)&&match cs with
 | [c]=>decide (c.p.st=3)
 | [c,d]=>zcB c.p&&zcd c.p d.p
 | _=>false
def zmM (a b:Fm):Fm:=znK (a.w / 2).toNat (a.h / 2).toNat a b
def zhn (s:Sq) (cs:List Cdd) (pa fu:Fm):Fm×Bool×Int:=
 if zhq s cs then match cs with
  | [c]=>if (zbl s c.p c.us pa fu f0 false).2=0 then ((zbl s c.p c.us pa fu f0 false).1.1,(zbl s c.p c.us pa fu f0 false).1.2.all id,0) else (f0,false,(zbl s c.p c.us pa fu f0 false).2)
  | [c,d]=>if (zbl s c.p c.us pa fu f0 false).2=0 then
    (if (zbl s d.p d.us pa fu (zbl s c.p c.us pa fu f0 false).1.1 true).2=0 then
     (if c.p.st=2 then zmM (zbl s d.p d.us pa fu (zbl s c.p c.us pa fu f0 false).1.1 true).1.1 (zbl s c.p c.us pa fu f0 false).1.1 else zmM (zbl s c.p c.us pa fu f0 false).1.1 (zbl s d.p d.us pa fu (zbl s c.p c.us pa fu f0 false).1.1 true).1.1,(zbl s c.p c.us pa fu f0 false).1.2.all id&&(zbl s d.p d.us pa fu (zbl s c.p c.us pa fu f0 false).1.1 true).1.2.all id,0)
     else (f0,false,(zbl s d.p d.us pa fu (zbl s c.p c.us pa fu f0 false).1.1 true).2))
   else (f0,false,(zbl s c.p c.us pa fu f0 false).2)
  | _=>(f0,false,1)
 else (f0,false,1)
def zd4 (x:It):Cdd:=⟨x.p,x.U,x.us⟩
def zc5 (L:List It) (e:Ent):List Cdd:=((L.drop e.1.f.toNat).take (e.1.l.toNat+1 - e.1.f.toNat)).map zd4
def zeg (l:List Sho) (n:Int):Sho:=if n<0 then zjl else (l[n.toNat]?).getD zjl
def shE (L:List It) (e:Ent) (l:List Sho):Sho:=
 ⟨(zhn e.2.1 (zc5 L e) (zeg l e.1.pa).fr (zeg l e.1.fu).fr).1,e.1.f,e.1.l,e.1.ty,((zhn e.2.1 (zc5 L e) (zeg l e.1.pa).fr (zeg l e.1.fu).fr).2.1&&(decide (e.1.ty=1)||(zeg l e.1.pa).ok))&&(!decide (e.1.ty=3)||(zeg l e.1.fu).ok),if e.2.2.rp then 3 else 2,e.2.2.tf⟩
def dvN (L:List It) (es:List Ent):Nat→List Sho
 | 0=>[]
 | k+1=>dvN L es k++(match es[k]? with|some e=>[shE L e (dvN L es k)]|none=>[])
theorem zfW (L:List It) (es:List Ent):∀ k,k≤es.length→(dvN L es k).length=k
 | 0,_=>rfl
 | k+1,h=>by
  rw [dvN,List.getElem?_eq_getElem (by omega),List.length_append,zfW L es k (by omega)];rfl
def zcn (L:List It) (es:List Ent):Nat→List Sho
 | 0=>List.replicate es.length zjl
 | k+1=>match es[k]? with|some e=>(zcn L es k).set e.1.sh.toNat (shE L e (dvN L es k))|none=>zcn L es k
theorem zcy (L:List It) (es:List Ent):∀ k,(zcn L es k).length=es.length
 | 0=>by simp [zcn]
 | k+1=>by
  rw [zcn]
  split
  ·rw [List.length_set,zcy L es k]
  ·exact zcy L es k
theorem zlW {L:List It} {es:List Ent} (h:SInv L es):∀ (k:Nat),k≤es.length→∀ (j:Nat) (e:Ent),j<k→es[j]? =some e→(zcn L es k)[e.1.sh.toNat]? =(dvN L es k)[j]?
 | 0,_,j,_,hj,_=>by omega
 | k+1,hk,j,e,hj,he=>by
  have hkk:k<es.length:=by omega
  have hl:=zcy L es k
  have hs:=h.s k _ (List.getElem?_eq_getElem hkk)
  rw [zcn,dvN,List.getElem?_eq_getElem hkk]
  dsimp only
  by_cases hjk:j=k
  ·subst hjk
   rw [List.getElem?_eq_getElem hkk] at he
   injection he with he
   subst he
   rw [List.getElem?_set,if_pos rfl,if_pos (by omega),List.getElem?_append_right (by rw [zfW L es j (by omega)];exact Nat.le_refl _),zfW L es j (by omega),Nat.sub_self]
   rfl
  ·have hne:es[k].1.sh.toNat≠e.1.sh.toNat:=fun hh=>by
    have hs2:=h.s j e he
    have:=h.i j k e es[k] he (List.getElem?_eq_getElem hkk) (by omega)
    exact hjk this
   rw [List.getElem?_set,if_neg hne,List.getElem?_append_left (by rw [zfW L es k (by omega)];omega)]
   exact zlW h k (by omega) j e (by omega) he
def zrq (es:List Ent) (out:List Sho) (n:Int):Sho:=if n<0 then zjl else match es[n.toNat]? with|some e=>(out[e.1.sh.toNat]?).getD zjl|none=>zjl
theorem zlL {L:List It} {es:List Ent} (h:SInv L es) {k:Nat} (hk:k≤es.length) {n:Int} (hn: -1≤n∧n<k):zrq es (zcn L es k) n=zeg (dvN L es k) n:=by
 unfold zrq zeg
 by_cases h0:n<0
 ·rw [if_pos h0,if_pos h0]
 ·rw [if_neg h0,if_neg h0,List.getElem?_eq_getElem (show n.toNat<es.length by omega)]
  dsimp only
  rw [zlW h k hk n.toNat _ (by omega) (List.getElem?_eq_getElem (by omega))]
def zfj (L:List It):List Sho:=zcn L (zbj L) (zbj L).length
def zcr (x:It):It:={ x with U:=[],pad:=0 }
def ztQ (c:Cdd):Cdd:={ c with U:=[] }
theorem zpU (L:List It) (n:Int):hdA (L.map zcr) n=hdA L n:=by
 unfold hdA
 rw [List.getElem?_map]
 cases L[n.toNat]? <;>rfl
theorem zpg (L:List It) (a:As) (i:Int) (h:Pi):As.pic (L.map zcr) a i h=As.pic L a i h:=by
 unfold As.pic
 simp only [zpU]
theorem znh (L:List It) (a:As) (i:Int) (x:It):As.item (L.map zcr) a i (zcr x)=As.item L a i x:=by
 unfold As.item
 simp only [zpg]
 rfl
theorem zj6 (L:List It):∀ (r:List It) (a:As) (d:Dp) (i:Int),dpN (L.map zcr) a d i (r.map zcr)=dpN L a d i r
 | [],_,_,_=>rfl
 | x::r,a,d,i=>by
  rw [List.map_cons,dpN,dpN,znh,zj6 L r]
theorem zmO (L:List It):zbj (L.map zcr)=zbj L:=by
 unfold zbj
 rw [zj6]
theorem znt (s:Sq) (cs:List Cdd):zhq s (cs.map ztQ)=zhq s cs:=by
 unfold zhq
 match cs with
 | []=>rfl
 | [c]=>rfl
 | [c,d]=>rfl
 | c::d::e::r=>simp
theorem znk (s:Sq) (cs:List Cdd) (pa fu:Fm):zhn s (cs.map ztQ) pa fu=zhn s cs pa fu:=by
 unfold zhn
 rw [znt]
 match cs with
 | []=>rfl
 | [c]=>rfl
 | [c,d]=>rfl
 | c::d::e::r=>rfl
theorem zkQ (L:List It) (e:Ent):zc5 (L.map zcr) e=(zc5 L e).map ztQ:=by
 unfold zc5
 rw [←List.map_drop,←List.map_take,List.map_map,List.map_map]
 rfl
theorem zjn (L:List It) (e:Ent) (l:List Sho):shE (L.map zcr) e l=shE L e l:=by
 unfold shE
 rw [zkQ,znk]
theorem zj5 (L:List It) (es:List Ent):∀ k,dvN (L.map zcr) es k=dvN L es k
 | 0=>rfl
 | k+1=>by
  rw [dvN,dvN,zj5 L es k]
  simp only [zjn]
theorem zhC (L:List It) (es:List Ent):∀ k,zcn (L.map zcr) es k=zcn L es k
 | 0=>rfl
 | k+1=>by
  rw [zcn,zcn,zhC L es k,zj5]
  simp only [zjn]
theorem zhM (L:List It):zfj (L.map zcr)=zfj L:=by
 unfold zfj
 rw [zmO,zhC]
theorem zns {L M:List It} (h:L.map zcr=M.map zcr):zfj L=zfj M:=by
 rw [←zhM L,h,zhM]
def tw (H:za) (i j:Nat) (A B:Blk):za:=(H.set i A).set j B
theorem ztI (H:za) (i j:Nat) (A B:Blk) (h:i<H.length∧i≠j):(tw H i j A B)[i]? =some A:=by
 unfold tw;rw [List.getElem?_set_ne (by omega)];simp [h.1]
theorem tw_1 (H:za) (i j:Nat) (A B:Blk) (h:j<H.length):(tw H i j A B)[j]? =some B:=by
 unfold tw;simp [h]
theorem ztH (H:za) (i j:Nat) (A B:Blk):(tw H i j A B).length=H.length:=by simp [tw]
theorem zs2 (H:za) (i j:Nat) (A B C D:Blk) (h:i≠j):tw (tw H i j A B) i j C D=tw H i j C D:=by
 unfold tw;rw [List.set_comm _ _ (by omega:i≠j),List.set_set,List.set_comm _ _ (by omega:j≠i),List.set_set]
theorem zdT {H:za} {i:Nat} {A:Blk} (h:H[i]? =some A):H.set i A=H:=by
 apply List.ext_getElem?
 intro j
 rw [List.getElem?_set]
 split
 ·rename_i e;subst e
  split
  ·exact h.symm
  ·rename_i hn;exact absurd (List.getElem?_eq_some_iff.1 h).1 hn
 ·rfl
theorem zs3 {H:za} {i j:Nat} {A B:Blk} (hA:∀ x∈A.cells,Scoped H.length x) (hB:∀ x∈B.cells,Scoped H.length x) (h:HSc H):HSc (tw H i j A B):=
 HSc.set (HSc.set h hA) (by rw [List.length_set];exact hB)
theorem zez {α:Type} (enc:α→List PV) (N r:Nat) (v:PV) (hr:r<N) (f:α→α):∀ (l:List α) (k:Nat),k<l.length→(∀ x∈l,(enc x).length=N)→(∀ x∈l,enc (f x)=(enc x).set r v)→(l.flatMap enc).set (k * N+r) v=(l.modify k f).flatMap enc
 | [],k,hk,_,_=>by simp at hk
 | x::l,0,_,h1,h2=>by
  have e1:=h1 x List.mem_cons_self
  rw [List.flatMap_cons,Nat.zero_mul,Nat.zero_add,List.set_append_left _ _ (by omega),List.modify_zero_cons,List.flatMap_cons,h2 x List.mem_cons_self]
 | x::l,k+1,hk,h1,h2=>by
  have e1:=h1 x List.mem_cons_self
  have ih:=zez enc N r v hr f l k (by simpa using hk) (fun y hy=>h1 y (List.mem_cons_of_mem _ hy)) (fun y hy=>h2 y (List.mem_cons_of_mem _ hy))
  rw [List.flatMap_cons,List.set_append_right _ _ (by rw [e1,Nat.add_mul];omega),List.modify_succ_cons,List.flatMap_cons,←ih,e1]
  congr 2
  rw [Nat.add_mul];omega
def zF (e:Ent):List PV:=.int .i64 e.1.f:: .int .i64 e.1.l:: .int .i64 e.1.ty:: .int .i64 e.1.pa:: .int .i64 e.1.fu:: .int .i64 e.1.sh::(sqc e.2.1++pic e.2.2)
def dpB (j:Nat) (d:Dp):Blk:=⟨118,0,[.msl j (d.en.length * 147) 0 d.en.length 147 true,.int .i64 d.old,.int .i64 d.new,.bool d.wt,.int .i64 d.lk,.int .i64 d.sh]⟩
def enB (es:List Ent):Blk:=⟨74,es.length * 147,es.flatMap zF⟩
structure DpOk (d:Dp) (m:Nat):Prop where
 sq:∀ e∈d.en,SqL e.2.1
 n:d.en.length≤m
 sh:0≤d.sh∧d.sh≤d.en.length
 lk:0≤d.lk∧d.lk≤2
 new: -1≤d.new∧d.new<d.en.length
 old: -1≤d.old∧d.old<d.en.length
 wt:d.wt=true→0≤d.new
theorem zb6 (e:Ent) (h:SqL e.2.1):(zF e).length=147:=by
 simp only [zF,List.length_cons,List.length_append,zac _ h,pic,List.length_nil]
theorem zg1 {es:List Ent} (h:∀ e∈es,SqL e.2.1):(es.flatMap zF).length=es.length * 147:=zaF zF 147 es fun e he=>zb6 e (h e he)
theorem zuU {es:List Ent} (h:∀ e∈es,SqL e.2.1) (n:Nat) (hn:n<es.length) (v:Int):(es.flatMap zF).set (n * 147+5) (.int .i64 v)=(es.modify n (zU v)).flatMap zF:=
 zez zF 147 5 (.int .i64 v) (by omega) (zU v) es n hn (fun e he=>zb6 e (h e he)) fun e _=>rfl
structure DpH (H:za) (i j:Nat) (d:Dp):Prop where
 gi:H[i]? =some (dpB j d)
 gj:H[j]? =some (enB d.en)
 ne:i≠j
theorem zvx (H:za) (i j:Nat) (d:Dp) (B:Blk) (hil:i<H.length) (hne:i≠j):(tw H i j (dpB j d) B)[i]? =some ⟨118,0,[.msl j (d.en.length * 147) 0 d.en.length 147 true,.int .i64 d.old,.int .i64 d.new,.bool d.wt,.int .i64 d.lk,.int .i64 d.sh]⟩:=ztI _ _ _ _ _ ⟨hil,hne⟩
theorem show_ok (d:Dp) (n:Nat) (i j:Nat) (H:za) (h:DpH H i j d) (hd:DpOk d 1000000) (hn:n<d.en.length) (hs:d.sh<1000000):CallOk Tryz.prog 111 [.ptr i 0 0,.int .i64 (n:Int)] H (.tup []) (tw H i j (dpB j (d.show n)) (enB (d.show n).en)):=by
 obtain ⟨hi,hj,hne⟩:=h
 unfold dpB at hi
 unfold enB at hj
 have hil:i<H.length:=(List.getElem?_eq_some_iff.1 hi).1
 have hjl:j<H.length:=(List.getElem?_eq_some_iff.1 hj).1
 have hln:=zg1 hd.sq
 have hji:∀ B,(H.set j B)[i]? =H[i]? :=fun B=>List.getElem?_set_ne (by omega)
 have hsh:=hd.sh
 have hset:=zuU hd.sq n hn d.sh
 have hnn:=hd.n
 refine CallOk.body (F0:=[(0,.ptr i 0 0),(1,.int .i64 (n:Int))]) Tryz.func111 rfl Tryz.ntmps111 Tryz.results111 rfl (by kernel_rfl) rfl ?_
 (repeat refine PW.seq ?_);refine PW.drawi [j] [(7,[0]),(13,[0]),(14,[0]),(15,[0])] [] [] mix (by kernel_rfl) (by simp<;>omega) fun K hK=> ?_
 simp (disch:=omega) only [go_sem,↓reduceIte,reduceCtorEq,hi,hj,hln,hset]
 refine hK _ _ ?_;clear hK K
 refine PW.f (fun K k=>by simp (disch:=omega) only [go_sem,↓reduceIte,reduceCtorEq,hji,hi];exact k) ?_
 refine ⟨_,rfl,.inl ⟨rfl,?_⟩⟩
 unfold tw dpB enB Dp.show
 rw [List.set_comm _ _ hne,Int.toNat_natCast]
 simp only [List.length_modify]
theorem Dp.show_ok {d:Dp} {m n:Nat} (hd:DpOk d m) (hs:d.sh<d.en.length):DpOk (d.show n) m:=by
 obtain ⟨h1,h2,h3,h4,h5,h6,h7⟩:=hd
 refine ⟨fun e he=> ?_,?_,?_,h4,?_,?_,h7⟩
 ·simp only [Dp.show] at he
  obtain ⟨k,hk,rfl⟩:=List.getElem_of_mem he
  rw [List.getElem_modify]
  rw [List.length_modify] at hk
  have h0:=h1 d.en[k] (List.getElem_mem hk)
  split
  ·exact h0
  ·exact h0
 all_goals simp only [Dp.show,List.length_modify]
 ·exact h2
 ·omega
 ·exact h5
 ·exact h6
structure DpG (d:Dp) (m:Nat):Prop where
 ok:DpOk d m
 cnt:d.sh+(if d.wt then 1 else 0)≤d.en.length
theorem zp3 (d:Dp):d.flush.sh=d.sh+if d.wt then 1 else 0:=by
 unfold Dp.flush
 split
 ·rfl
 ·omega
theorem zhJ (d:Dp):d.flush.en.length=d.en.length:=by
 unfold Dp.flush
 split
 ·simp [Dp.show]
 ·rfl
theorem zey {d:Dp} {m:Nat} (h:DpG d m):DpG d.flush m∧d.flush.sh+0≤d.en.length:=by
 obtain ⟨hd,hc⟩:=h
 unfold Dp.flush
 by_cases hw:d.wt=true
 ·rw [if_pos hw] at hc ⊢
  have h7:=hd.wt hw
  obtain ⟨n,hn⟩:∃ n:Nat,d.new=(n:Int):=⟨d.new.toNat,by omega⟩
  rw [hn]
  obtain ⟨q1,q2,q3,q4,q5,q6,q7⟩:=Dp.show_ok (n:=n) hd (by omega)
  refine ⟨⟨⟨q1,q2,q3,q4,q5,q6,fun h=>by cases h⟩,?_⟩,?_⟩
  ·simp only [Dp.show,List.length_modify,Bool.false_eq_true,if_false];omega
  ·simp only [Dp.show];omega
 ·rw [if_neg hw] at hc ⊢
  exact ⟨⟨hd,by rw [if_neg hw];omega⟩,by omega⟩
theorem zgX (d:Dp) (i j:Nat) (H:za) (h:DpH H i j d) (hd:DpG d 1000000):CallOk Tryz.prog 56 [.ptr i 0 0] H (.tup []) (tw H i j (dpB j d.flush) (enB d.flush.en)):=by
 have h':=h
 obtain ⟨hi,hj,hne⟩:=h
 have hil:i<H.length:=(List.getElem?_eq_some_iff.1 hi).1
 have hjl:j<H.length:=(List.getElem?_eq_some_iff.1 hj).1
 have hw:=hd.ok.wt
 have hcn:=hd.cnt
 have hnew:=hd.ok.new
 have hnn:=hd.ok.n
 unfold dpB at hi
 generalize hr:d.flush=r
 unfold Dp.flush at hr
 refine CallOk.body (F0:=[(0,.ptr i 0 0)]) Tryz.func56 rfl Tryz.ntmps56 Tryz.results56 rfl (by kernel_rfl) rfl ?_
 refine PW.f (fun K k=>by simp (disch:=omega) only [go_sem,↓reduceIte,reduceCtorEq,hi];exact k) ?_
 (repeat refine PW.seq ?_);refine PW.cond (t:=_) rfl (fun h=> ?_) (fun h=> ?_)
 ·obtain ⟨n,hn⟩:∃ n:Nat,d.new=(n:Int):=⟨d.new.toNat,by have:=hw h;omega⟩
  rw [if_pos h] at hr hcn
  have sok:=show_ok d n i j H h' hd.ok (by omega) (by omega)
  have g0:=zvx H i j (d.show n) (enB (d.show n).en) hil hne
  rw [hn] at hi hr
  generalize d.show n=d' at *
  refine PW.f (fun K k=>by simp (disch:=omega) only [go_sem,↓reduceIte,reduceCtorEq,hi];refine VCx.call (sok) rfl ?_;simp (disch:=omega) only [go_sem,↓reduceIte,reduceCtorEq];exact k) ?_
  refine PW.f (fun K k=>by simp (disch:=omega) only [go_sem,↓reduceIte,reduceCtorEq,g0];exact k) ?_
  refine ⟨_,rfl,.inl ⟨rfl,?_⟩⟩
  subst hr
  unfold tw dpB
  rw [List.set_comm _ _ hne,List.set_set,List.set_comm _ _ (by omega:j≠i)]
 ·rw [if_neg (by rw [h];simp)] at hr
  subst hr
  refine PW.skip ?_
  refine ⟨_,rfl,.inl ⟨rfl,?_⟩⟩
  unfold tw
  rw [zdT h'.gi,zdT h'.gj]
theorem zhU (H K:za) (i j:Nat) (A B:Blk) (hi:i<H.length) (hj:j<H.length):tw (H++K) i j A B=tw H i j A B++K:=by
 unfold tw
 rw [List.set_append_left _ _ hi,List.set_append_left _ _ (by rw [List.length_set];exact hj)]
theorem zqf (n j:Nat) (d:Dp) (h:j<n):∀ x∈(dpB j d).cells,Scoped n x:=fun x hx=>by
 simp only [dpB,List.mem_cons,List.not_mem_nil,or_false] at hx
 rcases hx with rfl|rfl|rfl|rfl|rfl|rfl
 ·exact .msl h
 ·exact .int _ _
 ·exact .int _ _
 ·exact .bool _
 ·exact .int _ _
 ·exact .int _ _
theorem zcX (n:Nat) (es:List Ent):∀ x∈(enB es).cells,Scoped n x:=fun x hx=>by
 obtain ⟨e,_,hx⟩:=List.mem_flatMap.1 hx
 simp only [zF,List.mem_cons,List.mem_append] at hx
 rcases hx with rfl|rfl|rfl|rfl|rfl|rfl|hx|hx
 ·exact .int _ _
 ·exact .int _ _
 ·exact .int _ _
 ·exact .int _ _
 ·exact .int _ _
 ·exact .int _ _
 ·exact zbn _ _ x hx
 ·exact zlS _ _ x hx
theorem ziE (H K:za) (i j:Nat) (d:Dp) (hi:i<H.length) (hj:j<H.length):Fin H (.tup []) (tw H i j (dpB j d) (enB d.en)) (.tup []) (tw (H++K) i j (dpB j d) (enB d.en)):=by
 rw [zhU _ _ _ _ _ _ hi hj]
 exact Fin.cut rfl (by rw [ztH]) (zs3 (zqf _ _ _ hj) (zcX _ _)) (.id (.tup (by simp)))
theorem zmn (es:List Ent) (e:Ent):(es++[e]).flatMap zF=es.flatMap zF++zF e:=by
 rw [List.flatMap_append,List.flatMap_cons,List.flatMap_nil,List.append_nil]
theorem DpH.two {H:za} {i j:Nat} {d:Dp} (h:DpH H i j d) (K:za) (d':Dp):DpH (tw (H++K) i j (dpB j d') (enB d'.en)) i j d':=by
 have hil:i<H.length:=(List.getElem?_eq_some_iff.1 h.gi).1
 have hjl:j<H.length:=(List.getElem?_eq_some_iff.1 h.gj).1
 exact ⟨ztI _ _ _ _ _ ⟨by rw [List.length_append];omega,h.ne⟩,tw_1 _ _ _ _ _ (by rw [List.length_append];omega),h.ne⟩
theorem DpH.self {H:za} {i j:Nat} {d:Dp} (h:DpH H i j d) (K:za):tw (H++K) i j (dpB j d) (enB d.en)=H++K:=by
 have hil:i<H.length:=(List.getElem?_eq_some_iff.1 h.gi).1
 have hjl:j<H.length:=(List.getElem?_eq_some_iff.1 h.gj).1
 rw [zhU _ _ _ _ _ _ hil hjl]
 unfold tw
 rw [zdT h.gi,zdT h.gj]
theorem zsd {d:Dp} {f:FmY} {m:Nat} (h:DpG d m) (hf:SqL f.sq):DpG (d.frame f) (m+1):=by
 obtain ⟨⟨h1,h2,h3,h4,h5,h6,h7⟩,h8⟩:=h
 have hsq:∀ {pa fu:Int},∀ e∈d.en++[fmE f pa fu],SqL e.2.1:=fun e he=>by
  rcases List.mem_append.1 he with he|he
  ·exact h1 e he
  ·rw [List.mem_singleton] at he;rw [he];exact hf
 unfold Dp.frame
 split
 ·split
  ·exact ⟨⟨h1,by omega,h3,h4,h5,h6,h7⟩,h8⟩
  ·have:=Dp.show_ok (d:={ d with en:=d.en++[fmE f d.old d.new] }) (m:=m+1) (n:=d.en.length) ⟨hsq,by simp;omega,by simp;omega,h4,by simp;omega,by simp;omega,h7⟩ (by simp;split at h8<;>omega)
   refine ⟨this,?_⟩
   simp only [Dp.show,List.length_modify,List.length_append,List.length_cons,List.length_nil]
   show d.sh+1+(if d.wt=true then (1:Int) else 0)≤_
   split at h8
   ·rename_i hw;rw [if_pos hw];omega
   ·rename_i hw;rw [if_neg hw];omega
 ·split
  ·exact ⟨⟨h1,by omega,h3,h4,h5,h6,h7⟩,h8⟩
  ·obtain ⟨⟨⟨q1,q2,q3,q4,q5,q6,q7⟩,q8⟩,q9⟩:=zey (d:={ d with en:=d.en++[fmE f d.new (-1)] }) (m:=m+1) ⟨⟨hsq,by simp;omega,by simp;omega,h4,by simp;omega,by simp;omega,h7⟩,by simp;split at h8<;>omega⟩
   have hl:=zhJ { d with en:=d.en++[fmE f d.new (-1)] }
   have hs:(Dp.flush { d with en:=d.en++[fmE f d.new (-1)] }).sh=d.sh+if d.wt then 1 else 0:=zp3 _
   have hf:=zbg { d with en:=d.en++[fmE f d.new (-1)] }
   generalize Dp.flush { d with en:=d.en++[fmE f d.new (-1)] }=e at *
   simp only [List.length_append,List.length_cons,List.length_nil] at hl q9
   obtain ⟨f1,f2,f3,f4⟩:=hf
   rw [f3] at q8
   simp only [Bool.false_eq_true,if_false] at q8
   have hcn:e.sh≤d.en.length:=by rw [hs];exact h8
   refine ⟨⟨q1,q2,q3,?_,?_,?_,?_⟩,?_⟩
   ·simp only;omega
   ·simp only;omega
   ·simp only;omega
   ·intro _;simp only;omega
   ·simp only [if_true];omega
def zC (f:FmY):List PV:=.int .i64 f.f:: .int .i64 f.l::(sqc f.sq++(pic f.hd++[.bool f.rs,.int .i64 f.lk]))
theorem zbU (f:FmY) (h:SqL f.sq):(zC f).length=145:=by
 simp only [zC,List.length_cons,List.length_append,zac _ h,pic,List.length_nil]
theorem zwA (f:FmY) (h:SqL f.sq):List.take 135 (List.drop 2 (zC f))=sqc f.sq:=by
 show List.take 135 (sqc f.sq++_)=_
 exact List.take_left' (zac _ h)
theorem ztp (f:FmY) (h:SqL f.sq) (n:Nat):List.drop (137+n) (zC f)=List.drop n (pic f.hd++[.bool f.rs,.int .i64 f.lk]):=by
 have e:List.drop 137 (zC f)=pic f.hd++[.bool f.rs,.int .i64 f.lk]:=by
  show List.drop 135 (sqc f.sq++_)=_
  exact List.drop_left' (zac _ h)
 rw [←List.drop_drop,e]
theorem zwB (f:FmY) (h:SqL f.sq):List.take 6 (List.drop 137 (zC f))=pic f.hd:=by
 have:=ztp f h 0
 rw [this];rfl
theorem zk9 (f:FmY) (h:SqL f.sq) (n:Nat):(zC f)[137+n]? =(pic f.hd++[.bool f.rs,.int .i64 f.lk])[n]? :=by
 have:=congrArg (·[0]?) (ztp f h n)
 simpa using this
theorem zwD (f:FmY):(zC f)[0]? =some (.int .i64 f.f):=rfl
theorem zwC (f:FmY):(zC f)[1]? =some (.int .i64 f.l):=rfl
theorem zuJ (f:FmY) (h:SqL f.sq):(zC f)[137]? =some (.int .i64 f.hd.ty):=zk9 f h 0
theorem zuK (f:FmY) (h:SqL f.sq):(zC f)[143]? =some (.bool f.rs):=zk9 f h 6
theorem zuL (f:FmY) (h:SqL f.sq):(zC f)[144]? =some (.int .i64 f.lk):=zk9 f h 7
theorem zcs (s:Sq):(sqc s).all PV.cell=true:=by
 simp [sqc,bs,PV.cell]
theorem zb5 (f:FmY):(zC f).all PV.cell=true:=by
 simp [zC,sqc,bs,pic,PV.cell]
set_option maxHeartbeats 2000000 in
set_option maxRecDepth 100000 in
theorem zst (d:Dp) (f:FmY) (i j:Nat) (H:za) (h:DpH H i j d) (hd:DpG d 900000) (hf:SqL f.sq):CallOk Tryz.prog 57 [.ptr i 0 0,.agg (zC f)] H (.tup []) (tw H i j (dpB j (d.frame f)) (enB (d.frame f).en)):=by
 have h':=h
 obtain ⟨hi,hj,hne⟩:=h
 have hil:i<H.length:=(List.getElem?_eq_some_iff.1 hi).1
 have hjl:j<H.length:=(List.getElem?_eq_some_iff.1 hj).1
 have hi1:∀ K,(H++K)[i]? =H[i]? :=fun K=>List.getElem?_append_left hil
 have hj1:∀ K,(H++K)[j]? =H[j]? :=fun K=>List.getElem?_append_left hjl
 unfold dpB at hi
 unfold enB at hj
 have f0:=zbU f hf
 have f1:=zwA f hf
 have f2:=zwB f hf
 have f3:=zwD f
 have f4:=zwC f
 have f5:=zuJ f hf
 have f6:=zb5 f
 have g1:=zac f.sq hf
 generalize hr:d.frame f=r
 unfold Dp.frame at hr
 refine CallOk.body (F0:=[(0,.ptr i 0 0),(1,.agg (zC f))]) Tryz.func57 rfl Tryz.ntmps57 Tryz.results57 rfl (by kernel_rfl) rfl ?_
 refine PW.f (fun K k=>by simp (disch:=omega) only [go_sem,↓reduceIte,reduceCtorEq,f6];exact k) ?_
 have g2:=zcs f.sq
 have g3:∀ X,List.take 135 (sqc f.sq++X)=sqc f.sq:=fun X=>List.take_left' g1
 have g4:∀ X n,List.drop (135+n) (sqc f.sq++X)=List.drop n X:=fun X n=>by rw [←List.drop_drop,List.drop_left' g1]
 have g5:∀ X,List.drop 141 (sqc f.sq++X)=List.drop 6 X:=fun X=>g4 X 6
 have g6:(pic f.hd).length=6:=rfl
 have g7:(pic f.hd).all PV.cell=true:=rfl
 refine PW.f (fun K k=>by simp (disch:=omega) only [go_sem,↓reduceIte,reduceCtorEq,f0,f1,f2,g1,g2,g3,g5,g6,g7,List.length_append,List.append_nil];exact k) ?_
 (repeat refine PW.seq ?_);refine PW.drawi [H.length+1] [(4,[0]),(12,[0]),(23,[0])] [] [] mix (by kernel_rfl) (by simp<;>omega) fun K hK=> ?_
 simp (disch:=omega) only [go_sem,↓reduceIte,reduceCtorEq,hi1,hi,f0,f3,f4,f5]
 refine hK _ _ ?_;clear hK K
 refine PW.f (fun K k=>by simp (disch:=omega) only [go_sem,↓reduceIte,reduceCtorEq,hi1,hj1,hi,hj];exact k) ?_
 refine PW.e ?_
 have hln:=zg1 hd.ok.sq
 have hnn:=hd.ok.n
 have hsh:=hd.ok.sh
 have hlk:=hd.ok.lk
 have hcn:=hd.cnt
 have hji:∀ K B,((H++K).set j B)[i]? =H[i]? :=fun K B=>by rw [List.getElem?_set_ne (by omega)];exact hi1 K
 have hjj:∀ K B,((H++K).set j B)[j]? =some B:=fun K B=>by rw [List.getElem?_set_self (by simp;omega)]
 (repeat refine PW.seq ?_);refine PW.cond (t:=_) rfl (fun h=> ?_) (fun h=> ?_)
 ·have ht:f.hd.ty=3:=by simpa using h
  rw [if_pos ht] at hr
  suffices hrest:∀ b,(b=true↔(d.lk≠0∨d.old= -1∨d.new= -1))→PW Tryz.prog _ _ [(0,.ptr i 0 0),(3,.ptr H.length 0 0),(4,.ptr (H.length+1) 0 0),(5,.int .i64 (d.en.length:Int)),(51,.bool b)] (H++[⟨123,0,zC f⟩,⟨74,0,zF (fmE f d.new (-1))⟩]) _ by
   (repeat refine PW.seq ?_);refine PW.rg rfl fun K hK=> ?_;simp (disch:=omega) only [go_sem,↓reduceIte,reduceCtorEq,hi1,hi];(repeat' ((first|refine zk ?_ ?_|refine zn ?_ ?_|refine zT ?_ ?_|refine zS ?_ ?_|refine zR ?_ ?_|refine And.intro ?_ ?_)<;>intro h<;>(try simp only [nqb] at h)<;>simp (disch:=omega) only [go_sem,↓reduceIte,reduceCtorEq,hi1,hi,h]))
   all_goals (refine hK _ _ ?_;clear hK K)
   all_goals (refine PW.at [0,3,4,5,51] (hrest _ ?_) rfl rfl)
   all_goals (simp_all;try omega)
  intro b hb
  (repeat refine PW.seq ?_);refine PW.cond (t:=_) rfl (fun h=> ?_) (fun h=> ?_)
  ·subst h
   rw [if_pos (hb.1 rfl)] at hr
   subst hr
   refine PW.ret ⟨_,rfl,?_⟩
   have e7:=ziE H [⟨123,0,zC f⟩,⟨74,0,zF (fmE f d.new (-1))⟩] i j d hil hjl
   rw [h'.self] at e7
   exact e7
  ·subst h
   rw [if_neg (fun h=>by have:=hb.2 h;cases this)] at hr
   refine PW.skip ?_
   obtain ⟨E,hE⟩:∃ E,E=zF (fmE f d.old d.new):=⟨_,rfl⟩
   have el:(PV.int .i64 f.f::PV.int .i64 f.l::PV.int .i64 f.hd.ty::PV.int .i64 d.old::PV.int .i64 d.new::PV.int .i64 0::(sqc f.sq++pic f.hd))=E:=hE.symm
   have e1:E.length=147:=by rw [hE];exact zb6 _ hf
   have e2:List.take 147 E=E:=List.take_of_length_le (by omega)
   have e3:E.all PV.cell=true:=by rw [hE];simp [zF,zcs,PV.cell,pic]
   (repeat refine PW.seq ?_);refine PW.drawi [H.length+1] [(4,[0]),(60,[0]),(61,[0]),(62,[0]),(63,[0])] [] [] mix (by kernel_rfl) (by simp<;>omega) fun K hK=> ?_
   simp (disch:=omega) only [go_sem,↓reduceIte,reduceCtorEq,hi1,hi,zF,fmE,el]
   refine hK _ _ ?_;clear hK K
   (repeat refine PW.seq ?_);refine PW.drawi [j,i] [(68,[0]),(71,[0]),(0,[1]),(64,[1]),(65,[1]),(66,[1]),(67,[1]),(72,[1]),(73,[1])] [] [] mix (by kernel_rfl) (by simp<;>omega) fun K hK=> ?_
   simp (disch:=omega) only [go_sem,↓reduceIte,reduceCtorEq,hi1,hj1,hi,hj,hji,hjj,hln,e1,e2,e3]
   refine hK _ _ ?_;clear hK K
   have hX:=h'.two [⟨123,0,zC f⟩,⟨74,0,E⟩] { d with en:=d.en++[fmE f d.old d.new] }
   have hXg:(d.en++[fmE f d.old d.new]).length=d.en.length+1:=by simp
   have hsq:∀ e∈d.en++[fmE f d.old d.new],SqL e.2.1:=fun e he=>by
    rcases List.mem_append.1 he with he|he
    ·exact hd.ok.sq e he
    ·rw [List.mem_singleton] at he;rw [he];exact hf
   have sok:=show_ok { d with en:=d.en++[fmE f d.old d.new] } d.en.length i j _ hX ⟨hsq,by simp;omega,by simp;omega,hlk,by have:=hd.ok.new;simp;omega,by have:=hd.ok.old;simp;omega,hd.ok.wt⟩ (by simp) (by show d.sh<_;omega)
   rw [zs2 _ _ _ _ _ _ _ hne] at sok
   have e7:=ziE H [⟨123,0,zC f⟩,⟨74,0,E⟩] i j (Dp.show { d with en:=d.en++[fmE f d.old d.new] } d.en.length) hil hjl
   rw [hr] at e7 sok
   refine PW.at [0,5] (?_:PW _ _ _ [(0,.ptr i 0 0),(5,.int .i64 (d.en.length:Int))] (tw (H++[⟨123,0,zC f⟩,⟨74,0,E⟩]) i j (dpB j { d with en:=d.en++[fmE f d.old d.new] }) (enB (d.en++[fmE f d.old d.new]))) _) rfl ?_
   ·generalize tw (H++[⟨123,0,zC f⟩,⟨74,0,E⟩]) i j (dpB j { d with en:=d.en++[fmE f d.old d.new] }) (enB (d.en++[fmE f d.old d.new]))=X at *
    refine PW.f (fun K k=>by simp (disch:=omega) only [go_sem,↓reduceIte,reduceCtorEq];refine VCx.call (sok) rfl ?_;simp (disch:=omega) only [go_sem,↓reduceIte,reduceCtorEq];exact k) ?_
    exact PW.ret ⟨_,rfl,e7⟩
   ·unfold tw
    rw [List.set_comm _ _ hne]
    have hl9:(List.flatMap zF d.en++E).length=(d.en.length+1) * 147:=by rw [List.length_append,hln,e1];omega
    unfold dpB enB
    simp only [zmn,hXg,←hE,hl9]
 ·have ht:¬ f.hd.ty=3:=by simpa using h
  rw [if_neg ht] at hr
  refine PW.skip ?_
  suffices hrest:∀ b,(b=true↔(f.hd.ty=2∧d.new= -1))→PW Tryz.prog _ _ [(0,.ptr i 0 0),(3,.ptr H.length 0 0),(4,.ptr (H.length+1) 0 0),(5,.int .i64 (d.en.length:Int)),(87,.bool b)] (H++[⟨123,0,zC f⟩,⟨74,0,zF (fmE f d.new (-1))⟩]) _ by
   (repeat refine PW.seq ?_);refine PW.rg rfl fun K hK=> ?_;simp (disch:=omega) only [go_sem,↓reduceIte,reduceCtorEq,hi1,hi,zF,fmE];(repeat' ((first|refine zk ?_ ?_|refine zn ?_ ?_|refine zT ?_ ?_|refine zS ?_ ?_|refine zR ?_ ?_|refine And.intro ?_ ?_)<;>intro h<;>(try simp only [nqb] at h)<;>simp (disch:=omega) only [go_sem,↓reduceIte,reduceCtorEq,hi1,hi,h]))
   all_goals (refine hK _ _ ?_;clear hK K)
   all_goals (refine PW.at [0,3,4,5,87] (hrest _ ?_) rfl rfl)
   all_goals (simp_all;try omega)
  intro b hb
  (repeat refine PW.seq ?_);refine PW.cond (t:=_) rfl (fun h=> ?_) (fun h=> ?_)
  ·subst h
   rw [if_pos (hb.1 rfl)] at hr
   subst hr
   refine PW.ret ⟨_,rfl,?_⟩
   have e7:=ziE H [⟨123,0,zC f⟩,⟨74,0,zF (fmE f d.new (-1))⟩] i j d hil hjl
   rw [h'.self] at e7
   exact e7
  ·subst h
   rw [if_neg (fun h=>by have:=hb.2 h;cases this)] at hr
   refine PW.skip ?_
   obtain ⟨E,hE⟩:∃ E,E=zF (fmE f d.new (-1)):=⟨_,rfl⟩
   have e1:E.length=147:=by rw [hE];exact zb6 _ hf
   have e2:List.take 147 E=E:=List.take_of_length_le (by omega)
   have e3:E.all PV.cell=true:=by rw [hE];simp [zF,zcs,PV.cell,pic]
   rw [←hE]
   (repeat refine PW.seq ?_);refine PW.drawi [j,i] [(92,[0]),(95,[0]),(0,[1]),(88,[1]),(89,[1]),(90,[1]),(91,[1]),(96,[1]),(97,[1])] [] [] mix (by kernel_rfl) (by simp<;>omega) fun K hK=> ?_
   simp (disch:=omega) only [go_sem,↓reduceIte,reduceCtorEq,hi1,hj1,hi,hj,hji,hjj,hln,e1,e2,e3]
   refine hK _ _ ?_;clear hK K
   have hX:=h'.two [⟨123,0,zC f⟩,⟨74,0,E⟩] { d with en:=d.en++[fmE f d.new (-1)] }
   have hXg:(d.en++[fmE f d.new (-1)]).length=d.en.length+1:=by simp
   have hsq:∀ e∈d.en++[fmE f d.new (-1)],SqL e.2.1:=fun e he=>by
    rcases List.mem_append.1 he with he|he
    ·exact hd.ok.sq e he
    ·rw [List.mem_singleton] at he;rw [he];exact hf
   have hG:DpG { d with en:=d.en++[fmE f d.new (-1)] } 1000000:=⟨⟨hsq,by simp;omega,by simp;omega,hlk,by have:=hd.ok.new;simp;omega,by have:=hd.ok.old;simp;omega,hd.ok.wt⟩,by simp;omega⟩
   have fok:=zgX _ i j _ hX hG
   have ff:=zbg { d with en:=d.en++[fmE f d.new (-1)] }
   rw [zs2 _ _ _ _ _ _ _ hne] at fok
   refine PW.at [0,5] (?_:PW _ _ _ [(0,.ptr i 0 0),(5,.int .i64 (d.en.length:Int))] (tw (H++[⟨123,0,zC f⟩,⟨74,0,E⟩]) i j (dpB j { d with en:=d.en++[fmE f d.new (-1)] }) (enB (d.en++[fmE f d.new (-1)]))) _) rfl ?_
   ·have e7:=fun e=>ziE H [⟨123,0,zC f⟩,⟨74,0,E⟩] i j e hil hjl
    have hlk2:=(zey hG).1.ok.lk
    generalize Dp.flush { d with en:=d.en++[fmE f d.new (-1)] }=e at *
    have g0:=zvx (H++[⟨123,0,zC f⟩,⟨74,0,E⟩]) i j e (enB e.en) (by rw [List.length_append];omega) hne
    have g1':∀ B,(tw (H++[⟨123,0,zC f⟩,⟨74,0,E⟩]) i j (dpB j e) (enB e.en)).set i B=tw (H++[⟨123,0,zC f⟩,⟨74,0,E⟩]) i j B (enB e.en):=fun B=>by
     unfold tw;rw [List.set_comm _ _ (by omega:j≠i),List.set_set]
    have g2':∀ B B',(tw (H++[⟨123,0,zC f⟩,⟨74,0,E⟩]) i j B B').set i=fun B2=>tw (H++[⟨123,0,zC f⟩,⟨74,0,E⟩]) i j B2 B':=fun B B'=>by
     funext B2;unfold tw;rw [List.set_comm _ _ (by omega:j≠i),List.set_set]
    have g3':∀ B B',(tw (H++[⟨123,0,zC f⟩,⟨74,0,E⟩]) i j B B')[i]? =some B:=fun B B'=>ztI _ _ _ _ _ ⟨by rw [List.length_append];omega,hne⟩
    generalize tw (H++[⟨123,0,zC f⟩,⟨74,0,E⟩]) i j (dpB j { d with en:=d.en++[fmE f d.new (-1)] }) (enB (d.en++[fmE f d.new (-1)]))=X at *
    refine PW.f (fun K k=>by simp (disch:=omega) only [go_sem,↓reduceIte,reduceCtorEq];refine VCx.call (fok) rfl ?_;simp (disch:=omega) only [go_sem,↓reduceIte,reduceCtorEq];exact k) ?_
    refine PW.f (fun K k=>by simp (disch:=omega) only [go_sem,↓reduceIte,reduceCtorEq,g0,g2',g3'];exact k) ?_
    refine PW.f (fun K k=>by simp (disch:=omega) only [go_sem,↓reduceIte,reduceCtorEq,g3',g2'];exact k) ?_
    have hm:(if e.lk - 1>0 then e.lk - 1 else 0)=max 0 (e.lk - 1):=by split<;>omega
    subst hr
    refine ⟨_,rfl,?_⟩
    rw [hm]
    exact e7 _
   ·unfold tw
    rw [List.set_comm _ _ hne]
    have hl9:(List.flatMap zF d.en++E).length=(d.en.length+1) * 147:=by rw [List.length_append,hln,e1];omega
    unfold dpB enB
    simp only [zmn,hXg,←hE,hl9]
theorem ztF (U:List (List UInt8)) (k:Nat) (hk:k<U.length):(U.flatMap zi9)[k]? =some (.slice (bs U[k]) U[k].length false):=by
 have:=zeA zi9 1 U k 0 hk (fun _ _=>rfl) (by omega)
 rwa [Nat.mul_one,Nat.add_zero] at this
theorem zvs (U:List (List UInt8)):(U.flatMap zi9).length=U.length:=by
 rw [zaF zi9 1 U fun _ _=>rfl,Nat.mul_one]
def itL (l:List It):List PV:=l.flatMap itc
theorem zcg (l:List It) (h:∀ x∈l,SqOk x.s):(itL l).length=l.length * 148:=zaF itc 148 l fun x hx=>zeu x (h x hx)
theorem zuz (l:List It) (h:∀ x∈l,SqOk x.s) (k:Nat) (hk:k<l.length):List.take 148 (List.drop (k * 148) (itL l))=itc l[k]:=zch itc 148 l k hk fun x hx=>zeu x (h x hx)
theorem zfR (l:List It) (h:∀ x∈l,SqOk x.s) (k r:Nat) (hk:k<l.length) (hr:r<148):(itL l)[k * 148+r]? =(itc l[k])[r]? :=zeA itc 148 l k r hk (fun x hx=>zeu x (h x hx)) hr
theorem zcT (n:Nat) (l:List It):∀ x∈itL l,Scoped n x:=fun x hx=>by
 obtain ⟨u,_,hx⟩:=List.mem_flatMap.1 hx
 exact zuy _ _ x hx
theorem zfQ (l:List It) (h:∀ x∈l,SqOk x.s) (k r n:Nat) (hk:k<l.length) (hr:r+n≤148):List.take n (List.drop (k * 148+r) (itL l))=List.take n (List.drop r (itc l[k])):=by
 rw [←zuz l h k hk,List.drop_take,List.take_take,Nat.min_eq_left (by omega),List.drop_drop]
def zrJ (x:It):Bool:= !(decide (5000<x.pad)&&decide (x.pad≤1048576))
def ltI (x:It):Bool:=(zrJ x&&(decide (x.U.length≤4)&&decide (x.us.length≤8)))&&((x.U.all fun u=>decide (u.length≤400))&&(x.us.all fun u=>decide (u.2.length≤3000)))
def ltB (l:List It):Bool:=decide (l.length≤60)&&l.all ltI
theorem zcH {α:Type} (f:α→Bool) (l:List α) (j:Nat) (h:j<l.length):(l.drop j).all f=(f l[j]&&(l.drop (j+1)).all f):=by
 rw [List.drop_eq_getElem_cons h];rfl
set_option maxHeartbeats 8000000 in
set_option maxRecDepth 100000 in
theorem zr0 (l:List It) (f:Bool) (H:za) (hs:∀ x∈l,SqOk x.s):CallOk Tryz.prog 10 [.slice (itL l) l.length f] H (.bool (ltB l)) H:=by
 have ln:=zcg l hs
 have fin:∀ (b:Bool) (K:za),Fin H (.bool b) H (.bool b) (H++K):=fun b K=>Fin.base (.id (.bool _))
 have fin0:∀ (b:Bool),Fin H (.bool b) H (.bool b) H:=fun b=>Fin.now
 unfold ltB
 refine CallOk.body (F0:=[(0,.slice (itL l) l.length f)]) Tryz.func10 rfl Tryz.ntmps10 Tryz.results10 rfl (by kernel_rfl) rfl ?_
 refine PW.e ?_
 refine PW.e ?_
 by_cases h60:l.length≤60
 rotate_left
 ·have d1:decide ((60:Int)<(l.length:Int))=true:=decide_eq_true (by omega)
  (repeat refine PW.seq ?_);refine PW.cond (t:=_) rfl (fun h=> ?_) (fun h=> ?_)
  rotate_left
  ·rw [d1] at h;cases h
  rw [decide_eq_false h60,Bool.false_and]
  refine PW.e ?_
  refine PW.ret ⟨.bool false,by simp (disch:=omega) only [go_sem,↓reduceIte,reduceCtorEq,zd,zg,List.mapM_cons,List.mapM_nil,Option.pure_def,Option.bind_eq_bind,Option.bind_some,Array.toList],?_⟩
  exact fin0 _
 have d1:decide ((60:Int)<(l.length:Int))=false:=decide_eq_false (by omega)
 (repeat refine PW.seq ?_);refine PW.cond (t:=_) rfl (fun h=> ?_) (fun h=> ?_)
 ·rw [d1] at h;cases h
 rw [decide_eq_true h60,Bool.true_and]
 refine PW.skip ?_
 refine PW.e ?_
 (repeat refine PW.seq ?_);refine PW.block (PW.loop ?_)
 suffices hl1:∀ j:Nat,j≤l.length→(l.drop j).all ltI=l.all ltI→PL Tryz.prog _ _ [(0,.slice (itL l) l.length f),(3,.int .i64 (j:Int))] H _ by
  exact PL.at [0,3] (hl1 0 (by omega) rfl) rfl rfl
 intro j hj hf
 induction hd:l.length - j using Nat.strongRecOn generalizing j with
 | _ d ih=>
  refine PL.round ?_;refine PW.e ?_
  (repeat refine PW.seq ?_);refine PW.cond (t:=_) rfl (fun h=> ?_) (fun h=> ?_)
  ·have hjl:j<l.length:=by have:=of_decide_eq_true h;omega
   have ip:=zfR l hs j 147 hjl (by omega)
   have hc:=zfQ l hs j 139 8 hjl (by omega)
   have hx:=hs l[j] (List.getElem_mem hjl)
   rw [zr5 _ hx] at ip
   rw [ztk _ hx] at hc
   rw [zcH ltI l j hjl] at hf
   have hnext:=fun hf=>ih (l.length - (j+1)) (by omega) (j+1) (by omega) hf rfl
   generalize l[j]=x at *
   refine PW.skip ?_;(repeat refine PW.seq ?_);refine PW.block ?_
   have c1:=zg8 x.p x.U x.us
   have c2:=zf2 x.p x.U x.us
   have c6:(cdc x.p x.U x.us)[6]? =some (usr x.U):=rfl
   have c7:=zts x.p x.U x.us
   have c8:List.drop 8 (cdc x.p x.U x.us)=[]:=rfl
   have ul:=zvs x.U
   have ql:=znM x.us
   refine PW.f (fun K k=>by simp (disch:=omega) only [go_sem,↓reduceIte,reduceCtorEq,ln,hc,c1,c2,c8,List.append_nil];exact k) ?_
   suffices hrest:PW Tryz.prog _ _ [(0,.slice (itL l) l.length f),(3,.int .i64 (j:Int)),(4,.ptr H.length 0 0),(46,.bool (!(zrJ x&&(decide (x.U.length≤4)&&decide (x.us.length≤8)))))] (H++[⟨39,0,cdc x.p x.U x.us⟩]) _ by
    unfold zrJ at hrest
    by_cases p1:5000<x.pad
    ·have e1:decide (5000<x.pad)=true:=decide_eq_true p1
     by_cases p2:x.pad≤1048576
     ·have e2:decide (x.pad≤1048576)=true:=decide_eq_true p2
      rw [e1,e2] at hrest
      refine PW.f (fun K k=>by simp (disch:=omega) only [go_sem,↓reduceIte,reduceCtorEq,ln,ip,e1,e2];exact k) ?_
      exact PW.at [0,3,4,46] hrest rfl rfl
     ·have e2:decide (x.pad≤1048576)=false:=decide_eq_false p2
      rw [e1,e2] at hrest
      by_cases p3:x.U.length≤4
      ·have e3:decide ((4:Int)<(x.U.length:Int))=false:=decide_eq_false (by omega)
       have e4:decide ((8:Int)<(x.us.length:Int))= !decide (x.us.length≤8):=by rw [Bool.eq_iff_iff];simp;omega
       rw [decide_eq_true p3] at hrest
       refine PW.f (fun K k=>by simp (disch:=omega) only [go_sem,↓reduceIte,reduceCtorEq,ln,ip,e1,e2,c2,c6,usr,c7,e3,e4];exact k) ?_
       exact PW.at [0,3,4,46] hrest (by simp [kp,slot,Nat.beq]) rfl
      ·have e3:decide ((4:Int)<(x.U.length:Int))=true:=decide_eq_true (by omega)
       rw [decide_eq_false p3] at hrest
       refine PW.f (fun K k=>by simp (disch:=omega) only [go_sem,↓reduceIte,reduceCtorEq,ln,ip,e1,e2,c2,c6,usr,c7,e3];exact k) ?_
       exact PW.at [0,3,4,46] hrest (by simp [kp,slot,Nat.beq]) rfl
    ·have e1:decide (5000<x.pad)=false:=decide_eq_false p1
     rw [e1] at hrest
     by_cases p3:x.U.length≤4
     ·have e3:decide ((4:Int)<(x.U.length:Int))=false:=decide_eq_false (by omega)
      have e4:decide ((8:Int)<(x.us.length:Int))= !decide (x.us.length≤8):=by rw [Bool.eq_iff_iff];simp;omega
      rw [decide_eq_true p3] at hrest
      refine PW.f (fun K k=>by simp (disch:=omega) only [go_sem,↓reduceIte,reduceCtorEq,ln,ip,e1,c2,c6,usr,c7,e3,e4];exact k) ?_
      exact PW.at [0,3,4,46] hrest (by simp [kp,slot,Nat.beq]) rfl
     ·have e3:decide ((4:Int)<(x.U.length:Int))=true:=decide_eq_true (by omega)
      rw [decide_eq_false p3] at hrest
      refine PW.f (fun K k=>by simp (disch:=omega) only [go_sem,↓reduceIte,reduceCtorEq,ln,ip,e1,c2,c6,usr,c7,e3];exact k) ?_
      exact PW.at [0,3,4,46] hrest (by simp [kp,slot,Nat.beq]) rfl
   unfold ltI at hf
   cases hA:(zrJ x&&(decide (x.U.length≤4)&&decide (x.us.length≤8))) with
   | false=>
    rw [hA,Bool.false_and,Bool.false_and] at hf
    (repeat refine PW.seq ?_);refine PW.cond (t:=_) rfl (fun h=> ?_) (fun h=> ?_)
    rotate_left
    ·cases h
    refine PW.e ?_
    refine PW.ret ⟨.bool false,by simp (disch:=omega) only [go_sem,↓reduceIte,reduceCtorEq,zd,zg,List.mapM_cons,List.mapM_nil,Option.pure_def,Option.bind_eq_bind,Option.bind_some,Array.toList],?_⟩
    rw [show (l.all ltI)=false from hf.symm]
    exact fin _ _
   | true=>
    rw [hA,Bool.true_and] at hf
    simp only [Bool.and_eq_true,decide_eq_true_eq] at hA
    obtain ⟨_,hU4,hu8⟩:=hA
    (repeat refine PW.seq ?_);refine PW.cond (t:=_) rfl (fun h=> ?_) (fun h=> ?_)
    ·cases h
    refine PW.skip ?_
    refine PW.e ?_
    (repeat refine PW.seq ?_);refine PW.block (PW.loop ?_)
    suffices hl2:∀ k:Nat,k≤x.U.length→((((x.U.drop k).all fun u=>decide (u.length≤400))&&(x.us.all fun u=>decide (u.2.length≤3000)))&&(l.drop (j+1)).all ltI)=l.all ltI→PL Tryz.prog _ _ [(0,.slice (itL l) l.length f),(3,.int .i64 (j:Int)),(4,.ptr H.length 0 0),(5,.int .i64 (k:Int))] (H++[⟨39,0,cdc x.p x.U x.us⟩]) _ by
     exact PL.at [0,3,4,5] (hl2 0 (by omega) hf) rfl rfl
    clear hf
    intro k hk hf
    induction hd2:x.U.length - k using Nat.strongRecOn generalizing k with
    | _ d2 ih2=>
     refine PL.round ?_;refine PW.f (fun K k=>by simp (disch:=omega) only [go_sem,↓reduceIte,reduceCtorEq,c2,c6,usr];exact k) ?_
     (repeat refine PW.seq ?_);refine PW.cond (t:=_) rfl (fun h=> ?_) (fun h=> ?_)
     ·have hkU:k<x.U.length:=by have:=of_decide_eq_true h;omega
      have ua:=ztF x.U k hkU
      rw [zcH _ x.U k hkU] at hf
      have hn2:=fun hf=>ih2 (x.U.length - (k+1)) (by omega) (k+1) (by omega) hf rfl
      generalize x.U[k]=u at *
      refine PW.skip ?_;(repeat refine PW.seq ?_);refine PW.block ?_
      by_cases h4:u.length≤400
      ·have d4:decide ((400:Int)<(u.length:Int))=false:=decide_eq_false (by omega)
       rw [decide_eq_true h4,Bool.true_and] at hf
       refine PW.f (fun K k=>by simp (disch:=omega) only [go_sem,↓reduceIte,reduceCtorEq,c2,c6,usr,ua,ul,d4];exact k) ?_
       (repeat refine PW.seq ?_);refine PW.cond (t:=_) rfl (fun h=> ?_) (fun h=> ?_)
       ·cases h
       refine PW.skip ?_
       refine PW.e ?_
       exact PL.at [0,3,4,5] (hn2 hf) rfl rfl
      ·have d4:decide ((400:Int)<(u.length:Int))=true:=decide_eq_true (by omega)
       rw [decide_eq_false h4,Bool.false_and,Bool.false_and,Bool.false_and] at hf
       refine PW.f (fun K k=>by simp (disch:=omega) only [go_sem,↓reduceIte,reduceCtorEq,c2,c6,usr,ua,ul,d4];exact k) ?_
       (repeat refine PW.seq ?_);refine PW.cond (t:=_) rfl (fun h=> ?_) (fun h=> ?_)
       rotate_left
       ·cases h
       refine PW.e ?_
       refine PW.ret ⟨.bool false,by simp (disch:=omega) only [go_sem,↓reduceIte,reduceCtorEq,zd,zg,List.mapM_cons,List.mapM_nil,Option.pure_def,Option.bind_eq_bind,Option.bind_some,Array.toList],?_⟩
       rw [←hf]
       exact fin _ _
     ·have hkU:k=x.U.length:=by have:=of_decide_eq_false h;omega
      rw [hkU,List.drop_length,List.all_nil,Bool.true_and] at hf
      refine PW.exit ?_
      clear ih2
      refine PW.e ?_
      (repeat refine PW.seq ?_);refine PW.block (PW.loop ?_)
      suffices hl3:∀ k:Nat,k≤x.us.length→(((x.us.drop k).all fun u=>decide (u.2.length≤3000))&&(l.drop (j+1)).all ltI)=l.all ltI→PL Tryz.prog _ _ [(0,.slice (itL l) l.length f),(3,.int .i64 (j:Int)),(4,.ptr H.length 0 0),(6,.int .i64 (k:Int))] (H++[⟨39,0,cdc x.p x.U x.us⟩]) _ by
       exact PL.at [0,3,4,6] (hl3 0 (by omega) hf) rfl rfl
      clear hf hkU hk h hd2
      intro k hk hf
      induction hd3:x.us.length - k using Nat.strongRecOn generalizing k with
      | _ d3 ih3=>
       refine PL.round ?_;refine PW.f (fun K k=>by simp (disch:=omega) only [go_sem,↓reduceIte,reduceCtorEq,c2,c7];exact k) ?_
       (repeat refine PW.seq ?_);refine PW.cond (t:=_) rfl (fun h=> ?_) (fun h=> ?_)
       ·have hku:k<x.us.length:=by have:=of_decide_eq_true h;omega
        have u1:=uq_1 x.us k hku
        rw [zcH _ x.us k hku] at hf
        have hn3:=fun hf=>ih3 (x.us.length - (k+1)) (by omega) (k+1) (by omega) hf rfl
        generalize x.us[k]=u at *
        refine PW.skip ?_;(repeat refine PW.seq ?_);refine PW.block ?_
        by_cases h4:u.2.length≤3000
        ·have d4:decide ((3000:Int)<(u.2.length:Int))=false:=decide_eq_false (by omega)
         rw [decide_eq_true h4,Bool.true_and] at hf
         refine PW.f (fun K k=>by simp (disch:=omega) only [go_sem,↓reduceIte,reduceCtorEq,c2,c7,u1,ql,d4];exact k) ?_
         (repeat refine PW.seq ?_);refine PW.cond (t:=_) rfl (fun h=> ?_) (fun h=> ?_)
         ·cases h
         refine PW.skip ?_
         refine PW.e ?_
         exact PL.at [0,3,4,6] (hn3 hf) rfl rfl
        ·have d4:decide ((3000:Int)<(u.2.length:Int))=true:=decide_eq_true (by omega)
         rw [decide_eq_false h4,Bool.false_and,Bool.false_and] at hf
         refine PW.f (fun K k=>by simp (disch:=omega) only [go_sem,↓reduceIte,reduceCtorEq,c2,c7,u1,ql,d4];exact k) ?_
         (repeat refine PW.seq ?_);refine PW.cond (t:=_) rfl (fun h=> ?_) (fun h=> ?_)
         rotate_left
         ·cases h
         refine PW.e ?_
         refine PW.ret ⟨.bool false,by simp (disch:=omega) only [go_sem,↓reduceIte,reduceCtorEq,zd,zg,List.mapM_cons,List.mapM_nil,Option.pure_def,Option.bind_eq_bind,Option.bind_some,Array.toList],?_⟩
         rw [←hf]
         exact fin _ _
       ·have hku:k=x.us.length:=by have:=of_decide_eq_false h;omega
        rw [hku,List.drop_length,List.all_nil,Bool.true_and] at hf
        refine PW.exit ?_
        refine PW.e ?_
        refine PL.keep [0,3] ?_
        refine PL.view (Vs.trim (F1:=[(0,.slice (itL l) l.length f),(3,.int .i64 ((j+1:Nat):Int))]) (H1:=H) (fun h=>h) (Nat.le_refl _) rfl ?_) (hnext hf)
        exact ⟨.id (zr (zcT _ _)),.id (.int _ _),trivial⟩
  ·have hjl:j=l.length:=by have:=of_decide_eq_false h;omega
   subst hjl
   rw [List.drop_length] at hf
   rw [←hf]
   refine PW.exit ?_
   refine PW.e ?_
   refine PW.ret ⟨.bool true,by simp (disch:=omega) only [go_sem,↓reduceIte,reduceCtorEq,zd,zg,List.mapM_cons,List.mapM_nil,Option.pure_def,Option.bind_eq_bind,Option.bind_some,Array.toList],?_⟩
   exact fin0 _
end Go.Proofs.YtjgmdlcjbgiekaaGreatDoor.Sc
