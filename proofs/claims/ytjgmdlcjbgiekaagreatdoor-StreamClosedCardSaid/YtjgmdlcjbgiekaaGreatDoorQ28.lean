/-
  Parts of the proof, put together in one text. No condition.
-/
import Derived.Test.YtjgmdlcjbgiekaaGreatDoorQ27
namespace Go.Proofs.YtjgmdlcjbgiekaaGreatDoor.Sc
set_option linter.all false
open Pm Ty Go.RowKit
theorem zwm {c:Cx} {q:List UInt8} {n a:Nat} {s:St} {y:Mb×St} {a1:Nat} (h:mtk c s q n a= .ok y a1) (ha:a≤n) (hs:vrS s):a1≤n∧y.1.lv.length=384:=by
 unfold mtk at h
 cases h1:zde c q n a with
 | er e a2=>rw [h1] at h;cases h
 | ok x a2=>
  obtain ⟨b1,b2⟩:=znY h1 ha
  rw [h1,Rr.bind_ok] at h
  unfold zko at h
  cases h2:zeM c q n x.1 s a2 with
  | er e a3=>rw [h2] at h;cases h
  | ok y2 a3=>
   obtain ⟨c1,c2,_⟩:=znX h2 b1 hs
   rw [h2,Rr.bind_ok] at h
   cases h3:zfA c q n x.2 y2.1 y2.2 a3 with
   | er e a4=>rw [h3] at h;cases h
   | ok y3 a4=>
    obtain ⟨d1,d2,_⟩:=zn2 h3 c1
    rw [h3,Rr.bind_ok] at h
    cases h4:zed q n x.2 y3.1 a4 with
    | er e a5=>rw [h4] at h;cases h
    | ok y4 a5=>
     obtain ⟨e1,e2,_⟩:=zn1 h4 d1
     rw [h4,Rr.bind_ok] at h
     cases h5:zbR q n 6 y4 y3.2 a5 with
     | er e a6=>rw [h5] at h;cases h
     | ok y5 a6=>
      obtain ⟨f1,f2,_⟩:=zge 6 y4 y3.2 a5 h5 e1 (by omega) (by rw [e2,d2,c2,b2];exact zaG)
      rw [h5,Rr.bind_ok] at h
      injection h with g1 g2
      subst g1 g2
      exact ⟨f1,f2⟩
theorem zpq {c:Cx} {q:List UInt8} {n a:Nat} {s:St} {y:Mb×St} {a1:Nat} (h:zhj c s q n a= .ok y a1) (ha:a≤n):a1≤n∧y.1.lv.length=384:=by
 unfold zhj at h
 split at h
 ·rename_i hv
  rw [Bool.and_eq_true] at hv
  exact zwm h ha (zlA hv.2).2.1
 ·cases h
def slL (c:Cx) (q:List UInt8) (n:Nat):Nat→St→Nat→Rr (List Mb×St)
 | 0,s,a=>.ok ([],s) a
 | r+1,s,a=>(zhj c s q n a).bind fun y a1=>(slL c q n r y.2 a1).bind fun z a2=>.ok (y.1::z.1,z.2) a2
def wmb (s:Sq):Nat:=(s.w.tdiv 16).toNat
def slT (s:Sq) (p:Pi) (b:Bool) (t:Int) (q:List UInt8):Rr (Nat×List Mb):=
 if zfb s p b&&(decide (1≤t)&&decide (t<1+za2 s p)) then
  (if q.length=0∨zcm q=0 then .er 2 0 else if nb q<5 then .er 3 0 else if vl q 0 5=0 then .er 2 0 else
   (slL (cxP s p b) q (nb q) (wmb s) (st0 (vl q 0 5:Int)) 5).bind fun z a=>if a=nb q then .ok (vl q 0 5,z.1) a else .er 2 a) else .er 0 0
def rvT:Rr (Nat×List Mb)→PV
 | .ok x _=>.tup [.int .i64 (x.1:Int),.slice (x.2.flatMap mbc) x.2.length false,.int .i64 0]
 | .er e _=>.tup [.int .i64 0,.slice [] 0 true,ecd e]
def zrp (r:Nat):List PV:=(List.replicate r zmv).flatten
theorem zi4 (r:Nat):zrp (r+1)=zmv++zrp r:=by simp [zrp,List.replicate_succ]
theorem zly:∀ r,(zrp r).length=r * 408
 | 0=>by simp [zrp]
 | r+1=>by rw [zi4,List.length_append,zly r,zea];omega
theorem zq1 {D:List Mb} {m:Mb} (hD:∀ x∈D,x.lv.length=384) (k r:Nat) (hk:D.length=k):List.take (k * 408) (D.flatMap mbc++zrp (r+1))++(mbc m++List.drop (k * 408+408) (D.flatMap mbc++zrp (r+1)))=(D++[m]).flatMap mbc++zrp r:=by
 have hl:=zaD mbc 408 D (fun x hx=>zT x (hD x hx))
 rw [hk] at hl
 rw [List.take_left' hl,List.drop_append,List.drop_of_length_le (by omega),hl,show k * 408+408 - k * 408=408 by omega,zi4,List.nil_append,List.drop_left' zea,List.flatMap_append]
 simp
theorem zqv {D:List Mb} (hD:∀ x∈D,x.lv.length=384) (k r:Nat) (hk:D.length=k):(D.flatMap mbc++zrp r).length=(k+r) * 408:=by
 rw [List.length_append,zaD mbc 408 D (fun x hx=>zT x (hD x hx)),hk,zly,Nat.add_mul]
def sH (H:za) (s:Sq) (p:Pi) (t:Int) (q:List UInt8) (f:Bool) (n a:Nat) (c:Cx) (st:St) (B:List PV):za:=H++[⟨29,0,sqc s⟩,⟨35,0,pic p⟩,⟨61,0,[.int .i64 t,.slice (bs q) q.length f]⟩,⟨5,1,[]⟩,rA q n a,⟨157,0,cxc c⟩,⟨213,0,stc st⟩,⟨154,0,B⟩]
theorem znz (n:Nat) (v e:Int):Scoped n (.tup [.int .i64 v,.slice [] 0 true,.int .i64 e]):=.tup (zaw fun x hx=>by
 simp only [List.mem_cons,List.not_mem_nil,or_false] at hx
 rcases hx with rfl|rfl|rfl
 ·exact .int _ _
 ·exact zo (fun x hx=>by cases hx)
 ·exact .int _ _)
set_option maxHeartbeats 8000000 in
set_option maxRecDepth 100000 in
theorem zoo (s:Sq) (p:Pi) (b:Bool) (t:Int) (q:List UInt8) (f:Bool) (H:za) (hs:SqOk s) (ht:zhl t) (hq:q.length≤100000000):
  CallOk Tryz.prog 59 [.agg (sqc s),.agg (pic p),.bool b,.agg [.int .i64 t,.slice (bs q) q.length f]] H (rvT (slT s p b t q)) H:=by
 have fo:=fun K=>zmr s p b K hs
 have ro:=fun K=>zjr s p K hs
 have co:=fun K=>zqr s p b K hs
 have so:=fun v K=>zof v K
 have h1:=za8 s
 have h2:=zbs s hs
 have h3:=zdf s hs
 have h4:=zoi s
 have p6:(pic p).length=6:=rfl
 have t6:List.take 6 (pic p)=pic p:=rfl
 have l8:∀ t,(stc t).length=8:=fun _=>rfl
 have c8:∀ t,(stc t).all PV.cell=true:=fun _=>rfl
 have tk8:∀ t,List.take 8 (stc t)=stc t:=fun _=>rfl
 have dk8:∀ t,List.drop 8 (stc t)=[]:=fun _=>rfl
 have c4:∀ c,(cxc c).all PV.cell=true:=fun _=>rfl
 have l4:∀ c,(cxc c).length=4:=fun _=>rfl
 have tk4:∀ c,List.take 4 (cxc c)=cxc c:=fun _=>rfl
 have dk4:∀ c,List.drop 4 (cxc c)=[]:=fun _=>rfl
 generalize hres:slT s p b t q=res
 unfold slT at hres
 refine CallOk.body (F0:=[(0,.agg (sqc s)),(1,.agg (pic p)),(2,.bool b),(3,.agg [.int .i64 t,.slice (bs q) q.length f])]) Tryz.func59 rfl Tryz.ntmps59 Tryz.results59 rfl (by kernel_rfl) rfl ?_
 refine PW.f (fun K k=>by simp (disch:=omega) only [go_sem,↓reduceIte,reduceCtorEq,h1,pic];exact k) ?_
 suffices hrest:PW Tryz.prog _ _ [(0,.agg (sqc s)),(1,.agg (pic p)),(2,.bool b),(4,.ptr H.length 0 0),(5,.ptr (H.length+1) 0 0),(7,.ptr (H.length+2) 0 0),(36,.bool (!(zfb s p b&&(decide (1≤t)&&decide (t<1+za2 s p)))))] (H++[⟨29,0,sqc s⟩,⟨35,0,pic p⟩,⟨61,0,[.int .i64 t,.slice (bs q) q.length f]⟩]) _ by
  cases hf:zfb s p b with
  | false=>
   rw [hf] at fo hrest
   (repeat refine PW.seq ?_);refine PW.draw mix (by kernel_rfl) fun K hK=> ?_;simp (disch:=omega) only [go_sem,↓reduceIte,reduceCtorEq,h2,h3]
   refine VCy.call (fo _) rfl ?_;simp (disch:=omega) only [go_sem,↓reduceIte,reduceCtorEq];refine hK _ _ ?_;clear hK K
   exact PW.at [0,1,2,4,5,7,36] hrest rfl rfl
  | true=>
   rw [hf] at fo hrest
   rw [Bool.true_and] at hrest
   by_cases ht1:1≤t
   ·have d1:decide (t<1)=false:=decide_eq_false (by omega)
    have hpr:0≤za2 s p∧za2 s p≤4:=by
     unfold za2
     split
     ·rename_i hv
      have:=zba hv
      split
      ·have:=Int.tdiv_eq_ediv_of_nonneg (a:=s.h) (b:=16) (by omega)
       omega
      ·have:=Int.tdiv_eq_ediv_of_nonneg (a:=s.h) (b:=32) (by omega)
       omega
     ·omega
    have d2:decide (1+za2 s p≤t)= !decide (t<1+za2 s p):=by
     by_cases h:t<1+za2 s p
     ·rw [decide_eq_true h,decide_eq_false (by omega)];rfl
     ·rw [decide_eq_false h,decide_eq_true (by omega)];rfl
    rw [decide_eq_true ht1,Bool.true_and,←d2] at hrest
    (repeat refine PW.seq ?_);refine PW.draw mix (by kernel_rfl) fun K hK=> ?_;simp (disch:=omega) only [go_sem,↓reduceIte,reduceCtorEq,h2,h3]
    refine VCy.call (fo _) rfl ?_;simp (disch:=omega) only [go_sem,↓reduceIte,reduceCtorEq,d1,h2,h3]
    refine VCy.call (ro _) rfl ?_;simp (disch:=omega) only [go_sem,↓reduceIte,reduceCtorEq];refine hK _ _ ?_;clear hK K
    exact PW.at [0,1,2,4,5,7,36] hrest rfl rfl
   ·have d1:decide (t<1)=true:=decide_eq_true (by omega)
    rw [decide_eq_false ht1,Bool.false_and] at hrest
    (repeat refine PW.seq ?_);refine PW.draw mix (by kernel_rfl) fun K hK=> ?_;simp (disch:=omega) only [go_sem,↓reduceIte,reduceCtorEq,h2,h3]
    refine VCy.call (fo _) rfl ?_;simp (disch:=omega) only [go_sem,↓reduceIte,reduceCtorEq,d1];refine hK _ _ ?_;clear hK K
    exact PW.at [0,1,2,4,5,7,36] hrest rfl rfl
 cases hc:(zfb s p b&&(decide (1≤t)&&decide (t<1+za2 s p))) with
 | false=>
  rw [hc,if_neg (by decide)] at hres
  refine PW.t ?_
  refine PW.e ?_
  refine PW.ret ⟨.tup [.int .i64 0,.slice [] 0 true,.int .i64 1],by simp (disch:=omega) only [go_sem,↓reduceIte,reduceCtorEq,zd,zg,List.mapM_cons,List.mapM_nil,Option.pure_def,Option.bind_eq_bind,Option.bind_some,Array.toList],?_⟩
  rw [←hres]
  exact Fin.base (.id (znz _ _ _))
 | true=>
  rw [hc,if_pos rfl] at hres
  rw [Bool.and_eq_true] at hc
  have hw:1≤wmb s∧wmb s≤4∧s.w.tdiv 16=((wmb s:Nat):Int):=by
   have hv:zL s p=true:=by
    have:=hc.1
    unfold zfb at this
    rw [Bool.and_eq_true] at this
    exact this.1
   have:=zba hv
   have e:=Int.tdiv_eq_ediv_of_nonneg (a:=s.w) (b:=16) (by omega)
   unfold wmb
   omega
  clear fo ro hc
  refine PW.us ?_
  by_cases hb:q.length=0∨zcm q=0
  ·rw [if_pos hb] at hres
   have nr:=fun K=>zpo q f K hq hb
   refine PW.f (fun K k=>by simp (disch:=omega) only [go_sem,↓reduceIte,reduceCtorEq];refine VCx.call (nr _) rfl ?_;simp (disch:=omega) only [go_sem,↓reduceIte,reduceCtorEq];exact k) ?_
   refine PW.e ?_
   refine PW.t ?_
   refine PW.e ?_
   refine PW.ret ⟨.tup [.int .i64 0,.slice [] 0 true,.int .i64 3],by simp (disch:=omega) only [go_sem,↓reduceIte,reduceCtorEq,zd,zg,List.mapM_cons,List.mapM_nil,Option.pure_def,Option.bind_eq_bind,Option.bind_some,Array.toList],?_⟩
   rw [←hres]
   exact Fin.base (.id (znz _ _ _))
  rw [if_neg hb] at hres
  obtain ⟨hb1,hb2⟩:=not_or.1 hb
  have nr:=fun K=>zrL q f K hq hb1 hb2
  obtain ⟨_,n2,_⟩:=zua q hb1 hb2
  generalize nb q=n at *
  refine PW.f (fun K k=>by simp (disch:=omega) only [go_sem,↓reduceIte,reduceCtorEq];refine VCx.call (nr _) rfl ?_;simp (disch:=omega) only [go_sem,↓reduceIte,reduceCtorEq];exact k) ?_
  refine PW.e ?_
  refine PW.us ?_
  have gr:=fun a X=>(apn H ([⟨29,0,sqc s⟩,⟨35,0,pic p⟩,⟨61,0,[.int .i64 t,.slice (bs q) q.length f]⟩,⟨5,1,[]⟩,rA q n a]++X) 4)
  by_cases h5:n<5
  ·rw [if_pos h5] at hres
   have tk:=zbD (H.length+4) q n 0 5 _ (gr 0 []) (by omega) (by omega) (by omega) (by omega)
   refine PW.f (fun K k=>by simp (disch:=omega) only [go_sem,↓reduceIte,reduceCtorEq];refine VCx.call (tk) rfl ?_;simp (disch:=omega) only [go_sem,↓reduceIte,reduceCtorEq];exact k) ?_
   refine PW.e ?_
   refine PW.t ?_
   refine PW.e ?_
   refine PW.ret ⟨.tup [.int .i64 0,.slice [] 0 true,.int .i64 4],by simp (disch:=omega) only [go_sem,↓reduceIte,reduceCtorEq,zd,zg,List.mapM_cons,List.mapM_nil,Option.pure_def,Option.bind_eq_bind,Option.bind_some,Array.toList],?_⟩
   rw [←hres]
   exact Fin.base (.id (znz _ _ _))
  rw [if_neg h5] at hres
  have tk:=zdh (H.length+4) q n 0 5 _ (gr 0 []) (by omega) (by omega) (by omega) (by omega)
  rw [aps] at tk
  simp only [List.append_nil,List.cons_append,List.nil_append,List.set_cons_succ,List.set_cons_zero,Nat.zero_add] at tk
  have hvl:=zjb q 0 5
  generalize vl q 0 5=v at *
  refine PW.f (fun K k=>by simp (disch:=omega) only [go_sem,↓reduceIte,reduceCtorEq];refine VCx.call (tk) rfl ?_;simp (disch:=omega) only [go_sem,↓reduceIte,reduceCtorEq];exact k) ?_
  refine PW.e ?_
  refine PW.us ?_
  by_cases hv0:v=0
  ·rw [if_pos hv0] at hres
   have d1:((v:Int)==0)=true:=by simp [hv0]
   refine PW.f (fun K k=>by simp (disch:=omega) only [go_sem,↓reduceIte,reduceCtorEq,d1];exact k) ?_
   refine PW.t ?_
   refine PW.e ?_
   refine PW.ret ⟨.tup [.int .i64 0,.slice [] 0 true,.int .i64 3],by simp (disch:=omega) only [go_sem,↓reduceIte,reduceCtorEq,zd,zg,List.mapM_cons,List.mapM_nil,Option.pure_def,Option.bind_eq_bind,Option.bind_some,Array.toList],?_⟩
   rw [←hres]
   exact Fin.base (.id (znz _ _ _))
  rw [if_neg hv0] at hres
  have d1:((v:Int)==0)=false:=by rw [beq_eq_false_iff_ne];omega
  refine PW.f (fun K k=>by simp (disch:=omega) only [go_sem,↓reduceIte,reduceCtorEq,d1];exact k) ?_
  refine PW.us ?_
  have co1:=fun K=>co K
  have so1:=fun K=>so (v:Int) K
  generalize cxP s p b=c at *
  (repeat refine PW.seq ?_);refine PW.rg rfl fun K hK=> ?_;simp (disch:=omega) only [go_sem,↓reduceIte,reduceCtorEq,h2,h3,p6,t6]
  refine VCx.call (co1 _) rfl ?_;simp (disch:=omega) only [go_sem,↓reduceIte,reduceCtorEq]
  refine VCx.call (so1 _) rfl ?_;simp (disch:=omega) only [go_sem,↓reduceIte,reduceCtorEq,l8,c8,dk8,l4,c4,dk4,Nat.reduceAdd];refine hK _ _ ?_;clear hK K
  obtain ⟨w1,w2,w3⟩:=hw
  generalize wmb s=w at *
  refine PW.f (fun K k=>by simp (disch:=omega) only [go_sem,↓reduceIte,reduceCtorEq,h4,h2,w3,↓znI,zea];exact k) ?_
  refine PW.at [11,13,14,15,16] (F1:=[(11,.ptr (H.length+4) 0 0),(13,.int .u32 (v:Int)),(14,.ptr (H.length+5) 0 0),(15,.ptr (H.length+6) 0 0),(16,.msl (H.length+7) 0 0 w 408 true)]) (H1:=sH H s p t q f n 5 c (st0 v) (zrp w)) ?_ (by simp [kp,slot,Nat.beq]) rfl
  have gq:=apn H [⟨29,0,sqc s⟩,⟨35,0,pic p⟩,⟨61,0,[.int .i64 t,.slice (bs q) q.length f]⟩,⟨5,1,[]⟩,rA q n 5,⟨157,0,cxc c⟩,⟨213,0,stc (st0 v)⟩,⟨154,0,zrp w⟩] 7
  refine PW.f (fun K k=>by simp (disch:=omega) only [go_sem,↓reduceIte,reduceCtorEq,sH,apn];exact k) ?_
  (repeat refine PW.seq ?_);refine PW.block (PW.loop ?_)
  suffices hl1:∀ (k:Nat) (D:List Mb) (st:St) (a:Nat),k≤w→D.length=k→(∀ x∈D,x.lv.length=384)→a≤n→((slL c q n (w - k) st a).bind fun z a=>if a=n then Rr.ok (v,D++z.1) a else .er 2 a)=res→
    PL Tryz.prog _ _ [(11,.ptr (H.length+4) 0 0),(13,.int .u32 (v:Int)),(14,.ptr (H.length+5) 0 0),(15,.ptr (H.length+6) 0 0),(16,.msl (H.length+7) 0 0 w 408 true),(68,.int .i64 (w:Int)),(69,.int .i64 (k:Int))] (sH H s p t q f n a c st (D.flatMap mbc++zrp (w - k))) _ by
   exact PL.at [11,13,14,15,16,68,69] (hl1 0 [] (st0 v) 5 (by omega) rfl (fun x hx=>by cases hx) (by omega) hres) (by simp [kp,slot,Nat.beq]) rfl
  clear hres gr tk nr co1 so1 co so
  intro k D st a hk hD hDl ha hres
  induction hd:w - k using Nat.strongRecOn generalizing k D st a with
  | _ d ih=>
   refine PL.round ?_;refine PW.e ?_
   (repeat refine PW.seq ?_);refine PW.cond (t:=_) rfl (fun h=> ?_) (fun h=> ?_)
   ·have h5k:k<w:=by have:=of_decide_eq_true h;omega
    obtain ⟨r,hr⟩:∃ r,d=r+1:=⟨d - 1,by omega⟩
    subst hr
    have hr2:w - (k+1)=r:=by omega
    have hcl:=zqv hDl k (r+1) hD
    have tkc:=fun m=>zq1 (m:=m) hDl k r hD
    rw [hd,slL,Rr.bind_bind] at hres
    have mt:=zpr (H.length+4) q n a c st (sH H s p t q f n a c st (D.flatMap mbc++zrp (r+1))) (apn _ _ 4) ha (by omega) hq
    refine PW.skip ?_;(repeat refine PW.seq ?_);refine PW.block ?_
    refine PW.e ?_
    (repeat refine PW.seq ?_);refine PW.rg rfl fun K hK=> ?_;simp (disch:=omega) only [go_sem,↓reduceIte,reduceCtorEq,sH,apn,tk4,l4,tk8,l8]
    unfold sH at mt
    refine VCx.callR mt rfl fun v' H' hR=> ?_
    obtain ⟨rfl,hH⟩:=hR
    cases hm:zhj c st q n a with
    | er e a1=>
     rw [hm] at hH hres
     obtain ⟨a2,_,rfl⟩:=hH
     rw [Rr.bind_er] at hres
     have d0:((e:Int)+1 !=0)=true:=by simp;omega
     have hzl:=zea
     have hzc:=zi5
     simp (disch:=omega) only [go_sem,↓reduceIte,reduceCtorEq,rvM,ecd,apn,aps,hcl,hzl,hzc,l8,c8,dk8]
     refine hK _ _ ?_;clear hK K
     refine PW.f (fun K k=>by simp (disch:=omega) only [go_sem,↓reduceIte,reduceCtorEq,d0];exact k) ?_
     refine PW.t ?_
     refine PW.e ?_
     refine PW.ret ⟨.tup [.int .i64 0,.slice [] 0 true,.int .i64 ((e:Int)+1)],by simp (disch:=omega) only [go_sem,↓reduceIte,reduceCtorEq,zd,zg,List.mapM_cons,List.mapM_nil,Option.pure_def,Option.bind_eq_bind,Option.bind_some,Array.toList],?_⟩
     rw [←hres]
     exact Fin.base (.id (znz _ _ _))
    | ok y a1=>
     rw [hm] at hH hres
     subst hH
     obtain ⟨b1,b2⟩:=zpq hm ha
     rw [Rr.bind_ok,Rr.bind_bind] at hres
     have m408:=zT y.1 b2
     have mcl:=zer y.1
     have htk1:=tkc y.1
     simp (disch:=omega) only [go_sem,↓reduceIte,reduceCtorEq,rvM,apn,aps,hcl,m408,mcl,htk1,l8,c8,dk8]
     refine hK _ _ ?_;clear hK K
     refine PW.e ?_
     refine PW.us ?_
     refine PW.e ?_
     refine PL.at [11,13,14,15,16,68,69] (ih r (by omega) (k+1) (D++[y.1]) y.2 a1 (by omega) (by simp [hD]) (fun x hx=> ?_) b1 ?_ hr2) rfl ?_
     ·rcases List.mem_append.1 hx with hx|hx
      ·exact hDl x hx
      ·rw [List.mem_singleton] at hx
       rw [hx];exact b2
     ·rw [hr2,←hres]
      congr 1
      funext z a'
      simp only [Rr.bind,List.append_assoc,List.cons_append,List.nil_append]
     ·rfl
   ·have h6:k=w:=by have:=of_decide_eq_false h;omega
    subst h6
    refine PW.exit ?_
    rw [Nat.sub_self] at hd
    subst hd
    rw [Nat.sub_self,slL,Rr.bind_ok] at hres
    have hcl:=zqv hDl k 0 hD
    have lf:=zoK (H.length+4) q n a (sH H s p t q f n a c st (D.flatMap mbc++zrp 0)) (apn _ _ 4) ha (by omega)
    unfold sH at lf
    by_cases han:a=n
    ·rw [if_pos han] at hres
     rw [han,Nat.sub_self] at lf
     subst han
     (repeat refine PW.seq ?_);refine PW.rg rfl fun K hK=> ?_;simp (disch:=omega) only [go_sem,↓reduceIte,reduceCtorEq,sH]
     refine VCx.call (lf) rfl ?_;simp (disch:=omega) only [go_sem,↓reduceIte,reduceCtorEq];refine hK _ _ ?_;clear hK K
     refine PW.us ?_
     refine PW.e ?_
     refine PW.ret ⟨.tup [.int .i64 (v:Int),.msl (H.length+7) 0 0 k 408 true,.int .i64 0],by simp (disch:=omega) only [go_sem,↓reduceIte,reduceCtorEq,zd,zg,List.mapM_cons,List.mapM_nil,Option.pure_def,Option.bind_eq_bind,Option.bind_some,Array.toList],?_⟩
     rw [←hres]
     have hz0:zrp 0=[]:=by simp [zrp]
     refine Fin.base (Fz.tupC ⟨.id (.int _ _),?_,.id (.int _ _),trivial⟩)
     rw [List.append_nil,hD,hz0,List.append_nil]
     exact Fz.mslC (e:=154) (xs:=D.flatMap mbc) (by omega) (apn _ _ 7) (by rw [zaD mbc 408 D (fun x hx=>zT x (hDl x hx)),hD]) (FzC.refl (zpu D _))
    ·rw [if_neg han] at hres
     have d0:(((n - a:Nat):Int) !=0)=true:=by simp;omega
     (repeat refine PW.seq ?_);refine PW.rg rfl fun K hK=> ?_;simp (disch:=omega) only [go_sem,↓reduceIte,reduceCtorEq,sH]
     refine VCx.call (lf) rfl ?_;simp (disch:=omega) only [go_sem,↓reduceIte,reduceCtorEq,d0];refine hK _ _ ?_;clear hK K
     refine PW.t ?_
     refine PW.e ?_
     refine PW.ret ⟨.tup [.int .i64 0,.slice [] 0 true,.int .i64 3],by simp (disch:=omega) only [go_sem,↓reduceIte,reduceCtorEq,zd,zg,List.mapM_cons,List.mapM_nil,Option.pure_def,Option.bind_eq_bind,Option.bind_some,Array.toList],?_⟩
     rw [←hres]
     exact Fin.base (.id (znz _ _ _))
theorem Rr.bind_okE {α β:Type} {x:Rr α} {f:α→Nat→Rr β} {v:β} {a:Nat} (h:x.bind f= .ok v a):∃ y a1,x= .ok y a1∧f y a1= .ok v a:=by
 cases x with
 | ok y a1=>exact ⟨y,a1,rfl,h⟩
 | er e a1=>cases h
theorem ztV (s:St) (d:Nat) (x y:Int):(zbS s d x y).q=s.q:=by unfold zbS;split<;>rfl
theorem ztW (s:St) (d:Nat) (x:Int):(zfC s d x).q=s.q:=by unfold zfC;split<;>(try split)<;>rfl
theorem zox (m:Mb) (d k:Nat) (x y:Int):(zdR m d k x y).dl=m.dl:=by
 unfold zdR
 repeat' split
 all_goals rfl
theorem zoB (m:Mb) (d k:Nat) (x:Int):(zei m d k x).dl=m.dl:=by
 unfold zei
 repeat' split
 all_goals rfl
theorem zoD (m:Mb) (d:Nat) (b:Bool):(zc4 m d b).dl=m.dl:=by
 unfold zc4
 repeat' split
 all_goals rfl
theorem zq2 {c:Cx} {q:List UInt8} {n:Nat} {m:Mb} {s:St} {d k a:Nat} {y:Mb×St} {a1:Nat} (h:zdY c q n m s d k a= .ok y a1):y.1.dl=m.dl∧y.2.q=s.q:=by
 unfold zdY at h
 obtain ⟨m',a2,h1,h⟩:=Rr.bind_okE h
 obtain ⟨x,a3,_,h⟩:=Rr.bind_okE h
 obtain ⟨z,a4,_,h⟩:=Rr.bind_okE h
 injection h with h _
 rw [←h]
 refine ⟨(zox _ _ _ _ _).trans ?_,ztV _ _ _ _⟩
 split at h1
 ·obtain ⟨b,a5,_,h1⟩:=Rr.bind_okE h1
  injection h1 with h1 _
  rw [←h1]
  exact zoB _ _ _ _
 ·injection h1 with h1 _
  rw [h1]
theorem zlD {c:Cx} {q:List UInt8} {n d:Nat}:∀ (r k:Nat) (m:Mb) (s:St) (a:Nat) {y:Mb×St} {a1:Nat},zbQ c q n d r k m s a= .ok y a1→y.1.dl=m.dl∧y.2.q=s.q
 | 0,_,m,s,a,y,a1,h=>by injection h with h _;rw [←h];exact ⟨rfl,rfl⟩
 | r+1,k,m,s,a,y,a1,h=>by
  unfold zbQ at h
  obtain ⟨x,a2,h1,h⟩:=Rr.bind_okE h
  obtain ⟨e1,e2⟩:=zq2 h1
  obtain ⟨e3,e4⟩:=zlD r (k+1) x.1 x.2 a2 h
  exact ⟨e3.trans e1,e4.trans e2⟩
theorem zq4 {c:Cx} {q:List UInt8} {n:Nat} {m:Mb} {s:St} {d a:Nat} {y:Mb×St} {a1:Nat} (h:zeN c q n m s d a= .ok y a1):y.1.dl=m.dl∧y.2.q=s.q:=by
 unfold zeN at h
 split at h
 ·exact zlD _ _ _ _ _ h
 ·injection h with h _;rw [←h];exact ⟨rfl,rfl⟩
theorem zlH {c:Cx} {q:List UInt8} {n:Nat}:∀ (r d:Nat) (m:Mb) (s:St) (a:Nat) {y:Mb×St} {a1:Nat},zda c q n r d m s a= .ok y a1→y.1.dl=m.dl∧y.2.q=s.q
 | 0,_,m,s,a,y,a1,h=>by injection h with h _;rw [←h];exact ⟨rfl,rfl⟩
 | r+1,d,m,s,a,y,a1,h=>by
  unfold zda at h
  obtain ⟨x,a2,h1,h⟩:=Rr.bind_okE h
  obtain ⟨e1,e2⟩:=zq4 h1
  obtain ⟨e3,e4⟩:=zlH r (d+1) x.1 x.2 a2 h
  exact ⟨e3.trans e1,e4.trans e2⟩
theorem zlF {c:Cx} {q:List UInt8} {n:Nat} {m:Mb} {s:St} {a:Nat} {y:Mb×St} {a1:Nat} (h:zeM c q n m s a= .ok y a1):y.1.dl=m.dl∧y.2.q=s.q:=by
 unfold zeM at h
 split at h
 ·obtain ⟨m',a2,h1,h⟩:=Rr.bind_okE h
  obtain ⟨e1,e2⟩:=zlH _ _ _ _ _ h
  refine ⟨e1.trans ?_,e2⟩
  split at h1
  ·obtain ⟨b,a5,_,h1⟩:=Rr.bind_okE h1
   injection h1 with h1 _
   rw [←h1]
  ·injection h1 with h1 _
   rw [h1]
 ·injection h with h _;rw [←h];exact ⟨rfl,rfl⟩
theorem zq5 {c:Cx} {q:List UInt8} {n:Nat} {hl:Bool} {m:Mb} {s:St} {a:Nat} {y:Mb×St} {a1:Nat} (h:zfA c q n hl m s a= .ok y a1) (hm:m.dl=0) (hs:1≤s.q∧s.q≤31):y.2.q=s.q+y.1.dl∧1≤y.2.q∧y.2.q≤31:=by
 unfold zfA at h
 split at h
 ·obtain ⟨m',a2,h1,h⟩:=Rr.bind_okE h
  obtain ⟨d,a3,_,h⟩:=Rr.bind_okE h
  split at h
  ·rename_i hv
   injection h with e _
   rw [←e]
   simp [vqB] at hv
   exact ⟨rfl,hv⟩
  ·cases h
 ·injection h with e _
  rw [←e]
  refine ⟨?_,hs⟩
  show s.q=s.q+m.dl
  omega
theorem zlI {q:List UInt8} {n:Nat}:∀ (r:Nat) (m:Mb) (a:Nat) {y:Mb} {a1:Nat},zee q n r m a= .ok y a1→y.dl=m.dl
 | 0,m,a,y,a1,h=>by
  unfold zee at h
  split at h
  ·injection h with h _;rw [h]
  ·cases h
 | r+1,m,a,y,a1,h=>by
  unfold zee at h
  obtain ⟨b,a2,_,h⟩:=Rr.bind_okE h
  exact (zlI r _ a2 h).trans (zoD _ _ _)
theorem zfJ {q:List UInt8} {n:Nat}:∀ (r:Nat) (m:Mb) (s:St) (a:Nat) {y:Mb×St} {a1:Nat},zbR q n r m s a= .ok y a1→y.1.dl=m.dl∧y.2.q=s.q
 | 0,m,s,a,y,a1,h=>by injection h with h _;rw [←h];exact ⟨rfl,rfl⟩
 | r+1,m,s,a,y,a1,h=>by
  unfold zbR at h
  split at h
  ·split at h
   ·obtain ⟨l,a2,_,h⟩:=Rr.bind_okE h
    split at h
    ·cases h
    ·obtain ⟨e1,e2⟩:=zfJ r _ s a2 h
     exact ⟨e1,e2⟩
   ·obtain ⟨d,a2,_,h⟩:=Rr.bind_okE h
    obtain ⟨l,a3,_,h⟩:=Rr.bind_okE h
    obtain ⟨e1,e2⟩:=zfJ r _ _ a3 h
    exact ⟨e1,e2.trans (ztW _ _ _)⟩
  ·exact zfJ r m s a h
theorem zq3 {c:Cx} {q:List UInt8} {n a:Nat} {y:Mb×Bool} {a1:Nat} (h:zde c q n a= .ok y a1):y.1.dl=0:=by
 unfold zde at h
 split at h
 ·injection h with h _;rw [←h];rfl
 ·obtain ⟨v,a2,_,h⟩:=Rr.bind_okE h
  repeat' split at h
  all_goals first|(cases h;done)|(cases h;rfl)
theorem zud {c:Cx} {q:List UInt8} {n a:Nat} {s:St} {y:Mb×St} {a1:Nat} (h:zhj c s q n a= .ok y a1):y.2.q=s.q+y.1.dl∧1≤y.2.q∧y.2.q≤31:=by
 unfold zhj at h
 split at h
 ·rename_i hv
  rw [Bool.and_eq_true] at hv
  have hsq:=(zlA hv.2).1
  unfold mtk at h
  obtain ⟨x,a2,h1,h⟩:=Rr.bind_okE h
  have e0:=zq3 h1
  unfold zko at h
  obtain ⟨y2,a3,h2,h⟩:=Rr.bind_okE h
  obtain ⟨y3,a4,h3,h⟩:=Rr.bind_okE h
  obtain ⟨m4,a5,h4,h⟩:=Rr.bind_okE h
  obtain ⟨y5,a6,h5,h⟩:=Rr.bind_okE h
  obtain ⟨p1,p2⟩:=zlF h2
  obtain ⟨c1,c2⟩:=zq5 h3 (p1.trans e0) (by rw [p2];exact hsq)
  obtain ⟨l1,l2⟩:=zfJ _ _ _ _ h5
  have c3:m4.dl=y3.1.dl:=by
   unfold zed at h4
   split at h4
   ·exact zlI _ _ _ h4
   ·injection h4 with h4 _;rw [h4]
  injection h with h _
  rw [←h]
  have e1:(aft y5.2 y5.1.k).q=y3.2.q:=l2
  dsimp only
  rw [e1,l1,c3,c1,p2]
  rw [p2] at c1
  omega
 ·cases h
def zks:Int→List Mb→List Int
 | _,[]=>[]
 | q,m::r=>(q+m.dl)::zks (q+m.dl) r
theorem zgm {c:Cx} {q:List UInt8} {n:Nat}:∀ (r:Nat) (s:St) (a:Nat) {z:List Mb×St} {a1:Nat},slL c q n r s a= .ok z a1→z.1.length=r∧(∀ x∈zks s.q z.1,1≤x∧x≤31)
 | 0,s,a,z,a1,h=>by
  injection h with h _
  rw [←h]
  exact ⟨rfl,fun x hx=>by cases hx⟩
 | r+1,s,a,z,a1,h=>by
  unfold slL at h
  obtain ⟨y,a2,h1,h⟩:=Rr.bind_okE h
  obtain ⟨w,a3,h2,h⟩:=Rr.bind_okE h
  injection h with h _
  rw [←h]
  obtain ⟨e1,e2⟩:=zud h1
  obtain ⟨l1,l2⟩:=zgm r y.2 a2 h2
  refine ⟨by simp [l1],fun x hx=> ?_⟩
  simp only [zks] at hx
  rw [←e1] at hx
  rcases List.mem_cons.1 hx with rfl|hx
  ·exact e2
  ·exact l2 x hx
theorem zoq {c:Cx} {q:List UInt8} {n:Nat}:∀ (r:Nat) (s:St) (a:Nat) {z:List Mb×St} {a1:Nat},slL c q n r s a= .ok z a1→a≤n→∀ x∈z.1,x.lv.length=384
 | 0,s,a,z,a1,h,_=>by
  injection h with h _
  rw [←h]
  exact fun x hx=>by cases hx
 | r+1,s,a,z,a1,h,ha=>by
  unfold slL at h
  obtain ⟨y,a2,h1,h⟩:=Rr.bind_okE h
  obtain ⟨w,a3,h2,h⟩:=Rr.bind_okE h
  injection h with h _
  rw [←h]
  obtain ⟨e1,e2⟩:=zpq h1 ha
  intro x hx
  rcases List.mem_cons.1 hx with rfl|hx
  ·exact e2
  ·exact zoq r y.2 a2 h2 e1 x hx
end Go.Proofs.YtjgmdlcjbgiekaaGreatDoor.Sc
