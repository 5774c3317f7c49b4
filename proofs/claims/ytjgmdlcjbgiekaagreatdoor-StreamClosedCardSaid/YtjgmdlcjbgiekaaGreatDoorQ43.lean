/-
  Parts of the proof, put together in one text. No condition.
-/
import Derived.Test.YtjgmdlcjbgiekaaGreatDoorQ42
namespace Go.Proofs.YtjgmdlcjbgiekaaGreatDoor.Sc
set_option linter.all false
open Pm Ty Go.RowKit
def cdE (c:Cdd):List PV:=cdc c.p c.U c.us
def cdL (cs:List Cdd):List PV:=cs.flatMap cdE
theorem zmE (cs:List Cdd):(cdL cs).length=cs.length * 8:=zaD cdE 8 cs fun _ _=>rfl
theorem zu4 (cs:List Cdd) (k:Nat) (hk:k<cs.length):List.take 8 (List.drop (k * 8) (cdL cs))=cdE cs[k]:=zcn cdE 8 cs k hk fun _ _=>rfl
theorem ziR (n:Nat) (cs:List Cdd):∀ x∈cdL cs,Scoped n x:=fun x hx=>by
 obtain ⟨u,_,hx⟩:=List.mem_flatMap.1 hx
 exact ziQ _ _ _ _ x hx
structure CdOk (c:Cdd):Prop where
 n:c.us.length≤1000000
 u:∀ u∈c.us,zhl u.1∧u.2.length≤100000000
theorem zi1 (l:List Bool) (f:Bool) (hn:l.length≤1000000) (H:za):CallOk Tryz.prog 37 [.slice (l.map PV.bool) l.length f] H (.bool (l.all id)) H:=by
 have fin:∀ (b:Bool),Fin H (.bool b) H (.bool b) H:=fun b=>Fin.now
 refine CallOk.body (F0:=[(0,.slice (l.map PV.bool) l.length f)]) Tryz.func37 rfl Tryz.ntmps37 Tryz.results37 rfl (by kernel_rfl) rfl ?_
 refine PW.e ?_
 refine PW.e ?_
 (repeat refine PW.seq ?_);refine PW.block (PW.loop ?_)
 suffices hl1:∀ j:Nat,j≤l.length→(l.drop j).all id=l.all id→PL Tryz.prog _ _ [(5,.slice (l.map PV.bool) l.length f),(6,.int .i64 (l.length:Int)),(7,.int .i64 (j:Int))] H _ by
  exact PL.at [5,6,7] (hl1 0 (by omega) rfl) rfl rfl
 intro j hj hf
 induction hd:l.length - j using Nat.strongRecOn generalizing j with
 | _ d ih=>
  refine PL.round ?_;refine PW.e ?_
  (repeat refine PW.seq ?_);refine PW.cond (t:=_) rfl (fun h=> ?_) (fun h=> ?_)
  ·have hjl:j<l.length:=by have:=of_decide_eq_true h;omega
   have ea:(l.map PV.bool)[j]? =some (.bool l[j]):=by rw [List.getElem?_map,List.getElem?_eq_getElem hjl];rfl
   have hnext:=ih (l.length - (j+1)) (by omega) (j+1) (by omega)
   rw [zcI _ l j hjl] at hf
   generalize l[j]=b at *
   refine PW.skip ?_;(repeat refine PW.seq ?_);refine PW.block ?_
   refine PW.f (fun K k=>by simp (maxSteps:=3000000) (disch:=omega) only [go_sem,↓reduceIte,reduceCtorEq,ea,List.length_map];exact k) ?_
   refine PW.e ?_
   cases b with
   | true=>
    refine PW.us ?_
    refine PW.e ?_
    exact PL.at [5,6,7] (hnext hf rfl) rfl rfl
   | false=>
    refine PW.t ?_
    refine PW.e ?_
    refine PW.ret ⟨.bool false,by simp (maxSteps:=3000000) (disch:=omega) only [go_sem,↓reduceIte,reduceCtorEq,zd,zg,List.mapM_cons,List.mapM_nil,Option.pure_def,Option.bind_eq_bind,Option.bind_some,Array.toList],?_⟩
    rw [←hf]
    exact fin _
  ·have hjl:j=l.length:=by have:=of_decide_eq_false h;omega
   subst hjl
   rw [List.drop_length] at hf
   rw [←hf]
   refine PW.exit ?_
   refine PW.e ?_
   refine PW.ret ⟨.bool true,by simp (maxSteps:=3000000) (disch:=omega) only [go_sem,↓reduceIte,reduceCtorEq,zd,zg,List.mapM_cons,List.mapM_nil,Option.pure_def,Option.bind_eq_bind,Option.bind_some,Array.toList],?_⟩
   exact fin _
set_option maxHeartbeats 4000000 in
set_option maxRecDepth 10000 in
theorem zsu (s:Sq) (cs:List Cdd) (f:Bool) (hs:SqOk s) (hn:cs.length≤1000000) (H:za):CallOk Tryz.prog 35 [.agg (sqc s),.slice (cdL cs) cs.length f] H (.bool (zlo s cs)) H:=by
 have fin:∀ (b:Bool) (K:za),Fin H (.bool b) H (.bool b) (H++K):=fun b K=>Fin.base (.id (.bool _))
 have h1:=za8 s
 have h2:=zbs s hs
 have h3:=zdf s hs
 have ln:=zmE cs
 have pv:=fun p K=>zcy s p K hs
 unfold zlo
 refine CallOk.body (F0:=[(0,.agg (sqc s)),(1,.slice (cdL cs) cs.length f)]) Tryz.func35 rfl Tryz.ntmps35 Tryz.results35 rfl (by kernel_rfl) rfl ?_
 refine PW.f (fun K k=>by simp (maxSteps:=3000000) (disch:=omega) only [go_sem,↓reduceIte,reduceCtorEq,h1];exact k) ?_
 refine PW.e ?_
 (repeat refine PW.seq ?_);refine PW.block (PW.loop ?_)
 suffices hl1:∀ j:Nat,j≤cs.length→((cs.drop j).all fun c=>zL s c.p)=(cs.all fun c=>zL s c.p)→PL Tryz.prog _ _ [(1,.slice (cdL cs) cs.length f),(2,.ptr H.length 0 0),(7,.slice (cdL cs) cs.length f),(8,.int .i64 (cs.length:Int)),(9,.int .i64 (j:Int))] (H++[⟨29,0,sqc s⟩]) _ by
  exact PL.at [1,2,7,8,9] (hl1 0 (by omega) rfl) rfl rfl
 intro j hj hf
 induction hd:cs.length - j using Nat.strongRecOn generalizing j with
 | _ d ih=>
  refine PL.round ?_;refine PW.e ?_
  (repeat refine PW.seq ?_);refine PW.cond (t:=_) rfl (fun h=> ?_) (fun h=> ?_)
  ·have hjl:j<cs.length:=by have:=of_decide_eq_true h;omega
   have ea:=zu4 cs j hjl
   have hnext:=ih (cs.length - (j+1)) (by omega) (j+1) (by omega)
   rw [zcI _ cs j hjl] at hf
   generalize cs[j]=c at *
   have pc:=fun K=>pv c.p K
   have e1:(cdE c).length=8:=rfl
   have e2:(cdE c).all PV.cell=true:=rfl
   have e3:List.take 6 (cdE c)=pic c.p:=rfl
   have e4:List.take 8 (cdE c)=cdE c:=rfl
   refine PW.skip ?_;(repeat refine PW.seq ?_);refine PW.block ?_
   refine PW.f (fun K k=>by simp (maxSteps:=3000000) (disch:=omega) only [go_sem,↓reduceIte,reduceCtorEq,ea,ln,e1,e2,e4];exact k) ?_
   refine PW.f (fun K k=>by simp (maxSteps:=3000000) (disch:=omega) only [go_sem,↓reduceIte,reduceCtorEq,h2,h3,e1,e3];refine VCx.call (pc _) rfl ?_;simp (maxSteps:=3000000) (disch:=omega) only [go_sem,↓reduceIte,reduceCtorEq,h2,h3,e1,e3];exact k) ?_
   cases hb:zL s c.p with
   | true=>
    rw [hb] at hf
    refine PW.us ?_
    refine PW.e ?_
    refine PL.view (Vs.trim (F1:=[(1,.slice (cdL cs) cs.length f),(2,.ptr H.length 0 0),(7,.slice (cdL cs) cs.length f),(8,.int .i64 (cs.length:Int)),(9,.int .i64 ((j+1:Nat):Int))]) (H1:=H++[⟨29,0,sqc s⟩]) (K:=[⟨39,0,cdE c⟩]) (fun hh=>ziA (fun b hb x hx=> ?_) hh) (by simp) (by simp) ?_) (hnext hf rfl)
    ·rw [List.mem_singleton] at hb
     subst hb
     exact zbn _ _ x hx
    ·exact ⟨.id (zo (ziR _ _)),.id (.ptr (by simp)),.id (zo (ziR _ _)),.id (.int _ _),.id (.int _ _),trivial⟩
   | false=>
    rw [hb] at hf
    refine PW.t ?_
    refine PW.e ?_
    refine PW.ret ⟨.bool false,by simp (maxSteps:=3000000) (disch:=omega) only [go_sem,↓reduceIte,reduceCtorEq,zd,zg,List.mapM_cons,List.mapM_nil,Option.pure_def,Option.bind_eq_bind,Option.bind_some,Array.toList],?_⟩
    rw [←hf,Bool.false_and,Bool.false_and]
    exact fin _ _
  ·have hjl:j=cs.length:=by have:=of_decide_eq_false h;omega
   subst hjl
   rw [List.drop_length] at hf
   rw [←hf]
   refine PW.exit ?_
   refine PW.e ?_
   refine PW.block ?_
   match cs with
   | []=>
    refine PW.e ?_
    refine PW.u ?_
    refine PW.e ?_
    refine PW.us ?_
    refine PW.e ?_
    refine PW.ret ⟨.bool false,by simp (maxSteps:=3000000) (disch:=omega) only [go_sem,↓reduceIte,reduceCtorEq,zd,zg,List.mapM_cons,List.mapM_nil,Option.pure_def,Option.bind_eq_bind,Option.bind_some,Array.toList],?_⟩
    exact fin _ _
   | [c]=>
    refine PW.e ?_
    refine PW.t ?_
    refine PW.f (fun K k=>by simp (maxSteps:=3000000) (disch:=omega) only [go_sem,↓reduceIte,reduceCtorEq,cdL,List.flatMap_cons,List.flatMap_nil,cdE,cdc,pic];exact k) ?_
    refine PW.ret ⟨.bool (c.p.st==3),by simp (maxSteps:=3000000) (disch:=omega) only [go_sem,↓reduceIte,reduceCtorEq,zd,zg,List.mapM_cons,List.mapM_nil,Option.pure_def,Option.bind_eq_bind,Option.bind_some,Array.toList],?_⟩
    exact fin _ _
   | [c,d]=>
    have le:=fun K=>zme c.p K
    have pa:=fun K=>zjK c.p d.p K
    simp only [pic] at le pa
    refine PW.e ?_
    refine PW.u ?_
    refine PW.e ?_
    refine PW.t ?_
    generalize hb1:zca c.p=b1 at le
    generalize hb2:zaW c.p d.p=b2 at pa
    cases b1 with
    | false=>
     (repeat refine PW.seq ?_);refine PW.drawg mix (by kernel_rfl) fun K hK=> ?_;simp (maxSteps:=3000000) (disch:=omega) only [go_sem,↓reduceIte,reduceCtorEq,cdL,List.flatMap_cons,List.flatMap_nil,cdE,cdc,pic]
     refine VCz.call (fun _=>le _) rfl ?_
     simp (maxSteps:=3000000) (disch:=omega) only [go_sem,↓reduceIte,reduceCtorEq]
     refine hK _ _ ?_;clear hK K
     refine PW.ret ⟨.bool false,by simp (maxSteps:=3000000) (disch:=omega) only [go_sem,↓reduceIte,reduceCtorEq,zd,zg,List.mapM_cons,List.mapM_nil,Option.pure_def,Option.bind_eq_bind,Option.bind_some,Array.toList],?_⟩
     show Pm.Fin H (.bool (zca c.p&&zaW c.p d.p)) H _ _
     rw [hb1]
     exact fin _ _
    | true=>
     (repeat refine PW.seq ?_);refine PW.drawg mix (by kernel_rfl) fun K hK=> ?_;simp (maxSteps:=3000000) (disch:=omega) only [go_sem,↓reduceIte,reduceCtorEq,cdL,List.flatMap_cons,List.flatMap_nil,cdE,cdc,pic]
     refine VCz.call (fun _=>le _) rfl ?_
     simp (maxSteps:=3000000) (disch:=omega) only [go_sem,↓reduceIte,reduceCtorEq,cdL,List.flatMap_cons,List.flatMap_nil,cdE,cdc,pic]
     refine VCz.call (fun _=>pa _) rfl ?_
     simp (maxSteps:=3000000) (disch:=omega) only [go_sem,↓reduceIte,reduceCtorEq]
     refine hK _ _ ?_;clear hK K
     refine PW.ret ⟨.bool b2,by simp (maxSteps:=3000000) (disch:=omega) only [go_sem,↓reduceIte,reduceCtorEq,zd,zg,List.mapM_cons,List.mapM_nil,Option.pure_def,Option.bind_eq_bind,Option.bind_some,Array.toList],?_⟩
     show Pm.Fin H (.bool (zca c.p&&zaW c.p d.p)) H _ _
     rw [hb1,hb2]
     exact fin _ _
   | c::d::e::r=>
    have d1:decide ((((c::d::e::r).length:Nat):Int)=1)=false:=decide_eq_false (by simp only [List.length_cons];omega)
    have d2:decide ((((c::d::e::r).length:Nat):Int)=2)=false:=decide_eq_false (by simp only [List.length_cons];omega)
    have d1':((((c::d::e::r).length:Nat):Int)==1)=false:=d1
    have d2':((((c::d::e::r).length:Nat):Int)==2)=false:=d2
    obtain ⟨cs',hcs⟩:∃ cs':List Cdd,cs'=c::d::e::r:=⟨_,rfl⟩
    rw [←hcs] at d1' d2' ⊢
    refine PW.f (fun K k=>by simp (maxSteps:=3000000) (disch:=omega) only [go_sem,↓reduceIte,reduceCtorEq,d1'];exact k) ?_
    refine PW.u ?_
    refine PW.f (fun K k=>by simp (maxSteps:=3000000) (disch:=omega) only [go_sem,↓reduceIte,reduceCtorEq,d2'];exact k) ?_
    refine PW.us ?_
    refine PW.e ?_
    refine PW.ret ⟨.bool false,by simp (maxSteps:=3000000) (disch:=omega) only [go_sem,↓reduceIte,reduceCtorEq,zd,zg,List.mapM_cons,List.mapM_nil,Option.pure_def,Option.bind_eq_bind,Option.bind_some,Array.toList],?_⟩
    subst hcs
    exact fin false _
def zfr:List PV:=[.int .i64 0,.int .i64 0,.slice [] 0 true,.slice [] 0 true,.slice [] 0 true]
theorem ztv (n:Nat) (H:za):FzC n H zfr (fmc f0):=⟨.id (.int _ _),.id (.int _ _),Fz.sliceC (xs:=[]) (ys:=[]) trivial (fun h=>by cases h),Fz.sliceC (xs:=[]) (ys:=[]) trivial (fun h=>by cases h),Fz.sliceC (xs:=[]) (ys:=[]) trivial (fun h=>by cases h),trivial⟩
theorem znG:Wkns zfr (fmc f0):=.cons (.refl _) (.cons (.refl _) (.cons (.slF _ _ _) (.cons (.slF _ _ _) (.cons (.slF _ _ _) .nil))))
def zd4 (r:Fm×Bool×Int):PV:=.tup [.agg (fmc r.1),.bool r.2.1,.int .i64 r.2.2]
theorem zfU (H K:za) (e:Int):Fin H (zd4 (f0,false,e)) H (.tup [.agg zfr,.bool false,.int .i64 e]) (H++K):=Fin.base (Fz.tupC ⟨Fz.aggC (ztv _ _),.id (.bool _),.id (.int _ _),trivial⟩)
theorem zse (n:Nat) (f:Fm):∀ x∈fmc f,Scoped n x:=za3 _ _ _ _ _ _ _ _ _ _ _ _
theorem zey (H K:za) (r:Fm×Bool×Int):Fin H (zd4 r) H (zd4 r) (H++K):=Fin.base (.id (.tup (asc fun x hx=>by
 simp only [List.mem_cons,List.not_mem_nil,or_false] at hx
 rcases hx with rfl|rfl|rfl
 ·exact zB (zse _ _)
 ·exact .bool _
 ·exact .int _ _)))
theorem zpU {A B:Nat} {f:Fm} (h:Gok A B f) (h2:B≤2):Hok (8 * A) (8 * B) f:=by
 have ha:=h.ra
 have hb:=h.rb
 exact ⟨by rw [h.w];omega,by rw [h.h];omega,by omega,by omega,by rw [h.ly,Nat.mul_comm];congr 1<;>omega,by rw [h.lu,Nat.mul_comm],by rw [h.lv,Nat.mul_comm]⟩
theorem zh4 {s:Sq} {p:Pi} {us:List (Int×List UInt8)} {pa fu fi:Fm} {b:Bool} (h:(zbl s p us pa fu fi b).2=0):∃ A B,DecOk s p pa fu fi b A B∧Gok A B (zbl s p us pa fu fi b).1.1∧(zbl s p us pa fu fi b).1.2.length≤4:=by
 unfold zbl at h ⊢
 by_cases hE:ziM s p pa fu fi b=0
 ·obtain ⟨A,B,hd⟩:=DecOk.of hE
  rw [if_pos hE]
  have hr:=hd.r
  have hB:=hd.rb
  refine ⟨A,B,hd,?_,?_⟩
  ·show Gok A B (zcj s p b us pa fu fi (s.w / 16).toNat _ (za2 s p).toNat).1
   rw [hr,Int.toNat_natCast,show (s.w / 16).toNat=A by rw [hd.w];omega]
   exact zeT hd us (zmB hd) B (Nat.le_refl _)
  ·show (zcj s p b us pa fu fi _ _ (za2 s p).toNat).2.length≤4
   rw [zdD,hr,Int.toNat_natCast];omega
 ·rw [if_neg hE] at h
  exact absurd h hE
set_option maxHeartbeats 16000000 in
set_option maxRecDepth 100000 in
theorem zp1 (s:Sq) (cs:List Cdd) (pa fu:Fm) (fl:Bool) (hs:SqOk s) (hc:∀ c∈cs,CdOk c) (hn:cs.length≤1000000) (H:za):CallOk Tryz.prog 14 [.agg (sqc s),.slice (cdL cs) cs.length fl,.agg (fmc pa),.agg (fmc fu)] H (zd4 (zlc s cs pa fu)) H:=by
 have h1:=za8 s
 have h2:=zbs s hs
 have h3:=zdf s hs
 have co:=fun K=>zsu s cs fl hs hn K
 have F5:∀ g:Fm,(fmc g).all PV.cell=true:=fun _=>rfl
 have F7:∀ g:Fm,(fmc g).length=5:=fun _=>rfl
 have F8:∀ g:Fm,List.take 5 (fmc g)=fmc g:=fun _=>rfl
 have Z7:zfr.length=5:=rfl
 have F9:∀ g:Fm,List.drop 5 (fmc g)=[]:=fun _=>rfl
 have e8:∀ c:Cdd,(cdE c).length=8:=fun _=>rfl
 have t8:∀ c:Cdd,List.take 8 (cdE c)=cdE c:=fun _=>rfl
 unfold zlc
 refine CallOk.body (F0:=[(0,.agg (sqc s)),(1,.slice (cdL cs) cs.length fl),(2,.agg (fmc pa)),(3,.agg (fmc fu))]) Tryz.func14 rfl Tryz.ntmps14 Tryz.results14 rfl (by kernel_rfl) rfl ?_
 refine PW.f (fun K k=>by simp (maxSteps:=3000000) (disch:=omega) only [go_sem,↓reduceIte,reduceCtorEq,h1,F5];exact k) ?_
 refine PW.f (fun K k=>by simp (maxSteps:=3000000) (disch:=omega) only [go_sem,↓reduceIte,reduceCtorEq,h2,h3];refine VCx.call (co _) rfl ?_;simp (maxSteps:=3000000) (disch:=omega) only [go_sem,↓reduceIte,reduceCtorEq,h2,h3];exact k) ?_
 cases hb:zlo s cs with
 | false=>
  rw [if_neg (by simp)]
  refine PW.t ?_
  refine PW.e ?_
  refine PW.ret ⟨.tup [.agg zfr,.bool false,.int .i64 1],by simp (maxSteps:=3000000) (disch:=omega) only [go_sem,↓reduceIte,reduceCtorEq,zd,zg,List.mapM_cons,List.mapM_nil,Option.pure_def,Option.bind_eq_bind,Option.bind_some,Array.toList,zfr],?_⟩
  exact zfU _ _ _
 | true=>
  rw [if_pos rfl]
  refine PW.us ?_
  clear co
  match cs with
  | []=>simp [zlo] at hb
  | c::d::e::r=>simp [zlo] at hb
  | [c]=>
   have hcc:=hc c (by simp)
   have de:=fun K=>(zfg s c.p c.U c.us pa fu f0 false hs hcc.n hcc.u K).wk (args:=[.agg (sqc s),.agg (cdE c),.agg (fmc pa++(fmc fu++zfr)),.bool false]) (.cons (.refl _) (.cons (.refl _) (.cons (.agg ((Wkns.refl _).append ((Wkns.refl _).append znG)) rfl) (.cons (.refl _) .nil))))
   have hX:=fun h=>zh4 (s:=s) (p:=c.p) (us:=c.us) (pa:=pa) (fu:=fu) (fi:=f0) (b:=false) h
   have i0:List.take 8 (cdL [c])=cdE c:=rfl
   have i1:(cdL [c]).length=8:=rfl
   have c8:(cdE c).all PV.cell=true:=rfl
   dsimp only
   generalize zbl s c.p c.us pa fu f0 false=X at de hX ⊢
   refine PW.f (fun K k=>by simp (maxSteps:=3000000) (disch:=omega) only [go_sem,↓reduceIte,reduceCtorEq,fmc];exact k) ?_
   refine PW.at [1,4,8,11] (?_:PW _ _ _ [(1,.slice (cdL [c]) 1 fl),(4,.ptr H.length 0 0),(8,.ptr (H.length+3) 0 0),(11,.ptr (H.length+4) 0 0)] (H++[⟨29,0,sqc s⟩,⟨33,0,fmc pa⟩,⟨33,0,fmc fu⟩,⟨33,0,zfr⟩,⟨87,0,fmc pa++(fmc fu++zfr)⟩]) _) rfl rfl
   have rl:(fmc pa++(fmc fu++zfr)).length=15:=rfl
   have rt:List.take 15 (fmc pa++(fmc fu++zfr))=fmc pa++(fmc fu++zfr):=rfl
   by_cases h0:X.2=0
   ·obtain ⟨A,B,hd,hg,hr⟩:=hX h0
    rw [if_pos h0]
    unfold zeD at de
    rw [if_pos h0] at de
    have al:=fun K=>zi1 X.1.2 false (by omega) K
    (repeat refine PW.seq ?_);refine PW.drawg mix (by kernel_rfl) fun K hK=> ?_;simp (maxSteps:=3000000) (disch:=omega) only [go_sem,↓reduceIte,reduceCtorEq,h2,h3,i0,i1,rl,rt,e8,t8]
    refine VCz.call (fun _=>de _) rfl ?_
    simp (maxSteps:=3000000) (disch:=omega) only [go_sem,↓reduceIte,reduceCtorEq,F5,F7,F8]
    refine hK _ _ ?_;clear hK K
    refine PW.e ?_
    refine PW.us ?_
    refine PW.e ?_
    refine PW.t ?_
    (repeat refine PW.seq ?_);refine PW.drawi [H.length+3] [(8,[0])] [] [46] mix (by kernel_rfl) (by simp<;>omega) fun K hK=> ?_
    simp (maxSteps:=3000000) (disch:=omega) only [go_sem,↓reduceIte,reduceCtorEq,F5,F7,F8]
    refine VCj.read (fun _ _=>al _) rfl ?_
    simp (maxSteps:=3000000) (disch:=omega) only [go_sem,↓reduceIte,reduceCtorEq,F5,F7,F8,zfr]
    refine hK _ _ ?_;clear hK K
    refine PW.ret ⟨zd4 (X.1.1,X.1.2.all id,0),by simp (maxSteps:=3000000) (disch:=omega) only [go_sem,↓reduceIte,reduceCtorEq,zd,zg,List.mapM_cons,List.mapM_nil,Option.pure_def,Option.bind_eq_bind,Option.bind_some,Array.toList,F7,F8,zd4],?_⟩
    exact zey _ _ _
   ·rw [if_neg h0]
    unfold zeD at de
    rw [if_neg h0] at de
    have z7:[PV.int .i64 0,PV.int .i64 0,PV.slice [] 0 true,PV.slice [] 0 true,PV.slice [] 0 true].length=5:=rfl
    (repeat refine PW.seq ?_);refine PW.drawg mix (by kernel_rfl) fun K hK=> ?_;simp (maxSteps:=3000000) (disch:=omega) only [go_sem,↓reduceIte,reduceCtorEq,h2,h3,i0,i1,rl,rt,e8,t8]
    refine VCz.call (fun _=>de _) rfl ?_
    simp (maxSteps:=3000000) (disch:=omega) only [go_sem,↓reduceIte,reduceCtorEq]
    refine hK _ _ ?_;clear hK K
    have d0:(X.2 !=0)=true:=by simpa using h0
    refine PW.f (fun K k=>by simp (maxSteps:=3000000) (disch:=omega) only [go_sem,↓reduceIte,reduceCtorEq,d0];exact k) ?_
    refine PW.t ?_
    refine PW.f (fun K k=>by simp (maxSteps:=3000000) (disch:=omega) only [go_sem,↓reduceIte,reduceCtorEq,zfr];exact k) ?_
    refine PW.ret ⟨.tup [.agg zfr,.bool false,.int .i64 X.2],by simp (maxSteps:=3000000) (disch:=omega) only [go_sem,↓reduceIte,reduceCtorEq,zd,zg,List.mapM_cons,List.mapM_nil,Option.pure_def,Option.bind_eq_bind,Option.bind_some,Array.toList,zfr],?_⟩
    exact zfU _ _ _
  | [c,d]=>
   have hcc:=hc c (by simp)
   have hcd:=hc d (by simp)
   have de:=fun K=>(zfg s c.p c.U c.us pa fu f0 false hs hcc.n hcc.u K).wk (args:=[.agg (sqc s),.agg (cdE c),.agg (fmc pa++(fmc fu++zfr)),.bool false]) (.cons (.refl _) (.cons (.refl _) (.cons (.agg ((Wkns.refl _).append ((Wkns.refl _).append znG)) rfl) (.cons (.refl _) .nil))))
   have hX:=fun h=>zh4 (s:=s) (p:=c.p) (us:=c.us) (pa:=pa) (fu:=fu) (fi:=f0) (b:=false) h
   have i0:List.take 8 (cdL [c,d])=cdE c:=rfl
   have i1:(cdL [c,d]).length=16:=rfl
   have i2:List.take 8 (List.drop 8 (cdL [c,d]))=cdE d:=rfl
   have i5:(cdL [c,d])[1]? =some (.int .i64 c.p.st):=rfl
   have c8:∀ c,(cdE c).all PV.cell=true:=fun _=>rfl
   dsimp only
   generalize zbl s c.p c.us pa fu f0 false=X at de hX ⊢
   refine PW.f (fun K k=>by simp (maxSteps:=3000000) (disch:=omega) only [go_sem,↓reduceIte,reduceCtorEq,fmc];exact k) ?_
   refine PW.at [1,4,8,11] (?_:PW _ _ _ [(1,.slice (cdL [c,d]) 2 fl),(4,.ptr H.length 0 0),(8,.ptr (H.length+3) 0 0),(11,.ptr (H.length+4) 0 0)] (H++[⟨29,0,sqc s⟩,⟨33,0,fmc pa⟩,⟨33,0,fmc fu⟩,⟨33,0,zfr⟩,⟨87,0,fmc pa++(fmc fu++zfr)⟩]) _) rfl rfl
   have rl:∀ x,(fmc pa++(fmc fu++fmc x)).length=15:=fun _=>rfl
   have rt:∀ x,List.take 15 (fmc pa++(fmc fu++fmc x))=fmc pa++(fmc fu++fmc x):=fun _=>rfl
   have rlz:(fmc pa++(fmc fu++zfr)).length=15:=rfl
   have rtz:List.take 15 (fmc pa++(fmc fu++zfr))=fmc pa++(fmc fu++zfr):=rfl
   by_cases h0:X.2=0
   rotate_left
   ·rw [if_neg h0]
    unfold zeD at de
    rw [if_neg h0] at de
    have z7:[PV.int .i64 0,PV.int .i64 0,PV.slice [] 0 true,PV.slice [] 0 true,PV.slice [] 0 true].length=5:=rfl
    (repeat refine PW.seq ?_);refine PW.drawg mix (by kernel_rfl) fun K hK=> ?_;simp (maxSteps:=3000000) (disch:=omega) only [go_sem,↓reduceIte,reduceCtorEq,h2,h3,i0,i1,rlz,rtz,e8,t8]
    refine VCz.call (fun _=>de _) rfl ?_
    simp (maxSteps:=3000000) (disch:=omega) only [go_sem,↓reduceIte,reduceCtorEq]
    refine hK _ _ ?_;clear hK K
    have d0:(X.2 !=0)=true:=by simpa using h0
    refine PW.f (fun K k=>by simp (maxSteps:=3000000) (disch:=omega) only [go_sem,↓reduceIte,reduceCtorEq,d0];exact k) ?_
    refine PW.t ?_
    refine PW.f (fun K k=>by simp (maxSteps:=3000000) (disch:=omega) only [go_sem,↓reduceIte,reduceCtorEq,zfr];exact k) ?_
    refine PW.ret ⟨.tup [.agg zfr,.bool false,.int .i64 X.2],by simp (maxSteps:=3000000) (disch:=omega) only [go_sem,↓reduceIte,reduceCtorEq,zd,zg,List.mapM_cons,List.mapM_nil,Option.pure_def,Option.bind_eq_bind,Option.bind_some,Array.toList,zfr],?_⟩
    exact zfU _ _ _
   obtain ⟨A,B,hd,hg,hr⟩:=hX h0
   rw [if_pos h0]
   unfold zeD at de
   rw [if_pos h0] at de
   have al:=fun K=>zi1 X.1.2 false (by omega) K
   (repeat refine PW.seq ?_);refine PW.drawg mix (by kernel_rfl) fun K hK=> ?_;simp (maxSteps:=3000000) (disch:=omega) only [go_sem,↓reduceIte,reduceCtorEq,h2,h3,i0,i1,rlz,rtz,e8,t8]
   refine VCz.call (fun _=>de _) rfl ?_
   simp (maxSteps:=3000000) (disch:=omega) only [go_sem,↓reduceIte,reduceCtorEq,F5,F7,F8]
   refine hK _ _ ?_;clear hK K
   refine PW.e ?_
   refine PW.us ?_
   refine PW.e ?_
   refine PW.us ?_
   clear de hX
   have de:=fun K=>zfg s d.p d.U d.us pa fu X.1.1 true hs hcd.n hcd.u K
   have hY:=fun h=>zh4 (s:=s) (p:=d.p) (us:=d.us) (pa:=pa) (fu:=fu) (fi:=X.1.1) (b:=true) h
   generalize zbl s d.p d.us pa fu X.1.1 true=Y at de hY ⊢
   obtain ⟨⟨g,rows⟩,e⟩:=X
   simp only at h0 hg hr al de ⊢
   subst h0
   refine PW.f (fun K k=>by simp (maxSteps:=3000000) (disch:=omega) only [go_sem,↓reduceIte,reduceCtorEq,fmc,zfr];exact k) ?_
   refine PW.at [1,4,8,11,12,13] (?_:PW _ _ _ [(1,.slice (cdL [c,d]) 2 fl),(4,.ptr H.length 0 0),(8,.ptr (H.length+3) 0 0),(11,.ptr (H.length+4) 0 0),(12,.ptr (H.length+5) 0 0),(13,.slice (rows.map PV.bool) rows.length false)] (H++[⟨29,0,sqc s⟩,⟨33,0,fmc pa⟩,⟨33,0,fmc fu⟩,⟨33,0,zfr⟩,⟨87,0,fmc pa++(fmc fu++fmc g)⟩,⟨33,0,fmc g⟩]) _) rfl rfl
   by_cases k0:Y.2=0
   rotate_left
   ·rw [if_neg k0]
    unfold zeD at de
    rw [if_neg k0] at de
    (repeat refine PW.seq ?_);refine PW.drawg mix (by kernel_rfl) fun K hK=> ?_;simp (maxSteps:=3000000) (disch:=omega) only [go_sem,↓reduceIte,reduceCtorEq,h2,h3,i1,i2,rl,rt,e8,t8]
    refine VCz.call (fun _=>de _) rfl ?_
    simp (maxSteps:=3000000) (disch:=omega) only [go_sem,↓reduceIte,reduceCtorEq]
    refine hK _ _ ?_;clear hK K
    have d0:(Y.2 !=0)=true:=by simpa using k0
    refine PW.f (fun K k=>by simp (maxSteps:=3000000) (disch:=omega) only [go_sem,↓reduceIte,reduceCtorEq,d0];exact k) ?_
    refine PW.t ?_
    refine PW.f (fun K k=>by simp (maxSteps:=3000000) (disch:=omega) only [go_sem,↓reduceIte,reduceCtorEq,zfr];exact k) ?_
    refine PW.ret ⟨.tup [.agg zfr,.bool false,.int .i64 Y.2],by simp (maxSteps:=3000000) (disch:=omega) only [go_sem,↓reduceIte,reduceCtorEq,zd,zg,List.mapM_cons,List.mapM_nil,Option.pure_def,Option.bind_eq_bind,Option.bind_some,Array.toList,zfr],?_⟩
    exact zfU _ _ _
   obtain ⟨A',B',hd',hg',hr'⟩:=hY k0
   rw [if_pos k0]
   unfold zeD at de
   rw [if_pos k0] at de
   obtain ⟨⟨g2,more⟩,e⟩:=Y
   simp only at k0 hg' hr' de ⊢
   subst k0
   have al2:=fun K=>zi1 more false (by omega) K
   (repeat refine PW.seq ?_);refine PW.drawg mix (by kernel_rfl) fun K hK=> ?_;simp (maxSteps:=3000000) (disch:=omega) only [go_sem,↓reduceIte,reduceCtorEq,h2,h3,i1,i2,rl,rt,e8,t8]
   refine VCz.call (fun _=>de _) rfl ?_
   simp (maxSteps:=3000000) (disch:=omega) only [go_sem,↓reduceIte,reduceCtorEq,F5,F7,F8]
   refine hK _ _ ?_;clear hK K
   clear de hY
   refine PW.e ?_
   refine PW.us ?_
   unfold zlo at hb
   simp only [List.all_cons,List.all_nil,Bool.and_true,Bool.and_eq_true] at hb
   obtain ⟨⟨v1,v2⟩,hl,hpr⟩:=hb
   unfold zaW at hpr
   simp only [Bool.and_eq_true,Bool.not_eq_true',beq_eq_false_iff_ne,beq_iff_eq] at hpr
   have eA:A'=A:=by have:=hd.w;have:=hd'.w;omega
   have e32:=(hd.h4 hpr.1).1
   have e32':=(hd'.h4 hpr.2.1).1
   have eB:B'=B:=by omega
   subst eA eB
   have h64:=(zba v1).2.1
   have k1:=zpU hg (by omega)
   have k2:=zpU hg' (by omega)
   have w0:∀ a b:Fm,Gok A' B' a→zmU a b=znK (8 * A') (8 * B') a b:=fun a b ha=>by
    unfold zmU
    rw [show (a.w / 2).toNat=8 * A' by rw [ha.w];omega,show (a.h / 2).toNat=8 * B' by rw [ha.h];omega]
   have we1:=fun K=>zf9 (8 * A') (8 * B') g g2 k1 k2 K
   have we2:=fun K=>zf9 (8 * A') (8 * B') g2 g k2 k1 K
   rw [←w0 g g2 hg] at we1
   rw [←w0 g2 g hg'] at we2
   generalize zmU g g2=W1 at we1 ⊢
   generalize zmU g2 g=W2 at we2 ⊢
   refine PW.view (Vs.place 33) (PW.view (Vs.place 33) ?_)
   refine PW.at [1,8,12,13,15,16] (?_:PW _ _ _ [(1,.slice (cdL [c,d]) 2 fl),(8,.ptr (H.length+3) 0 0),(12,.ptr (H.length+5) 0 0),(13,.slice (rows.map PV.bool) rows.length false),(15,.ptr (H.length+6) 0 0),(16,.slice (more.map PV.bool) more.length false)] (H++[⟨29,0,sqc s⟩,⟨33,0,fmc pa⟩,⟨33,0,fmc fu⟩,⟨33,0,zfr⟩,⟨87,0,fmc pa++(fmc fu++fmc g)⟩,⟨33,0,fmc g⟩,⟨33,0,fmc g2⟩,⟨33,0,[]⟩,⟨33,0,[]⟩]) _) rfl (by simp)
   (repeat refine PW.seq ?_);refine PW.drawi [H.length+7,H.length+8] [(17,[0]),(18,[1])] [(17,0),(18,1)] [] mix (by kernel_rfl) (by simp<;>omega) fun K hK=> ?_
   simp (maxSteps:=3000000) (disch:=omega) only [go_sem,↓reduceIte,reduceCtorEq,F5,F7,F8]
   refine hK _ _ ?_;clear hK K
   refine PW.f (fun K k=>by simp (maxSteps:=3000000) (disch:=omega) only [go_sem,↓reduceIte,reduceCtorEq,i1,i5];exact k) ?_
   (repeat refine PW.seq ?_);refine PW.cond (t:=_) rfl (fun h=> ?_) (fun h=> ?_)
   ·have hst:c.p.st=2:=by simpa using h
    rw [if_pos hst]
    (repeat refine PW.seq ?_);refine PW.drawi [H.length+7,H.length+8] [(17,[0]),(18,[1])] [] [] mix (by kernel_rfl) (by simp<;>omega) fun K hK=> ?_
    simp (maxSteps:=3000000) (disch:=omega) only [go_sem,↓reduceIte,reduceCtorEq,F5,F7,F8,F9,List.append_nil]
    refine hK _ _ ?_;clear hK K
    refine PW.f (fun K k=>by simp (maxSteps:=3000000) (disch:=omega) only [go_sem,↓reduceIte,reduceCtorEq,F5,F7,F8,F9,List.append_nil];refine VCx.call (we2 _) rfl ?_;simp (maxSteps:=3000000) (disch:=omega) only [go_sem,↓reduceIte,reduceCtorEq,F5,F7,F8,F9,List.append_nil];exact k) ?_
    refine PW.e ?_
    refine PW.us ?_
    cases hall:rows.all id with
    | false=>
     rw [hall] at al
     (repeat refine PW.seq ?_);refine PW.drawi [H.length+3] [(8,[0])] [] [85,88] mix (by kernel_rfl) (by simp<;>omega) fun K hK=> ?_
     simp (maxSteps:=3000000) (disch:=omega) only [go_sem,↓reduceIte,reduceCtorEq,F5,F7,F8,F9,List.append_nil]
     refine VCj.read (fun _ _=>al _) rfl ?_
     simp (maxSteps:=3000000) (disch:=omega) only [go_sem,↓reduceIte,reduceCtorEq,F5,F7,F8,F9,List.append_nil,zfr]
     refine hK _ _ ?_;clear hK K
     refine PW.ret ⟨zd4 (W2,false,0),by simp (maxSteps:=3000000) (disch:=omega) only [go_sem,↓reduceIte,reduceCtorEq,zd,zg,List.mapM_cons,List.mapM_nil,Option.pure_def,Option.bind_eq_bind,Option.bind_some,Array.toList,F7,F8,zd4],?_⟩
     exact zey _ _ _
    | true=>
     rw [hall] at al
     (repeat refine PW.seq ?_);refine PW.drawi [H.length+3] [(8,[0])] [] [85,88] mix (by kernel_rfl) (by simp<;>omega) fun K hK=> ?_
     simp (maxSteps:=3000000) (disch:=omega) only [go_sem,↓reduceIte,reduceCtorEq,F5,F7,F8,F9,List.append_nil]
     refine VCj.read (fun _ _=>al _) rfl ?_
     simp (maxSteps:=3000000) (disch:=omega) only [go_sem,↓reduceIte,reduceCtorEq,F5,F7,F8,F9,List.append_nil]
     refine VCj.read (fun _ _=>al2 _) rfl ?_
     simp (maxSteps:=3000000) (disch:=omega) only [go_sem,↓reduceIte,reduceCtorEq,F5,F7,F8,F9,List.append_nil,zfr]
     refine hK _ _ ?_;clear hK K
     refine PW.ret ⟨zd4 (W2,more.all id,0),by simp (maxSteps:=3000000) (disch:=omega) only [go_sem,↓reduceIte,reduceCtorEq,zd,zg,List.mapM_cons,List.mapM_nil,Option.pure_def,Option.bind_eq_bind,Option.bind_some,Array.toList,F7,F8,zd4],?_⟩
     exact zey _ _ _
   ·have hst:¬ c.p.st=2:=by simpa using h
    rw [if_neg hst]
    refine PW.skip ?_
    refine PW.f (fun K k=>by simp (maxSteps:=3000000) (disch:=omega) only [go_sem,↓reduceIte,reduceCtorEq,F5,F7,F8,F9,List.append_nil];refine VCx.call (we1 _) rfl ?_;simp (maxSteps:=3000000) (disch:=omega) only [go_sem,↓reduceIte,reduceCtorEq,F5,F7,F8,F9,List.append_nil];exact k) ?_
    refine PW.e ?_
    refine PW.us ?_
    cases hall:rows.all id with
    | false=>
     rw [hall] at al
     (repeat refine PW.seq ?_);refine PW.drawi [H.length+3] [(8,[0])] [] [85,88] mix (by kernel_rfl) (by simp<;>omega) fun K hK=> ?_
     simp (maxSteps:=3000000) (disch:=omega) only [go_sem,↓reduceIte,reduceCtorEq,F5,F7,F8,F9,List.append_nil]
     refine VCj.read (fun _ _=>al _) rfl ?_
     simp (maxSteps:=3000000) (disch:=omega) only [go_sem,↓reduceIte,reduceCtorEq,F5,F7,F8,F9,List.append_nil,zfr]
     refine hK _ _ ?_;clear hK K
     refine PW.ret ⟨zd4 (W1,false,0),by simp (maxSteps:=3000000) (disch:=omega) only [go_sem,↓reduceIte,reduceCtorEq,zd,zg,List.mapM_cons,List.mapM_nil,Option.pure_def,Option.bind_eq_bind,Option.bind_some,Array.toList,F7,F8,zd4],?_⟩
     exact zey _ _ _
    | true=>
     rw [hall] at al
     (repeat refine PW.seq ?_);refine PW.drawi [H.length+3] [(8,[0])] [] [85,88] mix (by kernel_rfl) (by simp<;>omega) fun K hK=> ?_
     simp (maxSteps:=3000000) (disch:=omega) only [go_sem,↓reduceIte,reduceCtorEq,F5,F7,F8,F9,List.append_nil]
     refine VCj.read (fun _ _=>al _) rfl ?_
     simp (maxSteps:=3000000) (disch:=omega) only [go_sem,↓reduceIte,reduceCtorEq,F5,F7,F8,F9,List.append_nil]
     refine VCj.read (fun _ _=>al2 _) rfl ?_
     simp (maxSteps:=3000000) (disch:=omega) only [go_sem,↓reduceIte,reduceCtorEq,F5,F7,F8,F9,List.append_nil,zfr]
     refine hK _ _ ?_;clear hK K
     refine PW.ret ⟨zd4 (W1,more.all id,0),by simp (maxSteps:=3000000) (disch:=omega) only [go_sem,↓reduceIte,reduceCtorEq,zd,zg,List.mapM_cons,List.mapM_nil,Option.pure_def,Option.bind_eq_bind,Option.bind_some,Array.toList,F7,F8,zd4],?_⟩
     exact zey _ _ _
end Go.Proofs.YtjgmdlcjbgiekaaGreatDoor.Sc
