/-
  Parts of the proof, put together in one text. No condition.
-/
import Derived.Test.YtjgmdlcjbgiekaaGreatDoorQ19
namespace Go.Proofs.YtjgmdlcjbgiekaaGreatDoor.Sc
set_option linter.all false
open Pm Ty Go.RowKit
theorem zga (x y:Int) (H:za):CallOk Tryz.prog 256 [.agg [.int .i64 x,.int .i64 y]] H (.bool (vrg x y)) H:=by
 refine CallOk.body (F0:=[(0,.agg [.int .i64 x,.int .i64 y])]) Tryz.func256 rfl Tryz.ntmps256 Tryz.results256 rfl (by kernel_rfl) rfl ?_
 (repeat' (first|refine PW.seq ?_|refine PW.skip ?_|refine PW.block ?_|((first|refine PW.rg rfl fun K hK=> ?_|refine PW.draw mix (by kernel_rfl) fun K hK=> ?_);simp (disch:=omega) only [go_sem,↓reduceIte,reduceCtorEq])|((first|refine zj ?_ ?_|refine zn ?_ ?_|refine And.intro ?_ ?_)<;>intro h<;>(try simp only [nqb] at h)<;>simp (disch:=omega) only [go_sem,↓reduceIte,reduceCtorEq,h])|((first|refine VCx.call (zdd x 63 _ (by omega)) rfl ?_|refine VCx.call (zdd y 63 _ (by omega)) rfl ?_|refine VCy.call (zdd x 63 _ (by omega)) rfl ?_|refine VCy.call (zdd y 63 _ (by omega)) rfl ?_);simp (disch:=omega) only [go_sem,↓reduceIte,reduceCtorEq])|(refine hK _ _ ?_;clear hK K)|(refine PW.cond (t:=_) rfl (fun h=> ?_) (fun h=> ?_)<;>(try (cases h;done))<;>(try simp only [nqb] at h))))
 all_goals ((refine PW.ret ⟨_,rfl,?_⟩;first|refine .inl ⟨?_,rfl⟩|refine Fin.base (.id' ?_ (.bool _))|refine Fin.base (.id' ?_ (.int _ _)));(simp_all [vrg,slot,Nat.beq]<;>first|rfl|omega|(rw [Bool.eq_iff_iff];simp;done)|(rw [Bool.eq_iff_iff];simp;omega)))
theorem zwv (m:Mb) (i:Nat) (H:za) (hi:H[i]? =some (mB m)):CallOk Tryz.prog 285 [.ptr i 0 0] H (.bool (hlM m)) H:=by
 obtain ⟨k,ua,ub,fp,fd,va,vb,vc,vd,ve,vf,vg,vh,sa,sb,sc,sd,dl,ca,cb,cc,cd,ce,cf,lv⟩:=m
 simp only [mB,mbc] at hi
 refine CallOk.body (F0:=[(0,.ptr i 0 0)]) Tryz.func285 rfl Tryz.ntmps285 Tryz.results285 rfl (by kernel_rfl) rfl ?_
 (repeat' (first|refine PW.seq ?_|refine PW.skip ?_|refine PW.block ?_|((first|refine PW.rg rfl fun K hK=> ?_|refine PW.draw mix (by kernel_rfl) fun K hK=> ?_);simp (disch:=omega) only [go_sem,↓reduceIte,reduceCtorEq,hi])|((first|refine zj ?_ ?_|refine zn ?_ ?_|refine And.intro ?_ ?_)<;>intro h<;>(try simp only [nqb] at h)<;>simp (disch:=omega) only [go_sem,↓reduceIte,reduceCtorEq,hi,h])|(refine hK _ _ ?_;clear hK K)|(refine PW.cond (t:=_) rfl (fun h=> ?_) (fun h=> ?_)<;>(try (cases h;done))<;>(try simp only [nqb] at h))))
 all_goals ((refine PW.ret ⟨_,rfl,?_⟩;first|refine .inl ⟨?_,rfl⟩|refine Fin.base (.id' ?_ (.bool _))|refine Fin.base (.id' ?_ (.int _ _)));clear hi;cases ca<;>cases cb<;>cases cc<;>cases cd<;>cases ce<;>cases cf<;>(simp_all [hlM,zi0,slot,Nat.beq]<;>first|rfl|omega|(rw [Bool.eq_iff_iff];simp;done)|(rw [Bool.eq_iff_iff];simp;omega)))
theorem zky (c:Cx) (m:Mb) (i:Nat) (H:za) (hi:H[i]? =some (mB m)):CallOk Tryz.prog 301 [.agg (cxc c),.ptr i 0 0] H (.bool (m.fp||fcx c)) H:=by
 obtain ⟨k,ua,ub,fp,fd,va,vb,vc,vd,ve,vf,vg,vh,sa,sb,sc,sd,dl,ca,cb,cc,cd,ce,cf,lv⟩:=m
 simp only [mB,mbc] at hi
 have hx:=fun K=>zY (K:=K) hi
 have fo:=fun H=>zlg c H
 obtain ⟨t,s,ii,n⟩:=c
 refine CallOk.body (F0:=[(0,.agg [.int .i64 t,.int .i64 s,.bool ii,.bool n]),(1,.ptr i 0 0)]) Tryz.func301 rfl Tryz.ntmps301 Tryz.results301 rfl (by kernel_rfl) rfl ?_
 (repeat' (first|refine PW.seq ?_|refine PW.skip ?_|refine PW.block ?_|((first|refine PW.rg rfl fun K hK=> ?_|refine PW.draw mix (by kernel_rfl) fun K hK=> ?_);simp (disch:=omega) only [go_sem,↓reduceIte,reduceCtorEq,hi,hx])|((first|refine zj ?_ ?_|refine zn ?_ ?_|refine And.intro ?_ ?_)<;>intro h<;>(try simp only [nqb] at h)<;>simp (disch:=omega) only [go_sem,↓reduceIte,reduceCtorEq,hi,hx,h])|((first|refine VCx.call (fo _) rfl ?_|refine VCy.call (fo _) rfl ?_);simp (disch:=omega) only [go_sem,↓reduceIte,reduceCtorEq,hi,hx])|(refine hK _ _ ?_;clear hK K)|(refine PW.cond (t:=_) rfl (fun h=> ?_) (fun h=> ?_)<;>(try (cases h;done))<;>(try simp only [nqb] at h))))
 all_goals ((refine PW.ret ⟨_,rfl,?_⟩;first|refine .inl ⟨?_,rfl⟩|refine Fin.base (.id' ?_ (.bool _))|refine Fin.base (.id' ?_ (.int _ _)));clear hi hx fo;(simp_all [slot,Nat.beq]<;>first|rfl|omega|(rw [Bool.eq_iff_iff];simp;done)|(rw [Bool.eq_iff_iff];simp;omega)))
theorem zuP (c:Cx) (m:Mb) (i:Nat) (H:za) (hi:H[i]? =some (mB m)):CallOk Tryz.prog 206 [.agg (cxc c),.ptr i 0 0] H (.bool (fch c m)) H:=by
 have hlo:=fun K=>zwv m i (H++K) (zY hi)
 have bo:=fun H=>ziT c H
 have hfc:fch c m=if hlM m then (bcx c|| !m.fd)&&win m.dl 30 else !m.fd&&decide (m.dl=0):=rfl
 generalize fch c m=r at hfc ⊢
 generalize hlM m=h1 at hlo hfc
 obtain ⟨k,ua,ub,fp,fd,va,vb,vc,vd,ve,vf,vg,vh,sa,sb,sc,sd,dl,ca,cb,cc,cd,ce,cf,lv⟩:=m
 simp only [mB,mbc] at hi hfc
 have hx:=fun K=>zY (K:=K) hi
 generalize bcx c=b1 at bo hfc
 obtain ⟨t,s,ii,n⟩:=c
 have wo:=fun H=>zdd dl 30 H (by omega)
 generalize win dl 30=w1 at wo hfc
 refine CallOk.body (F0:=[(0,.agg [.int .i64 t,.int .i64 s,.bool ii,.bool n]),(1,.ptr i 0 0)]) Tryz.func206 rfl Tryz.ntmps206 Tryz.results206 rfl (by kernel_rfl) rfl ?_
 (repeat' (first|refine PW.seq ?_|refine PW.skip ?_|refine PW.block ?_|((first|refine PW.rg rfl fun K hK=> ?_|refine PW.draw mix (by kernel_rfl) fun K hK=> ?_);simp (disch:=omega) only [go_sem,↓reduceIte,reduceCtorEq,hx])|((first|refine zj ?_ ?_|refine zn ?_ ?_|refine And.intro ?_ ?_)<;>intro h<;>(try simp only [nqb] at h)<;>simp (disch:=omega) only [go_sem,↓reduceIte,reduceCtorEq,hx,h])|((first|refine VCx.call (hlo _) rfl ?_|refine VCx.call (bo _) rfl ?_|refine VCx.call (wo _) rfl ?_|refine VCy.call (hlo _) rfl ?_|refine VCy.call (bo _) rfl ?_|refine VCy.call (wo _) rfl ?_);simp (disch:=omega) only [go_sem,↓reduceIte,reduceCtorEq,hx])|(refine hK _ _ ?_;clear hK K)|(refine PW.cond (t:=_) rfl (fun h=> ?_) (fun h=> ?_)<;>(try (cases h;done))<;>(try simp only [nqb] at h))))
 all_goals ((refine PW.ret ⟨_,rfl,?_⟩;first|refine .inl ⟨?_,rfl⟩|refine Fin.base (.id' ?_ (.bool _))|refine Fin.base (.id' ?_ (.int _ _)));clear hi hx hlo bo wo;subst hfc;(simp_all [slot,Nat.beq]<;>first|rfl|omega|(rw [Bool.eq_iff_iff];simp;done)|(rw [Bool.eq_iff_iff];simp;omega)))
theorem zU (l:List Int):(is l).all PV.cell=true:=by
 unfold is
 rw [List.all_map]
 exact List.all_eq_true.2 fun x _=>rfl
def lvr (lv:List Int):Bool:=(List.range 384).all fun q=>win (zh lv q) 4095
theorem zuq {lv:List Int} {q:Nat} (h:q<384) (hw:win (zh lv q) 4095=false):lvr lv=false:=by
 cases hc:lvr lv with
 | false=>rfl
 | true=>
  have:=List.all_eq_true.1 hc q (List.mem_range.2 h)
  rw [hw] at this;cases this
theorem ziu {lv:List Int} (h:∀ q,q<384→win (zh lv q) 4095=true):lvr lv=true:=List.all_eq_true.2 fun q hq=>h q (List.mem_range.1 hq)
theorem zls (lv:List Int) (n j:Nat) (hj:j<64):zh ((lv.drop (n * 64)).take 64) j=zh lv (n * 64+j):=by
 simp only [zh,List.getD,List.getElem?_take,List.getElem?_drop]
 rw [if_pos hj]
theorem ziS (lv:List Int) (n:Nat) (hl:lv.length=384) (hn:n<6):((lv.drop (n * 64)).take 64).length=64:=by simp;omega
theorem zup (m:Mb) (i:Nat) (H:za) (hi:H[i]? =some (mB m)) (hl:m.lv.length=384):CallOk Tryz.prog 207 [.ptr i 0 0] H (.bool (lvr m.lv)) H:=by
 obtain ⟨k,ua,ub,fp,fd,va,vb,vc,vd,ve,vf,vg,vh,sa,sb,sc,sd,dl,ca,cb,cc,cd,ce,cf,lv⟩:=m
 simp only [mB,mbc] at hi hl ⊢
 have hdrop:∀ n:Nat,List.drop (24+n * 64) (.int .i64 k:: .bool ua:: .bool ub:: .bool fp:: .bool fd:: .int .i64 va:: .int .i64 vb:: .int .i64 vc:: .int .i64 vd:: .int .i64 ve:: .int .i64 vf:: .int .i64 vg:: .int .i64 vh:: .int .i64 sa:: .int .i64 sb:: .int .i64 sc:: .int .i64 sd:: .int .i64 dl:: .bool ca:: .bool cb:: .bool cc:: .bool cd:: .bool ce:: .bool cf::is lv)=is (lv.drop (n * 64)):=fun n=>by
  rw [show 24+n * 64=n * 64+24 by omega]
  simp only [List.drop_succ_cons]
  exact zew _ _
 refine CallOk.body (F0:=[(0,.ptr i 0 0)]) Tryz.func207 rfl Tryz.ntmps207 Tryz.results207 rfl (by kernel_rfl) rfl ?_
 refine PW.e ?_;refine PW.e ?_
 (repeat refine PW.seq ?_);refine PW.block (PW.loop ?_)
 suffices hloop:∀ (n:Nat),n≤6→(∀ q,q<n * 64→win (zh lv q) 4095=true)→PL Tryz.prog _ _ [(0,.ptr i 0 0),(6,.int .i64 (n:Int))] H _ by
  exact PL.at [0,6] (hloop 0 (by omega) (fun q hq=>by omega)) rfl rfl
 intro n hn hq
 induction hm:6 - n using Nat.strongRecOn generalizing n with
 | _ m ih=>
  refine PL.round ?_;refine PW.e ?_
  (repeat refine PW.seq ?_);refine PW.cond (t:=_) rfl (fun h=> ?_) (fun h=> ?_)
  ·have h4:n<6:=by have:=of_decide_eq_true h;omega
   have hbl:=ziS lv n hl h4
   have hcel:=zU ((lv.drop (n * 64)).take 64)
   have hnx:=ih (6 - (n+1)) (by omega) (n+1) (by omega)
   refine PW.skip ?_
   (repeat refine PW.seq ?_);refine PW.block ?_
   refine PW.e ?_
   refine PW.f (fun K k=>by simp (disch:=omega) only [go_sem,↓reduceIte,reduceCtorEq,hi,hdrop,zdG,zt,hbl,hcel];exact k) ?_
   have hat:=zls lv n
   generalize (lv.drop (n * 64)).take 64=bl at *
   (repeat refine PW.seq ?_);refine PW.block (PW.loop ?_)
   clear ih
   suffices hloop:∀ (j:Nat),j≤64→(∀ q,q<n * 64+j→win (zh lv q) 4095=true)→PL Tryz.prog _ _ [(0,.ptr i 0 0),(6,.int .i64 (n:Int)),(14,.agg (is bl)),(15,.int .i64 (j:Int))] H _ by
    exact PL.at [0,6,14,15] (hloop 0 (by omega) (fun q hq'=>hq q (by omega))) rfl rfl
   intro j hj hq2
   induction hm2:64 - j using Nat.strongRecOn generalizing j with
   | _ m2 ih=>
    refine PL.round ?_;refine PW.e ?_
    (repeat refine PW.seq ?_);refine PW.cond (t:=_) rfl (fun h=> ?_) (fun h=> ?_)
    ·have h5:j<64:=by have:=of_decide_eq_true h;omega
     have hw:=fun H=>zdd (zh bl j) 4095 H (by omega)
     refine PW.skip ?_
     (repeat refine PW.seq ?_);refine PW.block ?_
     refine PW.f (fun K k=>by simp (disch:=omega) only [go_sem,↓reduceIte,reduceCtorEq,zbq,zt,hbl];exact k) ?_
     refine PW.f (fun K k=>by simp (disch:=omega) only [go_sem,↓reduceIte,reduceCtorEq];refine VCx.call (hw _) rfl ?_;simp (disch:=omega) only [go_sem,↓reduceIte,reduceCtorEq];exact k) ?_
     (repeat refine PW.seq ?_);refine PW.cond (t:=_) rfl (fun h=> ?_) (fun h=> ?_)
     ·have h6:win (zh bl j) 4095=false:=by simpa using h
      refine PW.e ?_
      refine PW.ret ⟨_,rfl,?_⟩
      rw [zuq (q:=n * 64+j) (by omega) (by rw [←hat j h5];exact h6)]
      exact Fin.now
     ·have h6:win (zh bl j) 4095=true:=by simpa using h
      refine PW.skip ?_
      refine PW.e ?_
      refine PL.at [0,6,14,15] (ih (64 - (j+1)) (by omega) (j+1) (by omega) (fun q hq'=> ?_) rfl) rfl rfl
      by_cases e:q=n * 64+j
      ·rw [e,←hat j h5];exact h6
      ·exact hq2 q (by omega)
    ·have h5:j=64:=by have:=of_decide_eq_false h;omega
     subst h5
     refine PW.exit ?_
     refine PW.e ?_
     exact PL.at [0,6] (hnx (fun q hq'=>hq2 q (by omega)) rfl) rfl rfl
  ·have h4:n=6:=by have:=of_decide_eq_false h;omega
   subst h4
   refine PW.exit ?_
   refine PW.e ?_
   refine PW.ret ⟨_,rfl,?_⟩
   rw [ziu (fun q hq'=>hq q (by omega))]
   exact Fin.now
def zbk (lv:List Int) (n:Nat):Bool:=(lv.drop (n * 64)).take 64==List.replicate 64 0
def cdl (m:Mb):List Bool:=[m.ca,m.cb,m.cc,m.cd,m.ce,m.cf]
def fbl (cs:List Bool) (lv:List Int):Bool:=(List.range 6).all fun n=>zaz cs n !=zbk lv n
theorem zuR {cs:List Bool} {lv:List Int} {q:Nat} (h:q<6) (hw:zaz cs q=zbk lv q):fbl cs lv=false:=by
 cases hc:fbl cs lv with
 | false=>rfl
 | true=>
  have:=List.all_eq_true.1 hc q (List.mem_range.2 h)
  rw [hw] at this;simp at this
theorem zmu {cs:List Bool} {lv:List Int} (h:∀ q,q<6→zaz cs q≠zbk lv q):fbl cs lv=true:=List.all_eq_true.2 fun q hq=>by
 have:=h q (List.mem_range.1 hq)
 simpa using this
theorem zuQ (m:Mb) (i:Nat) (H:za) (hi:H[i]? =some (mB m)) (hl:m.lv.length=384):CallOk Tryz.prog 209 [.ptr i 0 0] H (.bool (fbl (cdl m) m.lv)) H:=by
 obtain ⟨k,ua,ub,fp,fd,va,vb,vc,vd,ve,vf,vg,vh,sa,sb,sc,sd,dl,ca,cb,cc,cd,ce,cf,lv⟩:=m
 simp only [mB,mbc,cdl] at hi hl ⊢
 have hdrop:∀ n:Nat,List.drop (24+n * 64) (.int .i64 k:: .bool ua:: .bool ub:: .bool fp:: .bool fd:: .int .i64 va:: .int .i64 vb:: .int .i64 vc:: .int .i64 vd:: .int .i64 ve:: .int .i64 vf:: .int .i64 vg:: .int .i64 vh:: .int .i64 sa:: .int .i64 sb:: .int .i64 sc:: .int .i64 sd:: .int .i64 dl:: .bool ca:: .bool cb:: .bool cc:: .bool cd:: .bool ce:: .bool cf::is lv)=is (lv.drop (n * 64)):=fun n=>by
  rw [show 24+n * 64=n * 64+24 by omega]
  simp only [List.drop_succ_cons]
  exact zew _ _
 obtain ⟨cs,hcs⟩:∃ cs,cs=[ca,cb,cc,cd,ce,cf]:=⟨_,rfl⟩
 have hcl:cs.length=6:=by rw [hcs];rfl
 refine CallOk.body (F0:=[(0,.ptr i 0 0)]) Tryz.func209 rfl Tryz.ntmps209 Tryz.results209 rfl (by kernel_rfl) rfl ?_
 refine PW.e ?_;refine PW.f (fun K k=>by simp (disch:=omega) only [go_sem,↓reduceIte,reduceCtorEq,hi];exact k) ?_
 (repeat refine PW.seq ?_);refine PW.block (PW.loop ?_)
 rw [←hcs]
 suffices hloop:∀ (n:Nat),n≤6→(∀ q,q<n→zaz cs q≠zbk lv q)→PL Tryz.prog _ _ [(0,.ptr i 0 0),(8,.agg (fs cs)),(9,.int .i64 (n:Int))] H _ by
  exact PL.at [0,8,9] (hloop 0 (by omega) (fun q hq=>by omega)) (by rw [hcs];rfl) rfl
 clear hcs
 intro n hn hq
 induction hm:6 - n using Nat.strongRecOn generalizing n with
 | _ m ih=>
  refine PL.round ?_;refine PW.e ?_
  (repeat refine PW.seq ?_);refine PW.cond (t:=_) rfl (fun h=> ?_) (fun h=> ?_)
  ·have h4:n<6:=by have:=of_decide_eq_true h;omega
   have hbl:=ziS lv n hl h4
   have hcel:=zU ((lv.drop (n * 64)).take 64)
   have hnx:=ih (6 - (n+1)) (by omega) (n+1) (by omega)
   have hzb:zbk lv n=((lv.drop (n * 64)).take 64==List.replicate 64 0):=rfl
   refine PW.skip ?_
   (repeat refine PW.seq ?_);refine PW.block ?_
   refine PW.f (fun K k=>by simp (disch:=omega) only [go_sem,↓reduceIte,reduceCtorEq,zlb,zuF,hcl];exact k) ?_
   generalize hbb:(lv.drop (n * 64)).take 64=bl at *
   have hpq:zdP (.int .i64) (is bl) [.int .i64 0,.int .i64 0,.int .i64 0,.int .i64 0,.int .i64 0,.int .i64 0,.int .i64 0,.int .i64 0,.int .i64 0,.int .i64 0,.int .i64 0,.int .i64 0,.int .i64 0,.int .i64 0,.int .i64 0,.int .i64 0,.int .i64 0,.int .i64 0,.int .i64 0,.int .i64 0,.int .i64 0,.int .i64 0,.int .i64 0,.int .i64 0,.int .i64 0,.int .i64 0,.int .i64 0,.int .i64 0,.int .i64 0,.int .i64 0,.int .i64 0,.int .i64 0,.int .i64 0,.int .i64 0,.int .i64 0,.int .i64 0,.int .i64 0,.int .i64 0,.int .i64 0,.int .i64 0,.int .i64 0,.int .i64 0,.int .i64 0,.int .i64 0,.int .i64 0,.int .i64 0,.int .i64 0,.int .i64 0,.int .i64 0,.int .i64 0,.int .i64 0,.int .i64 0,.int .i64 0,.int .i64 0,.int .i64 0,.int .i64 0,.int .i64 0,.int .i64 0,.int .i64 0,.int .i64 0,.int .i64 0,.int .i64 0,.int .i64 0,.int .i64 0]=some (bl==List.replicate 64 0):=zfO .i64 bl (List.replicate 64 0) (by rw [hbl];simp)
   generalize (bl==List.replicate 64 0)=zz at *
   (repeat refine PW.seq ?_);refine PW.rg rfl fun K hK=> ?_;simp (disch:=omega) only [go_sem,↓reduceIte,reduceCtorEq,hi,hdrop,zdG,hbb,zt,hbl,hcel,hpq]
   refine hK _ _ ?_;clear hK K
   (repeat refine PW.seq ?_);refine PW.cond (t:=_) rfl (fun h=> ?_) (fun h=> ?_)
   ·have h6:zaz cs n=zz:=by simpa using h
    refine PW.e ?_
    refine PW.ret ⟨_,rfl,?_⟩
    rw [zuR h4 (by rw [hzb];exact h6)]
    exact Fin.now
   ·have h6:zaz cs n≠zz:=by simpa using h
    refine PW.skip ?_
    refine PW.e ?_
    refine PL.at [0,8,9] (hnx (fun q hq'=> ?_) rfl) rfl rfl
    by_cases e:q=n
    ·rw [e,hzb];exact h6
    ·exact hq q (by omega)
  ·have h4:n=6:=by have:=of_decide_eq_false h;omega
   subst h4
   refine PW.exit ?_
   refine PW.e ?_
   refine PW.ret ⟨_,rfl,?_⟩
   rw [zmu hq]
   exact Fin.now
def zch (c:Cx) (fp used:Bool) (a b d e p q:Int):Bool:=
 if used then vrg a b&&(vrg d e&&((decide (p=0)||decide (p=1))&&((decide (q=0)||decide (q=1))&&((fp||(decide (d=0)&&(decide (e=0)&&decide (q=0))))&&(fp||(fcx c||decide (p=0)))))))
 else decide (a=0)&&(decide (b=0)&&(decide (d=0)&&(decide (e=0)&&(decide (p=0)&&decide (q=0)))))
theorem zj2 (a b c d:Int):zdm Tryz.prog .eql 146 (.agg [.int .i64 a,.int .i64 b,.int .i64 c,.int .i64 d]) (.agg [.int .i64 0,.int .i64 0,.int .i64 0,.int .i64 0])=some (.bool (((a==0)&&((b==0)&&true))&&(((c==0)&&((d==0)&&true))&&true))):=by kernel_rfl
theorem neV (a b:Int):zdm Tryz.prog .neq 145 (.agg [.int .i64 a,.int .i64 b]) (.agg [.int .i64 0,.int .i64 0])=some (.bool !((a==0)&&((b==0)&&true))):=by kernel_rfl
theorem zj3 (a b:Int):zdm Tryz.prog .eql 148 (.agg [.int .i64 a,.int .i64 b]) (.agg [.int .i64 0,.int .i64 0])=some (.bool ((a==0)&&((b==0)&&true))):=by kernel_rfl
set_option maxHeartbeats 3200000 in
set_option maxRecDepth 10000 in
theorem zp9 (c:Cx) (m:Mb) (used:Bool) (i:Nat) (H:za) (hi:H[i]? =some (mB m)):CallOk Tryz.prog 286 [.agg (cxc c),.ptr i 0 0,.int .i64 0,.bool used] H (.bool (zch c m.fp used m.va m.vb m.vc m.vd m.sa m.sb)) H:=by
 have hil:i<H.length:=(List.getElem?_eq_some_iff.1 hi).1
 have hso:=fun K=>zky c m i (H++K) (zY hi)
 obtain ⟨k,ua,ub,fp,fd,va,vb,vc,vd,ve,vf,vg,vh,sa,sb,sc,sd,dl,ca,cb,cc,cd,ce,cf,lv⟩:=m
 simp only [mB,mbc] at hi ⊢
 have hx:=fun K=>zY (K:=K) hi
 generalize hr:zch c fp used va vb vc vd sa sb=r
 simp only [zch] at hr
 simp only at hso
 generalize fcx c=ff at hso hr
 obtain ⟨t,s,ii,n⟩:=c
 have dX : decide ("X" = "_") = false := by decide
 have dY : decide ("Y" = "_") = false := by decide
 have q1:=fun H=>zga va vb H
 have q2:=fun H=>zga vc vd H
 generalize vrg va vb=r1 at q1 hr
 generalize vrg vc vd=r2 at q2 hr
 refine CallOk.body (F0:=[(0,.agg [.int .i64 t,.int .i64 s,.bool ii,.bool n]),(1,.ptr i 0 0),(2,.int .i64 0),(3,.bool used)]) Tryz.func286 rfl Tryz.ntmps286 Tryz.results286 rfl (by kernel_rfl) rfl ?_
 refine PW.e ?_
 (repeat refine PW.seq ?_)
 refine PW.view (Vs.place 146) (PW.view (Vs.place 148) ?_)
 (repeat refine PW.seq ?_);refine PW.drawi [H.length+1,H.length+2,i] [(9,[0]),(10,[1]),(1,[2]),(12,[2]),(13,[2]),(14,[2]),(15,[2]),(16,[2]),(17,[2]),(18,[2]),(19,[2]),(20,[2]),(21,[2]),(22,[2]),(23,[2])] [(9,0),(10,1)] [] mix (by kernel_rfl) (by simp<;>omega) fun K hK=> ?_
 simp (disch:=omega) only [go_sem,↓reduceIte,reduceCtorEq,hx]
 refine hK _ _ ?_;clear hK K
 refine PW.e ?_
 (repeat refine PW.seq ?_);refine PW.cond (t:=_) rfl (fun h=> ?_) (fun h=> ?_)
 ·have hu:used=false:=by simpa using h
  subst hu
  (repeat refine PW.seq ?_);refine PW.rg rfl fun K hK=> ?_;simp (disch:=omega) only [go_sem,↓reduceIte,reduceCtorEq,↓zj2,↓neV,↓zj3]
  (repeat' ((first|refine zj ?_ ?_|refine zn ?_ ?_|refine zN ?_ ?_|refine VOh_cond ?_ ?_|refine zM ?_ ?_|refine And.intro ?_ ?_)<;>intro h<;>(try simp only [nqb] at h)<;>simp (disch:=omega) only [go_sem,↓reduceIte,reduceCtorEq,↓zj2,↓neV,↓zj3,h]))
  all_goals (refine hK _ _ ?_;(refine PW.ret ⟨_,rfl,?_⟩;first|refine .inl ⟨?_,rfl⟩|refine Fin.base (.id' ?_ (.bool _))|refine Fin.base (.id' ?_ (.int _ _)));clear hK q1 q2 hso hi hx;subst hr;(simp_all [slot,Nat.beq]<;>first|rfl|omega|(rw [Bool.eq_iff_iff];simp;done)|(rw [Bool.eq_iff_iff];simp;omega)))
 have hu:used=true:=by simpa using h
 subst hu
 refine PW.skip ?_
 (repeat refine PW.seq ?_)
 refine PW.rgv (P:=Tryz.prog) [1,4,9,10] 49 (.bool (!fp&&(!(decide (vc=0)&&decide (vd=0))|| !decide (sb=0)))) ?_ ?_ ?_
 ·rfl
 ·simp (disch:=omega) only [go_sem,↓reduceIte,reduceCtorEq,hx,↓zj2,↓neV,↓zj3]
  (repeat' ((first|refine zj ?_ ?_|refine zn ?_ ?_|refine zN ?_ ?_|refine VOh_cond ?_ ?_|refine zM ?_ ?_|refine And.intro ?_ ?_)<;>intro h<;>(try simp only [nqb] at h)<;>simp (disch:=omega) only [go_sem,↓reduceIte,reduceCtorEq,hx,↓zj2,↓neV,↓zj3,h]))
  all_goals (clear q1 q2 hso hi hx hr;(simp_all [slot,Nat.beq]<;>first|rfl|omega|(rw [Bool.eq_iff_iff];simp;done)|(rw [Bool.eq_iff_iff];simp;omega)))
 (repeat refine PW.seq ?_);refine PW.cond (t:=_) rfl (fun h=> ?_) (fun h=> ?_)
 ·refine PW.e ?_
  (refine PW.ret ⟨_,rfl,?_⟩;first|refine .inl ⟨?_,rfl⟩|refine Fin.base (.id' ?_ (.bool _))|refine Fin.base (.id' ?_ (.int _ _)))
  clear q1 q2 hso hi hx;subst hr;(simp_all [slot,Nat.beq]<;>first|rfl|omega|(rw [Bool.eq_iff_iff];simp;done)|(rw [Bool.eq_iff_iff];simp;omega))
 refine PW.skip ?_
 (repeat refine PW.seq ?_)
 refine PW.rgv (P:=Tryz.prog) [9,10] 58 (.bool (!(fp||ff)&& !decide (sa=0))) ?_ ?_ ?_
 ·rfl
 ·simp (disch:=omega) only [go_sem,↓reduceIte,reduceCtorEq]
  (repeat' (first|((first|refine zj ?_ ?_|refine And.intro ?_ ?_)<;>intro h<;>(try simp only [nqb] at h)<;>simp (disch:=omega) only [go_sem,↓reduceIte,reduceCtorEq,hx,h])|((first|refine VCx.call (hso _) rfl ?_);simp (disch:=omega) only [go_sem,↓reduceIte,reduceCtorEq,hx])))
  all_goals (clear q1 q2 hso hi hx hr;(simp_all [slot,Nat.beq]<;>first|rfl|omega|(rw [Bool.eq_iff_iff];simp;done)|(rw [Bool.eq_iff_iff];simp;omega)))
 (repeat refine PW.seq ?_);refine PW.cond (t:=_) rfl (fun h=> ?_) (fun h=> ?_)
 ·refine PW.e ?_
  (refine PW.ret ⟨_,rfl,?_⟩;first|refine .inl ⟨?_,rfl⟩|refine Fin.base (.id' ?_ (.bool _))|refine Fin.base (.id' ?_ (.int _ _)))
  clear q1 q2 hso hi hx;subst hr;(simp_all [slot,Nat.beq]<;>first|rfl|omega|(rw [Bool.eq_iff_iff];simp;done)|(rw [Bool.eq_iff_iff];simp;omega))
 refine PW.skip ?_
 refine PW.e ?_
 (repeat refine PW.seq ?_);refine PW.block (PW.loop ?_)
 have hr9:r=(r1&&(r2&&((decide (sa=0)||decide (sa=1))&&(decide (sb=0)||decide (sb=1))))):=by
  rename_i hz1 hz2
  clear q1 q2 hso hi hx
  subst hr
  cases fp<;>cases ff<;>simp_all
 suffices h1:(r1&&(decide (sa=0)||decide (sa=1)))=true→PL Tryz.prog _ _ [(9,.ptr (H.length+1) 1 0),(10,.ptr (H.length+2) 1 0),(59,.int .i64 1)] (H++[⟨157,0,[.int .i64 t,.int .i64 s,.bool ii,.bool n]⟩,⟨146,1,[.int .i64 va,.int .i64 vb,.int .i64 vc,.int .i64 vd]⟩,⟨148,1,[.int .i64 sa,.int .i64 sb]⟩]) _ by
  refine PL.round ?_;refine PW.e ?_
  (repeat refine PW.seq ?_);refine PW.cond (t:=_) rfl (fun h=> ?_) (fun h=> ?_)
  ·refine PW.skip ?_
   (repeat refine PW.seq ?_);refine PW.block ?_
   refine PW.e ?_
   (repeat refine PW.seq ?_)
   refine PW.rgv (P:=Tryz.prog) [9,10,59] 78 (.bool (!(r1&&(decide (sa=0)||decide (sa=1))))) ?_ ?_ ?_
   ·rfl
   rotate_left
   ·(repeat refine PW.seq ?_);refine PW.cond (t:=_) rfl (fun h=> ?_) (fun h=> ?_)
    rotate_left
    ·have hb:(r1&&(decide (sa=0)||decide (sa=1)))=true:=by simpa only [Bool.not_eq_false'] using h
     refine PW.skip ?_
     refine PW.e ?_
     exact PL.at [9,10,59] (h1 hb) rfl rfl
    ·have hb:(r1&&(decide (sa=0)||decide (sa=1)))=false:=by simpa only [Bool.not_eq_true'] using h
     refine PW.e ?_
     (refine PW.ret ⟨_,rfl,?_⟩;first|refine .inl ⟨?_,rfl⟩|refine Fin.base (.id' ?_ (.bool _))|refine Fin.base (.id' ?_ (.int _ _)))
     rw [hr9]
     clear h1 q1 q2 hso hi hx hr hr9
     cases r1<;>simp_all [slot,Nat.beq]
   ·clear h1
    cases r1<;>simp (disch:=omega) only [go_sem,↓reduceIte,reduceCtorEq]<;>(repeat' (first|((first|refine zj ?_ ?_|refine And.intro ?_ ?_)<;>intro h<;>(try simp only [nqb] at h)<;>simp (disch:=omega) only [go_sem,↓reduceIte,reduceCtorEq,h])|((first|refine VCx.call (q1 _) rfl ?_);simp (disch:=omega) only [go_sem,↓reduceIte,reduceCtorEq])))
    all_goals (clear q1 q2 hso hi hx hr hr9;(simp_all [slot,Nat.beq]<;>first|rfl|omega|(rw [Bool.eq_iff_iff];simp;done)|(rw [Bool.eq_iff_iff];simp;omega)))
  ·cases h
 intro hb1
 refine PL.round ?_;refine PW.e ?_
 (repeat refine PW.seq ?_);refine PW.cond (t:=_) rfl (fun h=> ?_) (fun h=> ?_)
 ·refine PW.skip ?_
  (repeat refine PW.seq ?_);refine PW.block ?_
  refine PW.e ?_
  (repeat refine PW.seq ?_)
  refine PW.rgv (P:=Tryz.prog) [9,10,59] 78 (.bool (!(r2&&(decide (sb=0)||decide (sb=1))))) ?_ ?_ ?_
  ·rfl
  ·cases r2<;>simp (disch:=omega) only [go_sem,↓reduceIte,reduceCtorEq]<;>(repeat' (first|((first|refine zj ?_ ?_|refine And.intro ?_ ?_)<;>intro h<;>(try simp only [nqb] at h)<;>simp (disch:=omega) only [go_sem,↓reduceIte,reduceCtorEq,h])|((first|refine VCx.call (q2 _) rfl ?_);simp (disch:=omega) only [go_sem,↓reduceIte,reduceCtorEq])))
   all_goals (clear q1 q2 hso hi hx hr hr9;(simp_all [slot,Nat.beq]<;>first|rfl|omega|(rw [Bool.eq_iff_iff];simp;done)|(rw [Bool.eq_iff_iff];simp;omega)))
  (repeat refine PW.seq ?_);refine PW.cond (t:=_) rfl (fun h=> ?_) (fun h=> ?_)
  ·have hb:(r2&&(decide (sb=0)||decide (sb=1)))=false:=by simpa only [Bool.not_eq_true'] using h
   refine PW.e ?_
   (refine PW.ret ⟨_,rfl,?_⟩;first|refine .inl ⟨?_,rfl⟩|refine Fin.base (.id' ?_ (.bool _))|refine Fin.base (.id' ?_ (.int _ _)))
   rw [hr9]
   clear q1 q2 hso hi hx hr hr9
   cases r1<;>cases r2<;>simp_all [slot,Nat.beq]
  ·have hb:(r2&&(decide (sb=0)||decide (sb=1)))=true:=by simpa only [Bool.not_eq_false'] using h
   refine PW.skip ?_
   refine PW.e ?_
   refine PL.round ?_;refine PW.e ?_
   refine PW.u ?_
   refine PW.exit ?_
   refine PW.e ?_
   (refine PW.ret ⟨_,rfl,?_⟩;first|refine .inl ⟨?_,rfl⟩|refine Fin.base (.id' ?_ (.bool _))|refine Fin.base (.id' ?_ (.int _ _)))
   rw [hr9]
   clear q1 q2 hso hi hx hr hr9
   cases r1<;>cases r2<;>simp_all [slot,Nat.beq]
 ·cases h
set_option maxHeartbeats 3200000 in
set_option maxRecDepth 10000 in
theorem zp8 (c:Cx) (m:Mb) (used:Bool) (i:Nat) (H:za) (hi:H[i]? =some (mB m)):CallOk Tryz.prog 286 [.agg (cxc c),.ptr i 0 0,.int .i64 1,.bool used] H (.bool (zch c m.fp used m.ve m.vf m.vg m.vh m.sc m.sd)) H:=by
 have hil:i<H.length:=(List.getElem?_eq_some_iff.1 hi).1
 have hso:=fun K=>zky c m i (H++K) (zY hi)
 obtain ⟨k,ua,ub,fp,fd,va,vb,vc,vd,ve,vf,vg,vh,sa,sb,sc,sd,dl,ca,cb,cc,cd,ce,cf,lv⟩:=m
 simp only [mB,mbc] at hi ⊢
 have hx:=fun K=>zY (K:=K) hi
 generalize hr:zch c fp used ve vf vg vh sc sd=r
 simp only [zch] at hr
 simp only at hso
 generalize fcx c=ff at hso hr
 obtain ⟨t,s,ii,n⟩:=c
 have dX : decide ("X" = "_") = false := by decide
 have dY : decide ("Y" = "_") = false := by decide
 have q1:=fun H=>zga ve vf H
 have q2:=fun H=>zga vg vh H
 generalize vrg ve vf=r1 at q1 hr
 generalize vrg vg vh=r2 at q2 hr
 refine CallOk.body (F0:=[(0,.agg [.int .i64 t,.int .i64 s,.bool ii,.bool n]),(1,.ptr i 0 0),(2,.int .i64 1),(3,.bool used)]) Tryz.func286 rfl Tryz.ntmps286 Tryz.results286 rfl (by kernel_rfl) rfl ?_
 refine PW.e ?_
 (repeat refine PW.seq ?_)
 refine PW.view (Vs.place 146) (PW.view (Vs.place 148) ?_)
 (repeat refine PW.seq ?_);refine PW.drawi [H.length+1,H.length+2,i] [(9,[0]),(10,[1]),(1,[2]),(12,[2]),(13,[2]),(14,[2]),(15,[2]),(16,[2]),(17,[2]),(18,[2]),(19,[2]),(20,[2]),(21,[2]),(22,[2]),(23,[2])] [(9,0),(10,1)] [] mix (by kernel_rfl) (by simp<;>omega) fun K hK=> ?_
 simp (disch:=omega) only [go_sem,↓reduceIte,reduceCtorEq,hx]
 refine hK _ _ ?_;clear hK K
 refine PW.e ?_
 (repeat refine PW.seq ?_);refine PW.cond (t:=_) rfl (fun h=> ?_) (fun h=> ?_)
 ·have hu:used=false:=by simpa using h
  subst hu
  (repeat refine PW.seq ?_);refine PW.rg rfl fun K hK=> ?_;simp (disch:=omega) only [go_sem,↓reduceIte,reduceCtorEq,↓zj2,↓neV,↓zj3]
  (repeat' ((first|refine zj ?_ ?_|refine zn ?_ ?_|refine zN ?_ ?_|refine VOh_cond ?_ ?_|refine zM ?_ ?_|refine And.intro ?_ ?_)<;>intro h<;>(try simp only [nqb] at h)<;>simp (disch:=omega) only [go_sem,↓reduceIte,reduceCtorEq,↓zj2,↓neV,↓zj3,h]))
  all_goals (refine hK _ _ ?_;(refine PW.ret ⟨_,rfl,?_⟩;first|refine .inl ⟨?_,rfl⟩|refine Fin.base (.id' ?_ (.bool _))|refine Fin.base (.id' ?_ (.int _ _)));clear hK q1 q2 hso hi hx;subst hr;(simp_all [slot,Nat.beq]<;>first|rfl|omega|(rw [Bool.eq_iff_iff];simp;done)|(rw [Bool.eq_iff_iff];simp;omega)))
 have hu:used=true:=by simpa using h
 subst hu
 refine PW.skip ?_
 (repeat refine PW.seq ?_)
 refine PW.rgv (P:=Tryz.prog) [1,4,9,10] 49 (.bool (!fp&&(!(decide (vg=0)&&decide (vh=0))|| !decide (sd=0)))) ?_ ?_ ?_
 ·rfl
 ·simp (disch:=omega) only [go_sem,↓reduceIte,reduceCtorEq,hx,↓zj2,↓neV,↓zj3]
  (repeat' ((first|refine zj ?_ ?_|refine zn ?_ ?_|refine zN ?_ ?_|refine VOh_cond ?_ ?_|refine zM ?_ ?_|refine And.intro ?_ ?_)<;>intro h<;>(try simp only [nqb] at h)<;>simp (disch:=omega) only [go_sem,↓reduceIte,reduceCtorEq,hx,↓zj2,↓neV,↓zj3,h]))
  all_goals (clear q1 q2 hso hi hx hr;(simp_all [slot,Nat.beq]<;>first|rfl|omega|(rw [Bool.eq_iff_iff];simp;done)|(rw [Bool.eq_iff_iff];simp;omega)))
 (repeat refine PW.seq ?_);refine PW.cond (t:=_) rfl (fun h=> ?_) (fun h=> ?_)
 ·refine PW.e ?_
  (refine PW.ret ⟨_,rfl,?_⟩;first|refine .inl ⟨?_,rfl⟩|refine Fin.base (.id' ?_ (.bool _))|refine Fin.base (.id' ?_ (.int _ _)))
  clear q1 q2 hso hi hx;subst hr;(simp_all [slot,Nat.beq]<;>first|rfl|omega|(rw [Bool.eq_iff_iff];simp;done)|(rw [Bool.eq_iff_iff];simp;omega))
 refine PW.skip ?_
 (repeat refine PW.seq ?_)
 refine PW.rgv (P:=Tryz.prog) [9,10] 58 (.bool (!(fp||ff)&& !decide (sc=0))) ?_ ?_ ?_
 ·rfl
 ·simp (disch:=omega) only [go_sem,↓reduceIte,reduceCtorEq]
  (repeat' (first|((first|refine zj ?_ ?_|refine And.intro ?_ ?_)<;>intro h<;>(try simp only [nqb] at h)<;>simp (disch:=omega) only [go_sem,↓reduceIte,reduceCtorEq,hx,h])|((first|refine VCx.call (hso _) rfl ?_);simp (disch:=omega) only [go_sem,↓reduceIte,reduceCtorEq,hx])))
  all_goals (clear q1 q2 hso hi hx hr;(simp_all [slot,Nat.beq]<;>first|rfl|omega|(rw [Bool.eq_iff_iff];simp;done)|(rw [Bool.eq_iff_iff];simp;omega)))
 (repeat refine PW.seq ?_);refine PW.cond (t:=_) rfl (fun h=> ?_) (fun h=> ?_)
 ·refine PW.e ?_
  (refine PW.ret ⟨_,rfl,?_⟩;first|refine .inl ⟨?_,rfl⟩|refine Fin.base (.id' ?_ (.bool _))|refine Fin.base (.id' ?_ (.int _ _)))
  clear q1 q2 hso hi hx;subst hr;(simp_all [slot,Nat.beq]<;>first|rfl|omega|(rw [Bool.eq_iff_iff];simp;done)|(rw [Bool.eq_iff_iff];simp;omega))
 refine PW.skip ?_
 refine PW.e ?_
 (repeat refine PW.seq ?_);refine PW.block (PW.loop ?_)
 have hr9:r=(r1&&(r2&&((decide (sc=0)||decide (sc=1))&&(decide (sd=0)||decide (sd=1))))):=by
  rename_i hz1 hz2
  clear q1 q2 hso hi hx
  subst hr
  cases fp<;>cases ff<;>simp_all
 suffices h1:(r1&&(decide (sc=0)||decide (sc=1)))=true→PL Tryz.prog _ _ [(9,.ptr (H.length+1) 1 0),(10,.ptr (H.length+2) 1 0),(59,.int .i64 1)] (H++[⟨157,0,[.int .i64 t,.int .i64 s,.bool ii,.bool n]⟩,⟨146,1,[.int .i64 ve,.int .i64 vf,.int .i64 vg,.int .i64 vh]⟩,⟨148,1,[.int .i64 sc,.int .i64 sd]⟩]) _ by
  refine PL.round ?_;refine PW.e ?_
  (repeat refine PW.seq ?_);refine PW.cond (t:=_) rfl (fun h=> ?_) (fun h=> ?_)
  ·refine PW.skip ?_
   (repeat refine PW.seq ?_);refine PW.block ?_
   refine PW.e ?_
   (repeat refine PW.seq ?_)
   refine PW.rgv (P:=Tryz.prog) [9,10,59] 78 (.bool (!(r1&&(decide (sc=0)||decide (sc=1))))) ?_ ?_ ?_
   ·rfl
   rotate_left
   ·(repeat refine PW.seq ?_);refine PW.cond (t:=_) rfl (fun h=> ?_) (fun h=> ?_)
    rotate_left
    ·have hb:(r1&&(decide (sc=0)||decide (sc=1)))=true:=by simpa only [Bool.not_eq_false'] using h
     refine PW.skip ?_
     refine PW.e ?_
     exact PL.at [9,10,59] (h1 hb) rfl rfl
    ·have hb:(r1&&(decide (sc=0)||decide (sc=1)))=false:=by simpa only [Bool.not_eq_true'] using h
     refine PW.e ?_
     (refine PW.ret ⟨_,rfl,?_⟩;first|refine .inl ⟨?_,rfl⟩|refine Fin.base (.id' ?_ (.bool _))|refine Fin.base (.id' ?_ (.int _ _)))
     rw [hr9]
     clear h1 q1 q2 hso hi hx hr hr9
     cases r1<;>simp_all [slot,Nat.beq]
   ·clear h1
    cases r1<;>simp (disch:=omega) only [go_sem,↓reduceIte,reduceCtorEq]<;>(repeat' (first|((first|refine zj ?_ ?_|refine And.intro ?_ ?_)<;>intro h<;>(try simp only [nqb] at h)<;>simp (disch:=omega) only [go_sem,↓reduceIte,reduceCtorEq,h])|((first|refine VCx.call (q1 _) rfl ?_);simp (disch:=omega) only [go_sem,↓reduceIte,reduceCtorEq])))
    all_goals (clear q1 q2 hso hi hx hr hr9;(simp_all [slot,Nat.beq]<;>first|rfl|omega|(rw [Bool.eq_iff_iff];simp;done)|(rw [Bool.eq_iff_iff];simp;omega)))
  ·cases h
 intro hb1
 refine PL.round ?_;refine PW.e ?_
 (repeat refine PW.seq ?_);refine PW.cond (t:=_) rfl (fun h=> ?_) (fun h=> ?_)
 ·refine PW.skip ?_
  (repeat refine PW.seq ?_);refine PW.block ?_
  refine PW.e ?_
  (repeat refine PW.seq ?_)
  refine PW.rgv (P:=Tryz.prog) [9,10,59] 78 (.bool (!(r2&&(decide (sd=0)||decide (sd=1))))) ?_ ?_ ?_
  ·rfl
  ·cases r2<;>simp (disch:=omega) only [go_sem,↓reduceIte,reduceCtorEq]<;>(repeat' (first|((first|refine zj ?_ ?_|refine And.intro ?_ ?_)<;>intro h<;>(try simp only [nqb] at h)<;>simp (disch:=omega) only [go_sem,↓reduceIte,reduceCtorEq,h])|((first|refine VCx.call (q2 _) rfl ?_);simp (disch:=omega) only [go_sem,↓reduceIte,reduceCtorEq])))
   all_goals (clear q1 q2 hso hi hx hr hr9;(simp_all [slot,Nat.beq]<;>first|rfl|omega|(rw [Bool.eq_iff_iff];simp;done)|(rw [Bool.eq_iff_iff];simp;omega)))
  (repeat refine PW.seq ?_);refine PW.cond (t:=_) rfl (fun h=> ?_) (fun h=> ?_)
  ·have hb:(r2&&(decide (sd=0)||decide (sd=1)))=false:=by simpa only [Bool.not_eq_true'] using h
   refine PW.e ?_
   (refine PW.ret ⟨_,rfl,?_⟩;first|refine .inl ⟨?_,rfl⟩|refine Fin.base (.id' ?_ (.bool _))|refine Fin.base (.id' ?_ (.int _ _)))
   rw [hr9]
   clear q1 q2 hso hi hx hr hr9
   cases r1<;>cases r2<;>simp_all [slot,Nat.beq]
  ·have hb:(r2&&(decide (sd=0)||decide (sd=1)))=true:=by simpa only [Bool.not_eq_false'] using h
   refine PW.skip ?_
   refine PW.e ?_
   refine PL.round ?_;refine PW.e ?_
   refine PW.u ?_
   refine PW.exit ?_
   refine PW.e ?_
   (refine PW.ret ⟨_,rfl,?_⟩;first|refine .inl ⟨?_,rfl⟩|refine Fin.base (.id' ?_ (.bool _))|refine Fin.base (.id' ?_ (.int _ _)))
   rw [hr9]
   clear q1 q2 hso hi hx hr hr9
   cases r1<;>cases r2<;>simp_all [slot,Nat.beq]
 ·cases h
def zgc (c:Cx) (m:Mb):Bool:=(decide (c.t=2)&& !(m.ua&& !m.ub))||(!m.ua&& !m.ub)
def d0S (c:Cx) (m:Mb):Bool:=zch c m.fp m.ua m.va m.vb m.vc m.vd m.sa m.sb
def d1S (c:Cx) (m:Mb):Bool:=zch c m.fp m.ub m.ve m.vf m.vg m.vh m.sc m.sd
def znp (c:Cx) (m:Mb):Bool:= !(zgc c m)&&(!(m.fp&& !(bcx c))&&(d0S c m&&d1S c m))
set_option maxHeartbeats 3200000 in
set_option maxRecDepth 10000 in
theorem zsb (c:Cx) (m:Mb) (i:Nat) (H:za) (hi:H[i]? =some (mB m)):CallOk Tryz.prog 208 [.agg (cxc c),.ptr i 0 0] H (.bool (znp c m)) H:=by
 have f0:=fun K=>zp9 c m m.ua i (H++K) (zY hi)
 have f1:=fun K=>zp8 c m m.ub i (H++K) (zY hi)
 have bo:=fun H=>ziT c H
 have hr:znp c m=(!(zgc c m)&&(!(m.fp&& !(bcx c))&&(d0S c m&&d1S c m))):=rfl
 have hub:zgc c m=((decide (c.t=2)&& !(m.ua&& !m.ub))||(!m.ua&& !m.ub)):=rfl
 change ∀ K,CallOk _ _ _ _ (.bool (d0S c m)) _ at f0
 change ∀ K,CallOk _ _ _ _ (.bool (d1S c m)) _ at f1
 generalize znp c m=r at hr ⊢
 generalize d0S c m=e0 at f0 hr
 generalize d1S c m=e1 at f1 hr
 generalize zgc c m=ux at hub hr
 generalize bcx c=bk at bo hr
 obtain ⟨k,ua,ub,fp,fd,va,vb,vc,vd,ve,vf,vg,vh,sa,sb,sc,sd,dl,ca,cb,cc,cd,ce,cf,lv⟩:=m
 obtain ⟨t,s,ii,n⟩:=c
 simp only [mB,mbc] at hi hr hub f0 f1
 have hx:=fun K=>zY (K:=K) hi
 refine CallOk.body (F0:=[(0,.agg [.int .i64 t,.int .i64 s,.bool ii,.bool n]),(1,.ptr i 0 0)]) Tryz.func208 rfl Tryz.ntmps208 Tryz.results208 rfl (by kernel_rfl) rfl ?_
 refine PW.e ?_
 (repeat refine PW.seq ?_)
 refine PW.rgv (P:=Tryz.prog) [1,2] 25 (.bool ux) ?_ ?_ ?_
 ·rfl
 ·simp (disch:=omega) only [go_sem,↓reduceIte,reduceCtorEq,hx]
  (repeat' ((first|refine zj ?_ ?_|refine zn ?_ ?_|refine zN ?_ ?_|refine VOh_cond ?_ ?_|refine zM ?_ ?_|refine And.intro ?_ ?_)<;>intro h<;>(try simp only [nqb] at h)<;>simp (disch:=omega) only [go_sem,↓reduceIte,reduceCtorEq,hx,h]))
  all_goals (clear f0 f1 bo hi hx hr;cases ua<;>cases ub<;>(simp_all [slot,Nat.beq]<;>first|rfl|omega|(rw [Bool.eq_iff_iff];simp;done)|(rw [Bool.eq_iff_iff];simp;omega)))
 (repeat refine PW.seq ?_);refine PW.cond (t:=_) rfl (fun h=> ?_) (fun h=> ?_)
 ·subst h
  refine PW.e ?_
  (refine PW.ret ⟨_,rfl,?_⟩;first|refine .inl ⟨?_,rfl⟩|refine Fin.base (.id' ?_ (.bool _))|refine Fin.base (.id' ?_ (.int _ _)))
  rw [hr];rfl
 subst h
 refine PW.skip ?_
 (repeat refine PW.seq ?_)
 refine PW.rgv (P:=Tryz.prog) [1,2] 34 (.bool (fp&& !bk)) ?_ ?_ ?_
 ·rfl
 ·simp (disch:=omega) only [go_sem,↓reduceIte,reduceCtorEq,hx]
  (repeat' (first|((first|refine zj ?_ ?_|refine And.intro ?_ ?_)<;>intro h<;>(try simp only [nqb] at h)<;>simp (disch:=omega) only [go_sem,↓reduceIte,reduceCtorEq,hx,h])|((first|refine VCx.call (bo _) rfl ?_);simp (disch:=omega) only [go_sem,↓reduceIte,reduceCtorEq,hx])))
  all_goals (clear f0 f1 bo hi hx hr;(simp_all [slot,Nat.beq]<;>first|rfl|omega|(rw [Bool.eq_iff_iff];simp;done)|(rw [Bool.eq_iff_iff];simp;omega)))
 (repeat refine PW.seq ?_);refine PW.cond (t:=_) rfl (fun h=> ?_) (fun h=> ?_)
 ·refine PW.e ?_
  (refine PW.ret ⟨_,rfl,?_⟩;first|refine .inl ⟨?_,rfl⟩|refine Fin.base (.id' ?_ (.bool _))|refine Fin.base (.id' ?_ (.int _ _)))
  rw [hr,h];rfl
 rw [h] at hr
 refine PW.skip ?_
 refine PW.f (fun K k=>by simp (disch:=omega) only [go_sem,↓reduceIte,reduceCtorEq,hx];exact k) ?_
 (repeat refine PW.seq ?_);refine PW.block (PW.loop ?_)
 refine PL.round ?_;refine PW.e ?_
 refine PW.t ?_
 refine PW.skip ?_
 (repeat refine PW.seq ?_);refine PW.block ?_
 refine PW.e ?_
 refine PW.f (fun K k=>by simp (disch:=omega) only [go_sem,↓reduceIte,reduceCtorEq];refine VCx.call (f0 _) rfl ?_;simp (disch:=omega) only [go_sem,↓reduceIte,reduceCtorEq];exact k) ?_
 (repeat refine PW.seq ?_);refine PW.cond (t:=_) rfl (fun h=> ?_) (fun h=> ?_)
 ·have he:e0=false:=by simpa using h
  refine PW.e ?_
  (refine PW.ret ⟨_,rfl,?_⟩;first|refine .inl ⟨?_,rfl⟩|refine Fin.base (.id' ?_ (.bool _))|refine Fin.base (.id' ?_ (.int _ _)))
  rw [hr,he];rfl
 have he:e0=true:=by simpa using h
 refine PW.skip ?_
 refine PW.e ?_
 refine PL.round ?_;refine PW.e ?_
 refine PW.t ?_
 refine PW.skip ?_
 (repeat refine PW.seq ?_);refine PW.block ?_
 refine PW.e ?_
 refine PW.f (fun K k=>by simp (disch:=omega) only [go_sem,↓reduceIte,reduceCtorEq];refine VCx.call (f1 _) rfl ?_;simp (disch:=omega) only [go_sem,↓reduceIte,reduceCtorEq];exact k) ?_
 (repeat refine PW.seq ?_);refine PW.cond (t:=_) rfl (fun h=> ?_) (fun h=> ?_)
 ·have he1:e1=false:=by simpa using h
  refine PW.e ?_
  (refine PW.ret ⟨_,rfl,?_⟩;first|refine .inl ⟨?_,rfl⟩|refine Fin.base (.id' ?_ (.bool _))|refine Fin.base (.id' ?_ (.int _ _)))
  rw [hr,he,he1];rfl
 have he1:e1=true:=by simpa using h
 refine PW.skip ?_
 refine PW.e ?_
 refine PL.round ?_;refine PW.e ?_
 refine PW.u ?_
 refine PW.exit ?_
 refine PW.e ?_
 (refine PW.ret ⟨_,rfl,?_⟩;first|refine .inl ⟨?_,rfl⟩|refine Fin.base (.id' ?_ (.bool _))|refine Fin.base (.id' ?_ (.int _ _)))
 rw [hr,he,he1];rfl
def ziy (c:Cx) (m:Mb):Bool:= !(decide (c.t=1)||zgc c m)&&(!((m.fp&& !(bcx c))||(m.fd&& !(bcx c)))&&(d0S c m&&(d1S c m&&(lvr m.lv&&(fbl (cdl m) m.lv&&(if hlM m then win m.dl 30 else !m.fd&&decide (m.dl=0)))))))
end Go.Proofs.YtjgmdlcjbgiekaaGreatDoor.Sc
