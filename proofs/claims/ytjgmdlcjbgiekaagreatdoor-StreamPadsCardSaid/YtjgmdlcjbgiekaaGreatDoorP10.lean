/-
  Parts of the proof, put together in one text. No condition.
-/
import Derived.Test.YtjgmdlcjbgiekaaGreatDoorP09
import Derived.WalkSmall
import Derived.Laws.Build
namespace Go.Proofs.YtjgmdlcjbgiekaaGreatDoor.Sc
set_option linter.all false
open Pm Ty Go.RowKit
theorem opMb (F:Nat→PV) (H:za):pop Tryz.prog (.build 154 #[]) F H=some (.agg zmv,H):=by
 show (zdX Tryz.prog 154 []).map (fun v=>(v,H))=_
 rw [zu9];rfl
theorem zvQ (ds:List (Option Nat)) (d:Option Nat) (t:TypeId) (a:Array Edge) (g:Option (Nat×Bool)) (p:String) (F:Fr) (H:za):stp Tryz.prog ds { op:=.build 154 #[],dst:=d,type:=t,after:=a,guard:=g,pos:=p } F H=match zad ds F { op:=.build 154 #[],dst:=d,type:=t,after:=a,guard:=g,pos:=p } with
  | none=>none
  | some b=>cond b (some (put F d (.agg zmv),H)) (some (put F d (.tup []),H)):=by
 rw [zob,opMb];rfl
theorem eqB2 (a b:Bool):zdi Tryz.prog .eql 143 (.agg [.bool a,.bool b]) (.agg [.bool false,.bool false])=some (.bool ((a==false)&&((b==false)&&true))):=by kernel_rfl
theorem eqB6 (a b c d e f:Bool):zdi Tryz.prog .eql 150 (.agg [.bool a,.bool b,.bool c,.bool d,.bool e,.bool f]) (.agg [.bool true,.bool true,.bool true,.bool true,.bool true,.bool true])=some (.bool ((a==true)&&((b==true)&&((c==true)&&((d==true)&&((e==true)&&((f==true)&&true))))))):=by kernel_rfl
theorem eqV4 (a b c d e f g h:Int):zdi Tryz.prog .eql 147 (.agg [.int .i64 a,.int .i64 b,.int .i64 c,.int .i64 d,.int .i64 e,.int .i64 f,.int .i64 g,.int .i64 h]) (.agg [.int .i64 0,.int .i64 0,.int .i64 0,.int .i64 0,.int .i64 0,.int .i64 0,.int .i64 0,.int .i64 0])=some (.bool ((((a==0)&&((b==0)&&true))&&(((c==0)&&((d==0)&&true))&&true))&&((((e==0)&&((f==0)&&true))&&(((g==0)&&((h==0)&&true))&&true))&&true))):=by kernel_rfl
theorem eqI4 (a b c d:Int):zdi Tryz.prog .eql 149 (.agg [.int .i64 a,.int .i64 b,.int .i64 c,.int .i64 d]) (.agg [.int .i64 0,.int .i64 0,.int .i64 0,.int .i64 0])=some (.bool (((a==0)&&((b==0)&&true))&&(((c==0)&&((d==0)&&true))&&true))):=by kernel_rfl
theorem zsL (H:za):CallOk Tryz.prog 205 [] H (.agg [.bool true,.bool true,.bool true,.bool true,.bool true,.bool true]) H:=by
 refine CallOk.body (F0:=[]) Tryz.func205 rfl Tryz.ntmps205 Tryz.results205 rfl (by kernel_rfl) rfl ?_
 refine PW.e ?_
 refine PW.e ?_
 refine PW.ret ⟨.agg [.bool true,.bool true,.bool true,.bool true,.bool true,.bool true],by simp (disch:=omega) only [go_sem,↓reduceIte,reduceCtorEq,zd,zg,List.mapM_cons,List.mapM_nil,Option.pure_def,Option.bind_eq_bind,Option.bind_some,Array.toList],?_⟩
 refine Fin.base (.id (zB fun x hx=> ?_))
 simp only [List.mem_cons,List.not_mem_nil,or_false,or_self] at hx
 subst hx
 exact .bool _
def zI (m:Mb):Bool:=(((m.ua==false)&&((m.ub==false)&&true))&&(!m.fp&&(((((m.va==0)&&((m.vb==0)&&true))&&(((m.vc==0)&&((m.vd==0)&&true))&&true))&&((((m.ve==0)&&((m.vf==0)&&true))&&(((m.vg==0)&&((m.vh==0)&&true))&&true))&&true))&&(((m.sa==0)&&((m.sb==0)&&true))&&(((m.sc==0)&&((m.sd==0)&&true))&&true)))))
def aC (m:Mb):Bool:=(m.ca==true)&&((m.cb==true)&&((m.cc==true)&&((m.cd==true)&&((m.ce==true)&&((m.cf==true)&&true)))))
def fmS (c:Cx) (m:Mb):Bool:=vcx c&&(if m.k=0 then !decide (c.t=1)&&zmb m else if m.k=1 then zI m&&(aC m&&(fch c m&&lvr m.lv)) else if m.k=2 then zix c m else false)
theorem zr8 (c:Cx) (m:Mb) (hk:m.k=2) (ht:¬c.t=1):zix c m=(znn c m&&(fch c m&&(fbl (cdl m) m.lv&&lvr m.lv))):=by
 unfold zix znn fch
 generalize zgc c m=u
 generalize d0S c m=x
 generalize d1S c m=y
 generalize lvr m.lv=l
 generalize fbl (cdl m) m.lv=f
 generalize hlM m=hh
 generalize bcx c=b
 generalize win m.dl 30=w
 generalize m.fd=fd
 generalize m.fp=fp
 generalize decide (m.dl=0)=dz
 rw [decide_eq_false ht]
 revert u x y l f hh b w fd fp dz
 decide
theorem zuC (c:Cx) (m:Mb) (ht:c.t=1):zix c m=false:=by
 unfold zix
 rw [decide_eq_true ht];rfl
set_option maxHeartbeats 3200000 in
set_option maxRecDepth 10000 in
theorem zwE (c:Cx) (m:Mb) (H:za) (hl:m.lv.length=384):CallOk Tryz.prog 132 [.agg (cxc c),.agg (mbc m)] H (.bool (fmS c m)) H:=by
 have vo:=fun H=>zkm c H
 have hgt:∀ T,(H++[T,mB m])[H.length+1]? =some (mB m):=fun T=>by simp
 have ho:=fun T=>zuQ c m (H.length+1) (H++[T,mB m]) (hgt T)
 have fo:=fun T=>zse c m (H.length+1) (H++[T,mB m]) (hgt T)
 have bo:=fun T=>zuR m (H.length+1) (H++[T,mB m]) (hgt T) hl
 have lo:=fun T=>zus m (H.length+1) (H++[T,mB m]) (hgt T) hl
 have ao:=fun H=>zsL H
 have hi:=zr8 c m
 have hi1:=zuC c m
 have hr:fmS c m=(vcx c&&(if m.k=0 then !decide (c.t=1)&&zmb m else if m.k=1 then zI m&&(aC m&&(fch c m&&lvr m.lv)) else if m.k=2 then zix c m else false)):=rfl
 generalize fmS c m=r at hr ⊢
 generalize vcx c=vv at vo hr
 generalize fch c m=fc at ho hi hr
 generalize znn c m=fr at fo hi
 generalize fbl (cdl m) m.lv=fb at bo hi
 generalize lvr m.lv=lr at lo hi hr
 generalize zix c m=is0 at hi hi1 hr
 have hzm:zmb m=zmb m:=rfl
 generalize hzI:zI m=zi at hr
 generalize hac:aC m=ac at hr
 have hem:=eqMb m hl
 generalize zmb m=zm at hem hr
 obtain ⟨k,ua,ub,fp,fd,va,vb,vc,vd,ve,vf,vg,vh,sa,sb,sc,sd,dl,ca,cb,cc,cd,ce,cf,lv⟩:=m
 obtain ⟨t,s,ii,n⟩:=c
 clear hgt
 simp only [mB,mbc] at hr hi hi1 ho fo bo lo hl hem ⊢
 have hall:=zW lv
 have htk:List.take 384 (is lv)=is lv:=List.take_of_length_le (by rw [zu];omega)
 refine CallOk.body (F0:=[(0,.agg [.int .i64 t,.int .i64 s,.bool ii,.bool n]),(1,.agg (.int .i64 k:: .bool ua:: .bool ub:: .bool fp:: .bool fd:: .int .i64 va:: .int .i64 vb:: .int .i64 vc:: .int .i64 vd:: .int .i64 ve:: .int .i64 vf:: .int .i64 vg:: .int .i64 vh:: .int .i64 sa:: .int .i64 sb:: .int .i64 sc:: .int .i64 sd:: .int .i64 dl:: .bool ca:: .bool cb:: .bool cc:: .bool cd:: .bool ce:: .bool cf::is lv))]) Tryz.func132 rfl Tryz.ntmps132 Tryz.results132 rfl (by kernel_rfl) rfl ?_
 refine PW.f (fun K k=>by simp (disch:=omega) only [go_sem,↓reduceIte,reduceCtorEq,hall];exact k) ?_
 (repeat refine PW.seq ?_)
 refine PW.rgv (P:=Tryz.prog) [2,3] 18 (.bool (!vv||(!decide (k=1)&&decide (t=1)))) ?_ ?_ ?_
 ·rfl
 ·simp (disch:=omega) only [go_sem,↓reduceIte,reduceCtorEq];(repeat' (first|((first|refine zk ?_ ?_|refine And.intro ?_ ?_)<;>intro h<;>(try simp only [nqb] at h)<;>simp (disch:=omega) only [go_sem,↓reduceIte,reduceCtorEq,h])|((first|refine VCx.call (vo _) rfl ?_);simp (disch:=omega) only [go_sem,↓reduceIte,reduceCtorEq])))
  all_goals (clear vo ho fo bo lo hi hr hall htk hem;(simp_all [slot,Nat.beq]<;>first|rfl|omega|(rw [Bool.eq_iff_iff];simp;done)|(rw [Bool.eq_iff_iff];simp;omega)))
 (repeat refine PW.seq ?_);refine PW.cond (t:=_) rfl (fun h=> ?_) (fun h=> ?_)
 ·refine PW.e ?_
  (refine PW.ret ⟨_,rfl,?_⟩;first|refine .inl ⟨?_,rfl⟩|refine Fin.base (.id' ?_ (.bool _))|refine Fin.base (.id' ?_ (.int _ _)))
  clear vo ho fo bo lo hi hall htk hem
  rw [hr]
  cases vv
  ·rfl
  ·have hk1:¬k=1∧t=1:=by simpa using h
   simp [hk1.1,hk1.2,hi1 hk1.2,slot,Nat.beq]
 refine PW.skip ?_
 have hvv:vv=true∧(k=1∨¬t=1):=by
  cases vv
  ·cases h
  ·refine ⟨rfl,?_⟩
   by_cases hk1:k=1
   ·exact .inl hk1
   ·exact .inr (by simpa [hk1] using h)
 rw [hvv.1,Bool.true_and] at hr
 clear vo h
 refine PW.e ?_
 (repeat refine PW.seq ?_);refine PW.block ?_
 refine PW.e ?_
 (repeat refine PW.seq ?_);refine PW.cond (t:=_) rfl (fun h=> ?_) (fun h=> ?_)
 ·have hk0:k=0:=of_decide_eq_true h
  subst hk0
  have ht:¬t=1:=by rcases hvv.2 with h1|h1;(cases h1);exact h1
  rw [if_pos rfl,decide_eq_false ht] at hr
  refine PW.f (fun K k=>by simp (disch:=omega) only [go_sem,↓reduceIte,reduceCtorEq,hall,zu,hl,htk,↓zvQ,↓hem];exact k) ?_
  (refine PW.ret ⟨_,rfl,?_⟩;first|refine .inl ⟨?_,rfl⟩|refine Fin.base (.id' ?_ (.bool _))|refine Fin.base (.id' ?_ (.int _ _)))
  rw [hr];rfl
 have hk0:¬k=0:=of_decide_eq_false h
 rw [if_neg hk0] at hr
 refine PW.e ?_
 (repeat refine PW.seq ?_);refine PW.cond (t:=_) rfl (fun h=> ?_) (fun h=> ?_)
 ·have hk1:k=1:=of_decide_eq_true h
  subst hk1
  rw [if_pos rfl] at hr
  have q1:=eqB2 ua ub
  have q2:=eqV4 va vb vc vd ve vf vg vh
  have q3:=eqI4 sa sb sc sd
  have q4:=eqB6 ca cb cc cd ce cf
  have hz2:zi=(((ua==false)&&((ub==false)&&true))&&(!fp&&(((((va==0)&&((vb==0)&&true))&&(((vc==0)&&((vd==0)&&true))&&true))&&((((ve==0)&&((vf==0)&&true))&&(((vg==0)&&((vh==0)&&true))&&true))&&true))&&(((sa==0)&&((sb==0)&&true))&&(((sc==0)&&((sd==0)&&true))&&true))))):=hzI.symm
  have hc2:ac=((ca==true)&&((cb==true)&&((cc==true)&&((cd==true)&&((ce==true)&&((cf==true)&&true)))))):=hac.symm
  rw [←hc2] at q4
  generalize ((ua==false)&&((ub==false)&&true))=b1 at q1 hz2
  generalize (((((va==0)&&((vb==0)&&true))&&(((vc==0)&&((vd==0)&&true))&&true))&&((((ve==0)&&((vf==0)&&true))&&(((vg==0)&&((vh==0)&&true))&&true))&&true)))=b2 at q2 hz2
  generalize (((sa==0)&&((sb==0)&&true))&&(((sc==0)&&((sd==0)&&true))&&true))=b3 at q3 hz2
  clear hc2 hzI hac hem hi hi1 hzm fo bo
  (repeat refine PW.seq ?_)
  refine PW.rgv (P:=Tryz.prog) [2,3] 5 (.bool zi) ?_ ?_ ?_
  ·rfl
  ·simp (disch:=omega) only [go_sem,↓reduceIte,reduceCtorEq,↓q1,↓q2,↓q3];(repeat' ((first|refine zk ?_ ?_|refine zn ?_ ?_|refine zT ?_ ?_|refine zS ?_ ?_|refine zR ?_ ?_|refine And.intro ?_ ?_)<;>intro h<;>(try simp only [nqb] at h)<;>simp (disch:=omega) only [go_sem,↓reduceIte,reduceCtorEq,↓q1,↓q2,↓q3,h]))
   all_goals (clear ho lo hr hall htk q1 q2 q3 q4;subst hz2;(simp_all [slot,Nat.beq]<;>first|rfl|omega|(rw [Bool.eq_iff_iff];simp;done)|(rw [Bool.eq_iff_iff];simp;omega)))
  clear hz2
  cases zi
  ·(repeat refine PW.seq ?_);refine PW.draw mix (by kernel_rfl) fun K hK=> ?_;simp (disch:=omega) only [go_sem,↓reduceIte,reduceCtorEq]
   refine hK _ _ ?_;(refine PW.ret ⟨_,rfl,?_⟩;first|refine .inl ⟨?_,rfl⟩|refine Fin.base (.id' ?_ (.bool _))|refine Fin.base (.id' ?_ (.int _ _)))
   rw [hr];rfl
  (repeat refine PW.seq ?_);refine PW.draw mix (by kernel_rfl) fun K hK=> ?_;simp (disch:=omega) only [go_sem,↓reduceIte,reduceCtorEq,↓q4];refine VCy.callP ao rfl ?_;simp (disch:=omega) only [go_sem,↓reduceIte,reduceCtorEq,↓q4];(repeat' (first|((first|refine zn ?_ ?_|refine And.intro ?_ ?_)<;>intro h<;>(try simp only [nqb] at h)<;>simp (disch:=omega) only [go_sem,↓reduceIte,reduceCtorEq,↓q4,h])|((first|refine VCy.call (ho _) rfl ?_|refine VCy.call (lo _) rfl ?_);simp (disch:=omega) only [go_sem,↓reduceIte,reduceCtorEq,↓q4])))
  all_goals (refine hK _ _ ?_;(refine PW.ret ⟨_,rfl,?_⟩;first|refine .inl ⟨?_,rfl⟩|refine Fin.base (.id' ?_ (.bool _))|refine Fin.base (.id' ?_ (.int _ _)));clear hK ho lo hall htk q1 q2 q3 q4;subst hr;(simp_all [slot,Nat.beq]<;>first|rfl|omega|(rw [Bool.eq_iff_iff];simp;done)|(rw [Bool.eq_iff_iff];simp;omega)))
 have hk1:¬k=1:=of_decide_eq_false h
 rw [if_neg hk1] at hr
 refine PW.e ?_
 (repeat refine PW.seq ?_);refine PW.cond (t:=_) rfl (fun h=> ?_) (fun h=> ?_)
 ·have hk2:k=2:=of_decide_eq_true h
  subst hk2
  have ht:¬t=1:=by rcases hvv.2 with h1|h1;(cases h1);exact h1
  rw [if_pos rfl,hi rfl ht] at hr
  clear hi hi1 hzI hac hem hzm
  (repeat refine PW.seq ?_);refine PW.rg rfl fun K hK=> ?_;simp (disch:=omega) only [go_sem,↓reduceIte,reduceCtorEq];(repeat' (first|((first|refine zk ?_ ?_|refine And.intro ?_ ?_)<;>intro h<;>(try simp only [nqb] at h)<;>simp (disch:=omega) only [go_sem,↓reduceIte,reduceCtorEq,h])|((first|refine VCx.call (fo _) rfl ?_|refine VCx.call (ho _) rfl ?_|refine VCx.call (bo _) rfl ?_|refine VCx.call (lo _) rfl ?_);simp (disch:=omega) only [go_sem,↓reduceIte,reduceCtorEq])))
  all_goals (refine hK _ _ ?_;(refine PW.ret ⟨_,rfl,?_⟩;first|refine .inl ⟨?_,rfl⟩|refine Fin.base (.id' ?_ (.bool _))|refine Fin.base (.id' ?_ (.int _ _)));clear hK fo bo ho lo hall htk;subst hr;(simp_all [slot,Nat.beq]<;>first|rfl|omega|(rw [Bool.eq_iff_iff];simp;done)|(rw [Bool.eq_iff_iff];simp;omega)))
 have hk2:¬k=2:=of_decide_eq_false h
 rw [if_neg hk2] at hr
 refine PW.skip ?_
 refine PW.e ?_
 (refine PW.ret ⟨_,rfl,?_⟩;first|refine .inl ⟨?_,rfl⟩|refine Fin.base (.id' ?_ (.bool _))|refine Fin.base (.id' ?_ (.int _ _)))
 rw [hr];rfl
structure St where
 q:Int
 da:Int
 db:Int
 dc:Int
 va:Int
 vb:Int
 vc:Int
 vd:Int
def stc (s:St):List PV:=[.int .i64 s.q,.int .i64 s.da,.int .i64 s.db,.int .i64 s.dc,.int .i64 s.va,.int .i64 s.vb,.int .i64 s.vc,.int .i64 s.vd]
def st0 (q:Int):St:=⟨q,0,0,0,0,0,0,0⟩
theorem zcL (s:St) (n:Nat):Scoped n (.agg (stc s)):=zB fun x hx=>by
 simp only [stc,List.mem_cons,List.not_mem_nil,or_false] at hx
 rcases hx with rfl|rfl|rfl|rfl|rfl|rfl|rfl|rfl<;>exact .int _ _
theorem zof (q:Int) (H:za):CallOk Tryz.prog 116 [.int .i64 q] H (.agg (stc (st0 q))) H:=by
 refine CallOk.body (F0:=[(0,.int .i64 q)]) Tryz.func116 rfl Tryz.ntmps116 Tryz.results116 rfl (by kernel_rfl) rfl ?_
 refine PW.e ?_
 refine PW.e ?_
 refine PW.ret ⟨.agg [.int .i64 q,.int .i64 0,.int .i64 0,.int .i64 0,.int .i64 0,.int .i64 0,.int .i64 0,.int .i64 0],by simp (disch:=omega) only [go_sem,↓reduceIte,reduceCtorEq,zd,zg,List.mapM_cons,List.mapM_nil,Option.pure_def,Option.bind_eq_bind,Option.bind_some,Array.toList],?_⟩
 exact Fin.base (.id (zcL (st0 q) _))
theorem zbB (s:Sq):(sqc s).all PV.cell=true:=by simp [sqc,bs,PV.cell]
theorem zbO (s:Sq) (hs:SqOk s):(sqc s).length=135:=by
 obtain ⟨_,_,_,_,_,_,h1,h2⟩:=hs
 simp [sqc,ze,h1,h2]
theorem zdS (s:Sq) (hs:SqOk s):List.take 135 (sqc s)=sqc s:=List.take_of_length_le (by rw [zbO s hs];exact Nat.le_refl _)
theorem zoi (s:Sq):(sqc s)[0]? =some (.int .i64 s.w):=rfl
theorem zvX (s:Sq):(sqc s)[4]? =some (.bool s.il):=rfl
def zfc (s:Sq) (p:Pi) (b:Bool):Bool:=zM s p&& !(b&&decide (p.st=3))
def cxP (s:Sq) (p:Pi) (b:Bool):Cx:=⟨p.ty,p.st,s.il,b⟩
theorem zmj (s:Sq) (p:Pi) (b:Bool) (H:za) (hs:SqOk s):CallOk Tryz.prog 113 [.agg (sqc s),.agg (pic p),.bool b] H (.bool (zfc s p b)) H:=by
 have pv:=fun K=>zcw s p K hs
 have h1:=zbB s
 have h2:=zbO s hs
 have h3:=zdS s hs
 have hst:(p.st==3)=decide (p.st=3):=rfl
 generalize hr:zfc s p b=r
 unfold zfc at hr
 generalize zM s p=v at *
 refine CallOk.body (F0:=[(0,.agg (sqc s)),(1,.agg (pic p)),(2,.bool b)]) Tryz.func113 rfl Tryz.ntmps113 Tryz.results113 rfl (by kernel_rfl) rfl ?_
 refine PW.f (fun K k=>by simp (disch:=omega) only [go_sem,↓reduceIte,reduceCtorEq,h1,pic];exact k) ?_
 cases v<;>cases b
 all_goals
  (repeat refine PW.seq ?_);refine PW.rg rfl fun K hK=> ?_;simp (disch:=omega) only [go_sem,↓reduceIte,reduceCtorEq,h2,h3]
  refine VCx.call (pv _) rfl ?_;simp (disch:=omega) only [go_sem,↓reduceIte,reduceCtorEq];refine hK _ _ ?_;clear hK K
  refine PW.ret ⟨_,rfl,Fin.base (.id' ?_ (.bool _))⟩
  subst hr
  first|(simp [slot,Nat.beq];done)|(simp [slot,Nat.beq];rfl)
theorem zqn (s:Sq) (p:Pi) (b:Bool) (H:za) (hs:SqOk s):CallOk Tryz.prog 75 [.agg (sqc s),.agg (pic p),.bool b] H (.agg (cxc (cxP s p b))) H:=by
 have h1:=zbB s
 have h2:=zbO s hs
 have h4:=zvX s
 refine CallOk.body (F0:=[(0,.agg (sqc s)),(1,.agg (pic p)),(2,.bool b)]) Tryz.func75 rfl Tryz.ntmps75 Tryz.results75 rfl (by kernel_rfl) rfl ?_
 refine PW.f (fun K k=>by simp (disch:=omega) only [go_sem,↓reduceIte,reduceCtorEq,h1,pic];exact k) ?_
 refine PW.f (fun K k=>by simp (disch:=omega) only [go_sem,↓reduceIte,reduceCtorEq,h2,h4];exact k) ?_
 refine PW.ret ⟨.agg [.int .i64 p.ty,.int .i64 p.st,.bool s.il,.bool b],by simp (disch:=omega) only [go_sem,↓reduceIte,reduceCtorEq,zd,zg,List.mapM_cons,List.mapM_nil,Option.pure_def,Option.bind_eq_bind,Option.bind_some,Array.toList],?_⟩
 refine Fin.base (.id (zB fun x hx=> ?_))
 simp only [List.mem_cons,List.not_mem_nil,or_false] at hx
 rcases hx with rfl|rfl|rfl|rfl
 ·exact .int _ _
 ·exact .int _ _
 ·exact .bool _
 ·exact .bool _
def zb (l:List Bool):List UInt8:=l.map fun b=>if b then 1 else 0
def zbz (p:List UInt8) (k:Nat):Nat:=(p.getD (k / 8) 0).toNat / 2^(7 - k%8)%2
theorem zfJ (p:List UInt8) (k:Nat):zbz p k<2:=Nat.mod_lt _ (by omega)
def vl (p:List UInt8) (a:Nat):Nat→Nat
 | 0=>0
 | n+1=>2 * vl p a n+zbz p (a+n)
theorem zi8 (p:List UInt8) (a:Nat):∀ n,vl p a n<2^n
 | 0=>by simp [vl]
 | n+1=>by
  have h1:=zi8 p a n
  have h2:=zfJ p (a+n)
  rw [vl,Nat.pow_succ]
  omega
theorem zmZ (k':IntKind) (V:Nat) (h:2 * V<4294967296):zbb .shl .u32 (V:Int) k' 1=some (.int .u32 ((2 * V:Nat):Int)):=by
 simp only [zbb,IntKind.bits]
 rw [if_neg (by omega),show min (1:Int).toNat 32=1 from rfl,show (V:Int) * (2:Int)^1=((2 * V:Nat):Int) by omega,w32 _ (by omega)]
theorem zrK (a b:Nat) (hb:b<2):2 * a|||b=2 * a+b:=by
 have h1:2 * a=a<<<1:=by rw [Nat.shiftLeft_eq];omega
 rw [h1,Nat.shiftLeft_add_eq_or_of_lt (by simpa using hb)]
theorem zrB (a b:Nat) (hb:b<2) (h:2 * a<4294967296):zbb .or .u32 ((2 * a:Nat):Int) .u32 (b:Int)=some (.int .u32 ((2 * a+b:Nat):Int)):=by
 have key0:(BitVec.ofInt 32 ((2 * a:Nat):Int)|||BitVec.ofInt 32 (b:Int)).toNat=2 * a+b:=by
  rw [BitVec.ofInt_natCast,BitVec.ofInt_natCast,BitVec.toNat_or,BitVec.toNat_ofNat,BitVec.toNat_ofNat,Nat.mod_eq_of_lt (by omega),Nat.mod_eq_of_lt (by omega)]
  exact zrK a b hb
 have key:(BitVec.ofInt IntKind.u32.bits ((2 * a:Nat):Int)|||BitVec.ofInt IntKind.u32.bits (b:Int)).toNat=2 * a+b:=key0
 simp only [zbb,key,if_true]
 rw [w32 _ (by omega)]
def rA (p:List UInt8) (n a:Nat):Blk:=⟨276,0,[.slice (bs p) p.length false,.int .i64 (n:Int),.int .i64 (a:Int)]⟩
theorem zoK (i:Nat) (p:List UInt8) (n a:Nat) (H:za) (hA:H[i]? =some (rA p n a)) (ha:a≤n) (hn:n≤1000000000):CallOk Tryz.prog 118 [.ptr i 0 0] H (.int .i64 ((n - a:Nat):Int)) H:=by
 have e:(n:Int) - (a:Int)=((n - a:Nat):Int):=by omega
 refine CallOk.body (F0:=[(0,.ptr i 0 0)]) Tryz.func118 rfl Tryz.ntmps118 Tryz.results118 rfl (by kernel_rfl) rfl ?_
 (repeat' (first|refine PW.seq ?_|refine PW.skip ?_|refine PW.block ?_|((first|refine PW.rg rfl fun K hK=> ?_|refine PW.draw mix (by kernel_rfl) fun K hK=> ?_);simp (disch:=omega) only [go_sem,↓reduceIte,reduceCtorEq,hA,rA,e])|((first|refine zk ?_ ?_|refine zn ?_ ?_|refine And.intro ?_ ?_)<;>intro h<;>(try simp only [nqb] at h)<;>simp (disch:=omega) only [go_sem,↓reduceIte,reduceCtorEq,hA,rA,e,h])|(refine hK _ _ ?_;clear hK K)|(refine PW.cond (t:=_) rfl (fun h=> ?_) (fun h=> ?_)<;>(try (cases h;done))<;>(try simp only [nqb] at h))))
 all_goals exact PW.ret ⟨_,rfl,Fin.now⟩
theorem zbC (i:Nat) (p:List UInt8) (n a m:Nat) (H:za) (hA:H[i]? =some (rA p n a)) (ha:a≤n) (hn:n≤1000000000) (hm:m≤32) (hs:n - a<m):
  CallOk Tryz.prog 115 [.ptr i 0 0,.int .i64 (m:Int)] H (.tup [.int .u32 0,.int .i64 4]) H:=by
 refine CallOk.body (F0:=[(0,.ptr i 0 0),(1,.int .i64 (m:Int))]) Tryz.func115 rfl Tryz.ntmps115 Tryz.results115 rfl (by kernel_rfl) rfl ?_
 (repeat' (first|refine PW.seq ?_|refine PW.skip ?_|refine PW.block ?_|((first|refine PW.rg rfl fun K hK=> ?_|refine PW.draw mix (by kernel_rfl) fun K hK=> ?_);simp (disch:=omega) only [go_sem,↓reduceIte,reduceCtorEq,hA,rA])|((first|refine zk ?_ ?_|refine zn ?_ ?_|refine And.intro ?_ ?_)<;>intro h<;>(try simp only [nqb] at h)<;>simp (disch:=omega) only [go_sem,↓reduceIte,reduceCtorEq,hA,rA,h])|(refine hK _ _ ?_;clear hK K)|(refine PW.cond (t:=_) rfl (fun h=> ?_) (fun h=> ?_)<;>(try (cases h;done))<;>(try simp only [nqb] at h))))
 all_goals first|exact PW.ret ⟨_,rfl,Fin.now⟩|omega
theorem zdc (i:Nat) (p:List UInt8) (n a m:Nat) (H:za) (hA:H[i]? =some (rA p n a)) (ha:a+m≤n) (hn:n≤8 * p.length) (hp:p.length≤100000000) (hm:m≤32):
  CallOk Tryz.prog 115 [.ptr i 0 0,.int .i64 (m:Int)] H (.tup [.int .u32 (vl p a m:Int),.int .i64 0]) (H.set i (rA p n (a+m))):=by
 have hi:=(List.getElem?_eq_some_iff.1 hA).1
 have hself:=za8 hA
 refine CallOk.body (F0:=[(0,.ptr i 0 0),(1,.int .i64 (m:Int))]) Tryz.func115 rfl Tryz.ntmps115 Tryz.results115 rfl (by kernel_rfl) rfl ?_
 refine PW.e ?_
 (repeat refine PW.seq ?_)
 refine PW.rgv [0,1] 17 (.bool false) rfl ?_ ?_
 ·simp (disch:=omega) only [go_sem,↓reduceIte,reduceCtorEq,hA,rA]
 (repeat refine PW.seq ?_);refine PW.cond (t:=_) rfl (fun h=> ?_) (fun h=> ?_)
 ·cases h
 refine PW.skip ?_
 (repeat refine PW.seq ?_);refine PW.draw mix (by kernel_rfl) fun K hK=> ?_;simp (disch:=omega) only [go_sem,↓reduceIte,reduceCtorEq,hA,rA];refine hK _ _ ?_;clear hK K
 (repeat refine PW.seq ?_);refine PW.cond (t:=_) rfl (fun h=> ?_) (fun h=> ?_)
 ·cases h
 refine PW.skip ?_
 refine PW.e ?_
 refine PW.e ?_
 (repeat refine PW.seq ?_);refine PW.block (PW.loop ?_)
 suffices hloop:∀ (k:Nat),k≤m→PL Tryz.prog _ _ [(0,.ptr i 0 0),(6,.int .u32 (vl p a k:Int)),(29,.int .i64 (m:Int)),(30,.int .i64 (k:Int))] (H.set i (rA p n (a+k))) _ by
  exact PL.at [0,6,29,30] (hloop 0 (Nat.zero_le _)) rfl hself.symm
 intro k hk
 induction hmk:m - k using Nat.strongRecOn generalizing k with
 | _ r ih=>
  refine PL.round ?_;refine PW.e ?_
  have hat:∀ B:Blk,(H.set i B)[i]? =some B:=fun B=>by simp [hi]
  (repeat refine PW.seq ?_);refine PW.cond (t:=_) rfl (fun h=> ?_) (fun h=> ?_)
  ·have h4:k<m:=by have:=of_decide_eq_true h;omega
   have hnext:=ih (m - (k+1)) (by omega) (k+1) (by omega) rfl
   have hr8:(a+k)%8<8:=Nat.mod_lt _ (by omega)
   have hq8:(a+k) / 8<p.length:=by omega
   have hu:zbz p (a+k)=(p.getD ((a+k) / 8) 0).toNat / 2^(7 - (a+k)%8)%2:=rfl
   have e3:(7:Int) - (((a+k)%8:Nat):Int)=((7 - (a+k)%8:Nat):Int):=by omega
   have e4:((a+k:Nat):Int)+1=((a+(k+1):Nat):Int):=by omega
   have hul:=zfJ p (a+k)
   have hvl:=zi8 p a k
   have hvl2:2 * vl p a k<4294967296:=by
    have:2^k≤2^31:=Nat.pow_le_pow_right (by omega) (by omega)
    omega
   have hb:byt p ((a+k) / 8)=((p.getD ((a+k) / 8) 0).toNat:Int):=rfl
   refine PW.skip ?_;(repeat refine PW.seq ?_);refine PW.block ?_
   (repeat refine PW.seq ?_);refine PW.draw mix (by kernel_rfl) fun K hK=> ?_;simp (disch:=omega) only [go_sem,↓reduceIte,reduceCtorEq,hat,rA,zvB,zvz,ze,zbK,e3,hb,zrw,zpi,←hu];refine hK _ _ ?_;clear hK K
   refine PW.f (fun K k=>by simp (disch:=omega) only [go_sem,↓reduceIte,reduceCtorEq,zmZ,zrB];exact k) ?_
   refine PW.f (fun K k=>by simp (disch:=omega) only [go_sem,↓reduceIte,reduceCtorEq,hat,rA,e4,List.set_set];exact k) ?_
   refine PW.e ?_
   exact PL.at [0,6,29,30] hnext rfl rfl
  ·have h4:k=m:=by have:=of_decide_eq_false h;omega
   subst h4
   refine PW.exit ?_
   refine PW.e ?_
   refine PW.ret ⟨_,rfl,Fin.now⟩
inductive Rr (α:Type) where
 | ok (v:α) (a:Nat)
 | er (e:Nat) (a:Nat)
def Rr.bind {α β:Type} (x:Rr α) (f:α→Nat→Rr β):Rr β:=match x with| .ok v a=>f v a| .er e a=>.er e a
def Rr.at {α:Type}:Rr α→Nat| .ok _ a=>a| .er _ a=>a
theorem Rr.bind_ok {α β:Type} (v:α) (a:Nat) (f:α→Nat→Rr β):(Rr.ok v a).bind f=f v a:=rfl
theorem Rr.bind_er {α β:Type} (e a:Nat) (f:α→Nat→Rr β):(Rr.er e a:Rr α).bind f= .er e a:=rfl
theorem Rr.bind_bind {α β γ:Type} (x:Rr α) (f:α→Nat→Rr β) (g:β→Nat→Rr γ):(x.bind f).bind g=x.bind fun v a=>(f v a).bind g:=by cases x<;>rfl
def zrs (q:List UInt8) (n:Nat):Nat→Nat→Nat
 | 0,_=>0
 | c+1,a=>if a<n∧zbz q a=0 then zrs q n c (a+1)+1 else 0
section
variable {q:List UInt8} {n:Nat}
theorem znC:∀ (c a:Nat),zrs q n c a≤c
 | 0,a=>by simp [zrs]
 | c+1,a=>by
  have:=znC c (a+1)
  simp only [zrs];split<;>omega
theorem znB {c a:Nat} (h:a<n) (h0:zbz q a=0):zrs q n (c+1) a=zrs q n c (a+1)+1:=by
 simp only [zrs];rw [if_pos ⟨h,h0⟩]
theorem zqP {c a:Nat} (h:n≤a):zrs q n c a=0:=by
 cases c with
 | zero=>rfl
 | succ c=>simp only [zrs];rw [if_neg (by omega)]
theorem zqO {c a:Nat} (h:zbz q a=1):zrs q n c a=0:=by
 cases c with
 | zero=>rfl
 | succ c=>simp only [zrs];rw [if_neg (by omega)]
end
def tkU (q:List UInt8) (n a:Nat):Rr Nat:=
 if zrs q n 16 a=16 then .er 2 a else if n - a<2 * zrs q n 16 a+1 then .er 3 a else .ok (2^zrs q n 16 a+vl q (a+zrs q n 16 a+1) (zrs q n 16 a) - 1) (a+(2 * zrs q n 16 a+1))
def usg (v:Nat):Int:=if v%2=1 then ((v+1) / 2:Nat) else -((v / 2:Nat):Int)
def tkS (q:List UInt8) (n a:Nat):Rr Int:=(tkU q n a).bind fun v a=>.ok (usg v) a
theorem zd8 {q:List UInt8} {n a v a1:Nat} (h:tkU q n a= .ok v a1) (ha:a≤n):v≤65534∧a<a1∧a1≤n:=by
 unfold tkU at h
 split at h
 ·cases h
 ·split at h
  ·cases h
  ·have h1:=znC (q:=q) (n:=n) 16 a
   injection h with h2 h3
   have h4:zrs q n 16 a≤15:=by omega
   have h5:=zi8 q (a+zrs q n 16 a+1) (zrs q n 16 a)
   have h6:2^zrs q n 16 a≤2^15:=Nat.pow_le_pow_right (by omega) h4
   omega
theorem zjb {q:List UInt8} {n a e a1:Nat} (h:tkU q n a= .er e a1):a1=a∧e≤3:=by
 unfold tkU at h
 split at h
 ·injection h with h2 h3;omega
 ·split at h
  ·injection h with h2 h3;omega
  ·cases h
theorem zvt (v:Nat) (h:v≤65534): -32767≤usg v∧usg v≤32767:=by unfold usg;split<;>omega
theorem zd9 {q:List UInt8} {n a a1:Nat} {v:Int} (h:tkS q n a= .ok v a1) (ha:a≤n):(-32767≤v∧v≤32767)∧a<a1∧a1≤n:=by
 unfold tkS at h
 cases hu:tkU q n a with
 | er e a2=>rw [hu] at h;cases h
 | ok w a2=>
  rw [hu] at h
  injection h with h2 h3
  have:=zd8 hu ha
  subst h2 h3
  exact ⟨zvt w this.1,this.2⟩
theorem zlx {q:List UInt8} {n a e a1:Nat} (h:tkS q n a= .er e a1):a1=a∧e≤3:=by
 unfold tkS at h
 cases hu:tkU q n a with
 | ok w a2=>rw [hu] at h;cases h
 | er e a2=>
  rw [hu] at h
  injection h with h2 h3
  have:=zjb hu
  omega
end Go.Proofs.YtjgmdlcjbgiekaaGreatDoor.Sc
namespace Go.Proofs.YtjgmdlcjbgiekaaGreatDoor.Sc
set_option linter.all false
open Pm Ty Go.RowKit
def eg (v:Nat):List Bool:=zs0 0 (Nat.log2 (v+1))++zs0 (v+1) (Nat.log2 (v+1)+1)
theorem zv9 (p:List UInt8) (n a k:Nat):∀ x∈(rA p n a).cells,Scoped k x:=fun x hx=>by
 simp only [rA,List.mem_cons,List.not_mem_nil,or_false] at hx
 rcases hx with rfl|rfl|rfl
 ·exact zr (zq _ _)
 ·exact .int _ _
 ·exact .int _ _
theorem zdn (H:za) (i:Nat) (p:List UInt8) (n a:Nat) (h:HSc H):HSc (H.set i (rA p n a)):=HSc.set h (zv9 _ _ _ _)
def rvU:Rr Nat→PV
 | .ok v _=>.tup [.int .i64 (v:Int),.int .i64 0]
 | .er e _=>.tup [.int .i64 0,.int .i64 ((e:Int)+1)]
def rvS:Rr Int→PV
 | .ok v _=>.tup [.int .i64 v,.int .i64 0]
 | .er e _=>.tup [.int .i64 0,.int .i64 ((e:Int)+1)]
theorem zfK (k:Nat) (x y:Int):Scoped k (.tup [.int .i64 x,.int .i64 y]):=.tup fun j x hx=>by
 have:=List.mem_of_getElem? hx
 simp only [List.mem_cons,List.not_mem_nil,or_false] at this
 rcases this with rfl|rfl<;>exact .int _ _
theorem zoU (k':IntKind) (s:Nat) (h:s≤40):zbb .shl .i64 1 k' (s:Int)=some (.int .i64 ((2^s:Nat):Int)):=by
 have h2:2^s≤2^40:=Nat.pow_le_pow_right (by omega) h
 simp only [zbb,IntKind.bits]
 rw [if_neg (by omega),show min (s:Int).toNat 64=s by omega,show (1:Int) * (2:Int)^s=((2^s:Nat):Int) by simp]
 generalize 2^s=N at *
 rw [w64 _ (by omega)]
theorem zhV (i:Nat) (p:List UInt8) (n a:Nat) (H:za) (hA:H[i]? =some (rA p n a)) (ha:a≤n) (hn:n≤8 * p.length) (hp:p.length≤100000000):
  CallOk Tryz.prog 258 [.ptr i 0 0] H (rvU (tkU p n a)) (H.set i (rA p n (tkU p n a).at)):=by
 have hi:=(List.getElem?_eq_some_iff.1 hA).1
 have hself:=za8 hA
 have hA':=fun K=>zZ (K:=K) hA
 refine CallOk.body (F0:=[(0,.ptr i 0 0)]) Tryz.func258 rfl Tryz.ntmps258 Tryz.results258 rfl (by kernel_rfl) rfl ?_
 refine PW.e ?_
 refine PW.f (fun K k=>by simp (disch:=omega) only [go_sem,↓reduceIte,reduceCtorEq,hA];exact k) ?_
 (repeat refine PW.seq ?_);refine PW.cond (t:=_) rfl (fun h=> ?_) (fun h=> ?_)
 ·cases h
 refine PW.skip ?_
 refine PW.f (fun K k=>by simp (disch:=omega) only [go_sem,↓reduceIte,reduceCtorEq,hA,rA];exact k) ?_
 refine PW.e ?_
 (repeat refine PW.seq ?_);refine PW.block (PW.loop ?_)
 suffices hl:∀ j,j≤15→zrs p n 16 a=j+zrs p n (16 - j) (a+j)→a+j≤n→PL Tryz.prog _ _ [(0,.ptr i 0 0),(4,.ptr H.length 0 0),(5,.int .i64 (j:Int))] (H++[rA p n (a+j)]) _ by
  exact PL.at [0,4,5] (hl 0 (by omega) (by simp) (by omega)) rfl rfl
 intro j hj hz hjn
 induction hd:16 - j using Nat.strongRecOn generalizing j with
 | _ d ih=>
  subst hd
  refine PL.round ?_;(repeat refine PW.seq ?_);refine PW.block ?_
  by_cases h0:n=a+j
  ·have t:=zbC H.length p n (a+j) 1 (H++[rA p n (a+j)]) (hp0 _ _ _) hjn (by omega) (by omega) (by omega)
   have hz0:zrs p n (16 - j) (a+j)=0:=zqP (by omega)
   have hr:tkU p n a= .er 3 a:=by
    unfold tkU;rw [if_neg (by omega),if_pos (by omega)]
   refine PW.f (fun K k=>by simp (disch:=omega) only [go_sem,↓reduceIte,reduceCtorEq];refine VCx.call (t) rfl ?_;simp (disch:=omega) only [go_sem,↓reduceIte,reduceCtorEq];exact k) ?_
   refine PW.e ?_
   (repeat refine PW.seq ?_);refine PW.cond (t:=_) rfl (fun h=> ?_) (fun h=> ?_)
   rotate_left
   ·cases h
   refine PW.e ?_
   refine PW.ret ⟨.tup [.int .i64 0,.int .i64 4],by simp (disch:=omega) only [go_sem,↓reduceIte,reduceCtorEq,zd,zg,List.mapM_cons,List.mapM_nil,Option.pure_def,Option.bind_eq_bind,Option.bind_some,Array.toList],?_⟩
   rw [hr]
   exact Fin.cut (show _=H.set i (rA p n a)++[_] by rw [hself]) (by simp) (zdn _ _ _ _ _) (.id (zfK _ _ _))
  have t:=zdc H.length p n (a+j) 1 (H++[rA p n (a+j)]) (hp0 _ _ _) (by omega) hn hp (by omega)
  have hv1:vl p (a+j) 1=zbz p (a+j):=by simp [vl]
  rw [hv1,hs0,show a+j+1=a+(j+1) by omega] at t
  have hub:=zfJ p (a+j)
  refine PW.f (fun K k=>by simp (disch:=omega) only [go_sem,↓reduceIte,reduceCtorEq];refine VCx.call (t) rfl ?_;simp (disch:=omega) only [go_sem,↓reduceIte,reduceCtorEq];exact k) ?_
  refine PW.e ?_
  (repeat refine PW.seq ?_);refine PW.cond (t:=_) rfl (fun h=> ?_) (fun h=> ?_)
  ·cases h
  refine PW.skip ?_
  by_cases h1:zbz p (a+j)=1
  ·have hz1:zrs p n (16 - j) (a+j)=0:=zqO h1
   rw [hz1,Nat.add_zero] at hz
   rw [h1]
   refine PW.e ?_
   (repeat refine PW.seq ?_);refine PW.cond (t:=_) rfl (fun h=> ?_) (fun h=> ?_)
   rotate_left
   ·cases h
   refine PW.exit ?_
   by_cases h2:n - (a+(j+1))<j
   ·have t2:=zbC H.length p n (a+(j+1)) j (H++[rA p n (a+(j+1))]) (hp0 _ _ _) (by omega) (by omega) (by omega) h2
    have hr:tkU p n a= .er 3 a:=by
     unfold tkU;rw [if_neg (by omega),if_pos (by omega)]
    refine PW.f (fun K k=>by simp (disch:=omega) only [go_sem,↓reduceIte,reduceCtorEq];refine VCx.call (t2) rfl ?_;simp (disch:=omega) only [go_sem,↓reduceIte,reduceCtorEq];exact k) ?_
    refine PW.e ?_
    (repeat refine PW.seq ?_);refine PW.cond (t:=_) rfl (fun h=> ?_) (fun h=> ?_)
    rotate_left
    ·cases h
    refine PW.e ?_
    refine PW.ret ⟨.tup [.int .i64 0,.int .i64 4],by simp (disch:=omega) only [go_sem,↓reduceIte,reduceCtorEq,zd,zg,List.mapM_cons,List.mapM_nil,Option.pure_def,Option.bind_eq_bind,Option.bind_some,Array.toList],?_⟩
    rw [hr]
    exact Fin.cut (show _=H.set i (rA p n a)++[_] by rw [hself]) (by simp) (zdn _ _ _ _ _) (.id (zfK _ _ _))
   ·have t2:=zdc H.length p n (a+(j+1)) j (H++[rA p n (a+(j+1))]) (hp0 _ _ _) (by omega) hn hp (by omega)
    rw [hs0] at t2
    have hr:tkU p n a= .ok (2^j+vl p (a+(j+1)) j - 1) (a+(2 * j+1)):=by
     unfold tkU;rw [if_neg (by omega),if_neg (by omega),hz,show a+j+1=a+(j+1) by omega]
    have hvl:=zi8 p (a+(j+1)) j
    have hpw:2^j≤2^15:=Nat.pow_le_pow_right (by omega) hj
    have hsum:((2^j:Nat):Int)+(vl p (a+(j+1)) j:Int) - 1=((2^j+vl p (a+(j+1)) j - 1:Nat):Int):=by
     have:0<2^j:=Nat.pow_pos (by omega)
     omega
    rw [hr]
    simp only [Rr.at,rvU]
    rw [show a+(j+1)+j=a+(2 * j+1) by omega] at t2
    generalize vl p (a+(j+1)) j=w at *
    refine PW.f (fun K k=>by simp (disch:=omega) only [go_sem,↓reduceIte,reduceCtorEq];refine VCx.call (t2) rfl ?_;simp (disch:=omega) only [go_sem,↓reduceIte,reduceCtorEq];exact k) ?_
    refine PW.e ?_
    (repeat refine PW.seq ?_);refine PW.cond (t:=_) rfl (fun h=> ?_) (fun h=> ?_)
    ·cases h
    refine PW.skip ?_
    refine PW.f (fun K k=>by simp (disch:=omega) only [go_sem,↓reduceIte,reduceCtorEq,hA',rA];exact k) ?_
    have hpw2:2^j=2^j:=rfl
    have hsh:=fun k'=>zoU k' j (by omega)
    generalize 2^j=m at *
    refine PW.f (fun K k=>by simp (disch:=omega) only [go_sem,↓reduceIte,reduceCtorEq,hsh,hsum];exact k) ?_
    refine PW.ret ⟨.tup [.int .i64 ((m+w - 1:Nat):Int),.int .i64 0],by simp (disch:=omega) only [go_sem,↓reduceIte,reduceCtorEq,zd,zg,List.mapM_cons,List.mapM_nil,Option.pure_def,Option.bind_eq_bind,Option.bind_some,Array.toList],?_⟩
    refine Fin.cut (K:=[rA p n (a+(2 * j+1))]) ?_ (by simp) (zdn _ _ _ _ _) (.id (zfK _ _ _))
    rw [List.set_append_left _ _ hi];rfl
  ·have h00:zbz p (a+j)=0:=by omega
   rw [h00]
   refine PW.e ?_
   (repeat refine PW.seq ?_);refine PW.cond (t:=_) rfl (fun h=> ?_) (fun h=> ?_)
   ·cases h
   refine PW.skip ?_
   have hzs:zrs p n (16 - j) (a+j)=zrs p n (16 - (j+1)) (a+(j+1))+1:=by
    rw [show 16 - j=(16 - (j+1))+1 by omega,znB (by omega) h00];rfl
   by_cases h15:j=15
   ·have hr:tkU p n a= .er 2 a:=by
     subst h15
     unfold tkU;rw [if_pos (by rw [hz,hzs];rfl)]
    have d:((j:Int)==15)=true:=by simp [h15]
    refine PW.f (fun K k=>by simp (disch:=omega) only [go_sem,↓reduceIte,reduceCtorEq,d];exact k) ?_
    (repeat refine PW.seq ?_);refine PW.cond (t:=_) rfl (fun h=> ?_) (fun h=> ?_)
    rotate_left
    ·cases h
    refine PW.e ?_
    refine PW.ret ⟨.tup [.int .i64 0,.int .i64 3],by simp (disch:=omega) only [go_sem,↓reduceIte,reduceCtorEq,zd,zg,List.mapM_cons,List.mapM_nil,Option.pure_def,Option.bind_eq_bind,Option.bind_some,Array.toList],?_⟩
    rw [hr]
    exact Fin.cut (show _=H.set i (rA p n a)++[_] by rw [hself]) (by simp) (zdn _ _ _ _ _) (.id (zfK _ _ _))
   ·have d:((j:Int)==15)=false:=by
     rw [beq_eq_false_iff_ne];omega
    refine PW.f (fun K k=>by simp (disch:=omega) only [go_sem,↓reduceIte,reduceCtorEq,d];exact k) ?_
    (repeat refine PW.seq ?_);refine PW.cond (t:=_) rfl (fun h=> ?_) (fun h=> ?_)
    ·cases h
    refine PW.skip ?_
    refine PW.e ?_
    exact PL.at [0,4,5] (ih (16 - (j+1)) (by omega) (j+1) (by omega) (by omega) (by omega) rfl) rfl rfl
theorem zhW (i:Nat) (p:List UInt8) (n a:Nat) (H:za) (hA:H[i]? =some (rA p n a)) (ha:a≤n) (hn:n≤8 * p.length) (hp:p.length≤100000000):
  CallOk Tryz.prog 263 [.ptr i 0 0] H (rvS (tkS p n a)) (H.set i (rA p n (tkS p n a).at)):=by
 have t:=zhV i p n a H hA ha hn hp
 unfold tkS
 cases hu:tkU p n a with
 | er e a1=>
  rw [hu] at t
  have he:=(zjb hu).2
  have d:((e:Int)+1 !=0)=true:=by simp;omega
  simp only [Rr.bind,rvU,rvS,Rr.at] at t ⊢
  generalize H.set i (rA p n a1)=Hz at *
  refine CallOk.body (F0:=[(0,.ptr i 0 0)]) Tryz.func263 rfl Tryz.ntmps263 Tryz.results263 rfl (by kernel_rfl) rfl ?_
  refine PW.e ?_
  refine PW.f (fun K k=>by simp (disch:=omega) only [go_sem,↓reduceIte,reduceCtorEq];refine VCx.call (t) rfl ?_;simp (disch:=omega) only [go_sem,↓reduceIte,reduceCtorEq];exact k) ?_
  refine PW.f (fun K k=>by simp (disch:=omega) only [go_sem,↓reduceIte,reduceCtorEq,d];exact k) ?_
  (repeat refine PW.seq ?_);refine PW.cond (t:=_) rfl (fun h=> ?_) (fun h=> ?_)
  rotate_left
  ·cases h
  refine PW.e ?_
  exact PW.ret ⟨_,rfl,Fin.now⟩
 | ok w a1=>
  rw [hu] at t
  have hb:=(zd8 hu ha).1
  simp only [Rr.bind,rvU,rvS,Rr.at] at t ⊢
  generalize H.set i (rA p n a1)=Hz at *
  have hm:(w:Int).tmod 2=((w%2:Nat):Int):=znR w 2
  refine CallOk.body (F0:=[(0,.ptr i 0 0)]) Tryz.func263 rfl Tryz.ntmps263 Tryz.results263 rfl (by kernel_rfl) rfl ?_
  refine PW.e ?_
  refine PW.f (fun K k=>by simp (disch:=omega) only [go_sem,↓reduceIte,reduceCtorEq];refine VCx.call (t) rfl ?_;simp (disch:=omega) only [go_sem,↓reduceIte,reduceCtorEq];exact k) ?_
  refine PW.e ?_
  (repeat refine PW.seq ?_);refine PW.cond (t:=_) rfl (fun h=> ?_) (fun h=> ?_)
  ·cases h
  refine PW.skip ?_
  by_cases h2:w%2=1
  ·have hus:usg w=(((w+1) / 2:Nat):Int):=by unfold usg;rw [if_pos h2]
   rw [hus]
   have e1:(w:Int)+1=((w+1:Nat):Int):=by omega
   have e2:(((w+1:Nat):Int)).tdiv 2=(((w+1) / 2:Nat):Int):=zs5 _ 2
   refine PW.f (fun K k=>by simp (disch:=omega) only [go_sem,↓reduceIte,reduceCtorEq,hm,h2];exact k) ?_
   (repeat refine PW.seq ?_);refine PW.cond (t:=_) rfl (fun h=> ?_) (fun h=> ?_)
   rotate_left
   ·cases h
   refine PW.f (fun K k=>by simp (disch:=omega) only [go_sem,↓reduceIte,reduceCtorEq,e1,e2];exact k) ?_
   exact PW.ret ⟨_,rfl,Fin.now⟩
  ·have h3:w%2=0:=by omega
   have hus:usg w= -((w / 2:Nat):Int):=by unfold usg;rw [if_neg h2]
   rw [hus]
   have e2:(-(w:Int)).tdiv 2= -((w / 2:Nat):Int):=by rw [Int.neg_tdiv];rfl
   refine PW.f (fun K k=>by simp (disch:=omega) only [go_sem,↓reduceIte,reduceCtorEq,hm,h3];exact k) ?_
   (repeat refine PW.seq ?_);refine PW.cond (t:=_) rfl (fun h=> ?_) (fun h=> ?_)
   ·cases h
   refine PW.skip ?_
   refine PW.f (fun K k=>by simp (disch:=omega) only [go_sem,↓reduceIte,reduceCtorEq,Int.zero_sub,e2];exact k) ?_
   exact PW.ret ⟨_,rfl,Fin.now⟩
theorem zhr {x n:Int} (h:win x n=true): -n≤x∧x≤n:=by simpa [win] using h
theorem zqH (x:Int) (H:za):CallOk Tryz.prog 316 [.int .i64 x] H (.bool (win x 4095)) H:=by
 refine CallOk.body (F0:=[(0,.int .i64 x)]) Tryz.func316 rfl Tryz.ntmps316 Tryz.results316 rfl (by kernel_rfl) rfl ?_
 (repeat' (first|refine PW.seq ?_|refine PW.skip ?_|refine PW.block ?_|((first|refine PW.rg rfl fun K hK=> ?_|refine PW.draw mix (by kernel_rfl) fun K hK=> ?_);simp (disch:=omega) only [go_sem,↓reduceIte,reduceCtorEq])|((first|refine zk ?_ ?_|refine zn ?_ ?_|refine And.intro ?_ ?_)<;>intro h<;>(try simp only [nqb] at h)<;>simp (disch:=omega) only [go_sem,↓reduceIte,reduceCtorEq,h])|(refine hK _ _ ?_;clear hK K)|(refine PW.cond (t:=_) rfl (fun h=> ?_) (fun h=> ?_)<;>(try (cases h;done))<;>(try simp only [nqb] at h))))
 all_goals ((refine PW.ret ⟨_,rfl,?_⟩;first|refine .inl ⟨?_,rfl⟩|refine Fin.base (.id' ?_ (.bool _))|refine Fin.base (.id' ?_ (.int _ _)));(simp_all [win,slot,Nat.beq]<;>first|rfl|omega|(rw [Bool.eq_iff_iff];simp;done)|(rw [Bool.eq_iff_iff];simp;omega)))
theorem ztA (fr:Nat) (H:za) (h:fr≤1):CallOk Tryz.prog 302 [.int .i64 (fr:Int)] H (.bool true) H:=by
 refine CallOk.body (F0:=[(0,.int .i64 (fr:Int))]) Tryz.func302 rfl Tryz.ntmps302 Tryz.results302 rfl (by kernel_rfl) rfl ?_
 have h2:fr=0∨fr=1:=by omega
 rcases h2 with rfl|rfl<;>(repeat' (first|refine PW.seq ?_|refine PW.skip ?_|refine PW.block ?_|((first|refine PW.rg rfl fun K hK=> ?_|refine PW.draw mix (by kernel_rfl) fun K hK=> ?_);simp (disch:=omega) only [go_sem,↓reduceIte,reduceCtorEq])|((first|refine zk ?_ ?_|refine zn ?_ ?_|refine And.intro ?_ ?_)<;>intro h<;>(try simp only [nqb] at h)<;>simp (disch:=omega) only [go_sem,↓reduceIte,reduceCtorEq,h])|(refine hK _ _ ?_;clear hK K)|(refine PW.cond (t:=_) rfl (fun h=> ?_) (fun h=> ?_)<;>(try (cases h;done))<;>(try simp only [nqb] at h))))
 all_goals ((refine PW.ret ⟨_,rfl,?_⟩;first|refine .inl ⟨?_,rfl⟩|refine Fin.base (.id' ?_ (.bool _))|refine Fin.base (.id' ?_ (.int _ _)));rfl)
end Go.Proofs.YtjgmdlcjbgiekaaGreatDoor.Sc
namespace Go.Proofs.YtjgmdlcjbgiekaaGreatDoor.Pm
set_option linter.all false
open Go.RowKit
variable {P:Program} {C:Ctx} {H K:za} {w:World} {F:Fr} {a:Act} {N:Nat}
def zim (rs:List (Nat×Nat)) (o:Oper):Bool:=match zkC rs o with|some _=>false|none=> !zE o.op&& !eff o.op
def zfX (ds:List (Option Nat)) (rs:List (Nat×Nat)) (x o:Oper):Bool:=clear ds x o&&clear ds o x&&zim rs x&&zim rs o
def ExT (P:Program) (all:List Oper) (ids:List Nat) (rs:List (Nat×Nat)) (o:Oper) (f:Nat→PV) (H:za) (v:PV) (H':za):Prop:=
 (za7 all f o=some false∧v= .tup []∧H'=H)∨(za7 all f o=some true∧StI P ids rs o f H v H')
theorem ExT.congr {all:List Oper} {ids:List Nat} {rs:List (Nat×Nat)} {o:Oper} {f g:Nat→PV} {v:PV} {H':za} (h:∀ t∈zhA (all.map (·.dst)) o,f t=g t) (he:ExT P all ids rs o f H v H'):ExT P all ids rs o g H v H':=by
 have e1:za7 all f o=za7 all g o:=zcK fun t ht=>h t (List.mem_append.2 (.inr ht))
 have e2:∀ x∈o.op.operands.toList,ev f x=ev g x:=fun x hx=>zeB fun t ht=>h t (List.mem_append.2 (.inl (zen (ht▸hx))))
 unfold ExT StI at he ⊢
 simp only [←e1,←zbu e2,←zgA e2]
 exact he
theorem ExT.same {all:List Oper} {ids:List Nat} {rs:List (Nat×Nat)} {o:Oper} {f:Nat→PV} {v:PV} {H':za} (hn:zim rs o=true) (he:ExT P all ids rs o f H v H'):H'=H:=by
 rcases he with ⟨_,_,e⟩|⟨_,h⟩
 ·exact e
 unfold zim at hn
 cases hr:zkC rs o with
 | some p=>rw [hr] at hn;cases hn
 | none=>
  rw [hr] at hn
  simp only [Bool.and_eq_true,Bool.not_eq_true'] at hn
  unfold StI at h
  rw [zcZ hn.1] at h
  dsimp only at h
  unfold zdV at h
  rw [hr] at h
  exact zcx hn.2 h
theorem zvN {all:List Oper} {ids:List Nat} {rs:List (Nat×Nat)}:zkj (ExT P all ids rs) (zfX (all.map (·.dst)) rs):=by
 intro x o f H vx Hx v H1 hc hx ho
 unfold zfX at hc
 simp only [Bool.and_eq_true] at hc
 obtain ⟨⟨⟨c1,c2⟩,c3⟩,c4⟩:=hc
 obtain rfl:=hx.same c3
 obtain rfl:=ho.same c4
 exact ⟨H1,ho.congr fun t ht=>za3 (zax c1 t ht),hx.congr fun t ht=>(za3 (zax c2 t ht)).symm,zd7 (f:=f) (u:=vx) (v:=v) (zdG c1)⟩
theorem zvR {ops:Array Oper} {ids:List Nat} {rs:List (Nat×Nat)}:zmG P N ops (ExT P ops.toList ids rs):=by
 intro o f H v H' C a w hd hw hf he
 rcases he with ⟨h1,h2,h3⟩|⟨h1,h2⟩
 ·have hwant:=zL hf h1
  rw [Array.toArray_toList] at hwant
  exact .inl ⟨hwant,h2,h3⟩
 ·have hwant:=zL hf h1
  rw [Array.toArray_toList] at hwant
  exact .inr ⟨hwant,fun next Q hn=>zeR hd hw hf h2 _ _ hn⟩
theorem zkf {all:List Oper} {ids:List Nat} {rs:List (Nat×Nat)} {K:Fr→za→Prop}:∀ (l:List Oper) (F:Fr) (H:za),VOi P false ids [] rs [] (all.map (·.dst)) l (some (F,H)) K→RunG (ExT P all ids rs) l (slot F) H (fun f H'=>∃ F',f=slot F'∧K F' H')
 | [],F,H,h=>⟨F,rfl,h⟩
 | o::r,F,H,h=>by
  simp only [VOi] at h
  have go:∀ v H',ExT P all ids rs o (slot F) H v H'→VOi P false ids [] rs [] (all.map (·.dst)) r (some (put F o.dst v,H')) K→RunG (ExT P all ids rs) (o::r) (slot F) H (fun f H'=>∃ F',f=slot F'∧K F' H'):=fun v H' he hr=>by
   refine ⟨v,H',he,?_⟩
   rw [←zY]
   exact zkf r _ _ hr
  cases hc:zE o.op with
  | false=>
   simp only [hc] at h
   unfold zmP at h
   split at h
   ·rw [zb8] at h;exact h.elim
   ·rename_i b hb
    cases b with
    | false=>exact go _ _ (.inl ⟨zt all F o hb,rfl,rfl⟩) h
    | true=>
     simp only [cond_true,Bool.not_false,Bool.true_or] at h
     split at h
     ·rename_i v H' hp
      exact go v H' (.inr ⟨zt all F o hb,by unfold StI;rw [zcZ hc];exact hp⟩) h
     ·rw [zb8] at h;exact h.elim
  | true=>
   simp only [hc] at h
   unfold VCi at h
   split at h
   ·exact h.elim
   ·rename_i b hb
    cases b with
    | false=>exact go _ _ (.inl ⟨zt all F o hb,rfl,rfl⟩) (h.2 rfl)
    | true=>
     have h:=h.1 rfl
     unfold VCj at h
     split at h
     ·rename_i fn args hp
      obtain ⟨v,H',h1,h2⟩:=h
      exact go v H' (.inr ⟨zt all F o hb,by unfold StI;rw [hp];exact h1⟩) h2
     ·exact h.elim
theorem PW.drawt {E:Env} {Q:Exit→Fr→za→Prop} {id:Nat} {ops:Array Oper} (ids:List Nat) (rs:List (Nat×Nat)) (hm:P.follows .mixedOrders=true) (hd:zff (zfX (ops.toList.map (·.dst)) rs) E.N ops.toList=true)
  (h:∀ K:Fr→za→Prop,(∀ F' H',Q .normal F' H'→K F' H')→VOi P false ids [] rs [] (ops.toList.map (·.dst)) ops.toList (some (F,H)) K):PW P E (.region id ops true) F H Q:=fun hs C a w hdf hw hf=>by
 refine wp_region_any hm ?_
 have hr:=zkf (P:=P) _ _ _ (h (fun F' H'=>Q .normal F' H') fun _ _ h=>h)
 have hall:∀ i,i<ops.toList.length→zfx (zfX (ops.toList.map (·.dst)) rs) (zeq ops.toList) E.N ops.toList i=true:=by
  intro i hi
  unfold zff at hd
  exact List.all_eq_true.1 hd i (List.mem_range.2 hi)
 refine ziW (P:=P) hall zvN zvR ops.size (Array.replicate ops.size false) (slot F) H C a w.drew (by simp) ?_ (by rw [za0];simp) (by rw [za0,zeI];exact hr) hdf hw.drew hf ?_
 ·intro i o ho hl j hj
  have hi:i<ops.size:=(Array.getElem?_eq_some_iff.1 ho).1
  simp [Array.getD,hi] at hl
 ·rintro C' f' H' a' w' p1 p2 p3 p4 p5 ⟨F',rfl,p6⟩
  exact ⟨C',F',H',p1.toN _,p2,p3,((Below.refl C.B w).drew).trans p4,p5,p6⟩
theorem VCj.now {ids:List Nat} {fp:Fp} {rs:List (Nat×Nat)} {o:Oper} {K:Fr→za→Prop} {g:FuncId} {args:List PV} {v:PV} {H':za} (h:CallOk P g args H v H') (hc:zo o.op (slot F)=some (g,args)) (hk:K (put F o.dst v) H'):VCj P false ids fp rs o F H K:=by
 unfold VCj
 simp only [hc]
 exact ⟨v,H',h,hk⟩
end Go.Proofs.YtjgmdlcjbgiekaaGreatDoor.Pm
namespace Go.Proofs.YtjgmdlcjbgiekaaGreatDoor.Pm
set_option linter.all false
open Go.RowKit
variable {P:Program} {C:Ctx} {H:za} {w:World} {F:Fr} {a:Act} {N:Nat}
def CallPan (P:Program) (f:FuncId) (args:List PV) (H:za) (ch:List PanicEntry) (H':za):Prop:=
 zaG P f=true∧∀ (C:Ctx) (us:List Value) (w:World),WRel C H w→VRels C args us→
  Calls P f us.toArray w fun e w'=>∃ C',CLe C C'∧WRel C' H' w'∧Below C.B w w'∧e= .panicked ch
theorem zcq {all:List Oper} {K:Fr→za→Prop} {D:List Deferred} {rest:List Oper}:∀ (l:List Oper) (F:Fr) (H:za),l.all (zQ N)=true→zbi P all l K F H→∀ (C:Ctx) (a:Act) (w:World),a.defers=D→WRel C H w→FRel C N (slot F) a→
  ∀ Q:Exit→Act→World→Prop,(∀ C' F' H' a' w',CLe C C'→a'.defers=D→WRel C' H' w'→Below C.B w w'→FRel C' N (slot F') a'→K F' H'→wpList P all.toArray Q rest a' w')→wpList P all.toArray Q (l++rest) a w
 | [],F,H,_,h,C,a,w,hd,hw,hf,Q,hQ=>hQ C F H a w (.refl _) hd hw (.refl _ _) hf h
 | o::r,F,H,hall,h,C,a,w,hd,hw,hf,Q,hQ=>by
  simp only [List.all_cons,Bool.and_eq_true] at hall
  simp only [zbi] at h
  rw [List.cons_append]
  split at h
  ·rename_i b hb
   have hwant:=zL hf hb
   unfold wpList
   cases b with
   | true=>
    rw [if_pos hwant]
    left
    have h1:=h.1 rfl
    have step:∀ R,zcj P o (slot F) H R→(∀ v H',R v H'→zbi P all r K (put F o.dst v) H')→o.wp P a w (wpList P all.toArray Q (r++rest)) Q:=fun R he hr=>by
     refine zbH hall.1 hw hf he _ _ fun C' u w' v H' q0 q1 q2 q3 q4=> ?_
     rw [←zY] at q4
     refine zcq (D:=D) (rest:=rest) r _ _ hall.2 (hr v H' q0) C' _ w' (by cases ho:o.dst<;>simp [Act.put,hd]) q2 q4 Q ?_
     intro C'' F'' H'' a'' w'' p1 p2 p3 p4 p5 p6
     exact hQ C'' F'' H'' a'' w'' (q1.trans p1) p2 p3 (q3.trans (by rw [←q1.B];exact p4)) p5 p6
    split at h1
    ·rename_i g args hc
     obtain ⟨R,hcall,hr⟩:=h1
     exact step R (by unfold zcj;rw [hc];exact hcall) hr
    ·rename_i hc
     split at h1
     ·rename_i v H' hp
      exact step (fun v' H''=>v'=v∧H''=H') (by unfold zcj;rw [hc];exact ⟨v,H',hp,rfl,rfl⟩) (fun v' H'' e=>by rw [e.1,e.2];exact h1)
     ·exact h1.elim
   | false=>
    rw [if_neg (by rw [hwant];simp)]
    have h2:=h.2 rfl
    have q4:=hf.put o.dst (zai hall.1) (VRel.undefV (C:=C))
    rw [←zY] at q4
    exact zcq (D:=D) (rest:=rest) r _ _ hall.2 h2 C _ w (by cases ho:o.dst<;>simp [Act.put,hd]) hw q4 Q hQ
  ·exact h.elim
theorem zdO {o:Oper} {f:Nat→PV} {g:FuncId} {args:List PV} {ch:List PanicEntry} {H':za} (hw:WRel C H w) (hf:FRel C N f a) (hc:zo o.op f=some (g,args)) (h:CallPan P g args H ch H')
  (next:Act→World→Prop) (Q:Exit→Act→World→Prop) (hn:∀ C' w',CLe C C'→WRel C' H' w'→Below C.B w w'→FRel C' N f a→Q (.panic ch) a w'):o.wp P a w next Q:=by
 unfold zo at hc
 split at hc
 ·rename_i x xs ts ho
  split at hc
  ·rename_i f' first captured hfv
   simp only [Option.some.injEq,Prod.mk.injEq] at hc
   obtain ⟨rfl,rfl⟩:=hc
   have hv:=zw hf x
   rw [hfv] at hv
   obtain ⟨us,ws,hl,hl',hR,hR',he⟩:∃ us ws,us.length=first.length∧ws.length=captured.length∧Rel C first us∧Rel C captured ws∧a.eval x= .func (.func f') us.toArray ws.toArray:=by
    generalize a.eval x=q at hv
    cases hv with
    | func hl hl' hR hR'=>exact ⟨_,_,hl,hl',hR,hR',rfl⟩
   obtain ⟨hal,har⟩:=zdD hf xs.toList
   have hrun:(execOp a.eval o).run P w= .ok (.enter f' (us++xs.toList.map a.eval++ws).toArray) w:=by
    have e1:us.toArray++xs.map a.eval++ws.toArray=(us++xs.toList.map a.eval++ws).toArray:=by
     apply Array.ext';simp
    simp only [execOp,ho,resolve,he,Deferred.ofValue,invoke,Sem.run_bind,Sem.run_pure,Result.andThen_ok,zcM h.1,e1]
   unfold Oper.wp
   rw [hrun,Oper.upon_enter]
   refine (h.2 C _ w hw ⟨by simp [hl,hl'],Rel.append (by simp [hl]) (Rel.append hl hR har) hR'⟩).mono ?_
   rintro e w' ⟨C',q1,q2,q3,rfl⟩
   exact hn C' w' q1 q2 q3 (hf.mono q1)
  ·cases hc
 ·cases hc
section rules
variable {E:Env} {Q:Exit→Fr→za→Prop}
theorem PW.region_pan {id:Nat} {ops:Array Oper} (n:Nat) (hd:(ops.toList.take n).all (zQ E.N)=true)
  (h:zbi P ops.toList (ops.toList.take n) (fun F' H'=>∃ o r g args ch H'',ops.toList.drop n=o::r∧za7 ops.toList (slot F') o=some true∧zo o.op (slot F')=some (g,args)∧CallPan P g args H' ch H''∧Q (.panic ch) F' H'') F H):
  PW P E (.region id ops false) F H Q:=fun hs C a w hdf hw hf=>by
 refine wp_region_list ?_
 have:=zcq (P:=P) (all:=ops.toList) (rest:=ops.toList.drop n) (ops.toList.take n) F H hd h C a w hdf hw hf (Post E C w Q) (fun C' F' H' a' w' p1 p2 p3 p4 p5 p6=>by
  obtain ⟨o,r,g,args,ch,H'',e1,e2,e3,e4,e5⟩:=p6
  rw [e1]
  unfold wpList
  rw [if_pos (zL p5 e2)]
  left
  exact zdO p3 p5 e3 e4 _ _ fun C'' w'' r1 r2 r3 r4=>⟨C'',F',H'',(p1.trans r1).toN _,p2,r2,p4.trans (by rw [←p1.B];exact r3),r4,e5⟩)
 rw [List.take_append_drop] at this
 simpa using this
end rules
def zw2 (H:za) (Hout:za) (H':za):Prop:=H'=Hout∨(∃ K,H'=H++K∧Hout=H)∨(HSc H→H.length≤Hout.length∧CutH H' Hout)
def zwi (ch:List PanicEntry) (H Hout:za):Exit→Fr→za→Prop
 | .panic ch',_,H'=>ch'=ch∧zw2 H Hout H'
 | _,_,_=>False
theorem CallPan.intro {f:FuncId} {fn:Func} {c:Code} {args:List PV} {ch:List PanicEntry} {Hout:za} (hf:P.funcs[f]? =some fn) (hb:fn.body=some c) (hcall:zaG P f=true) (hn:args.length≤fn.ntmps)
  (h:PW P ⟨fn.ntmps,H⟩ c (zb7 args 0) H (zwi ch H Hout)):CallPan P f args H ch Hout:=by
 refine ⟨hcall,fun C us w hw hargs=>calls_of_wp hf hb ?_⟩
 have hfr:FRel C fn.ntmps (slot (zb7 args 0)) { tmps:=us.toArray++Array.replicate (fn.ntmps - us.toArray.size) Go.undef,defers:=[] }:=by
  refine ⟨by simp [hargs.1];omega,fun t=> ?_⟩
  rw [zcD]
  simp only [Nat.zero_le,if_true,Nat.sub_zero]
  by_cases ht:t<args.length
  ·have htu:t<us.length:=by rw [hargs.1];exact ht
   have e1:args.getD t .undef=args[t]:=by simp [List.getD,ht]
   have e2:(us.toArray++Array.replicate (fn.ntmps - us.toArray.size) Go.undef).getD t Go.undef=us[t]:=by
    rw [Array.getD_eq_getD_getElem?,Array.getElem?_append_left (by simpa using htu)]
    simp [htu]
   rw [e1,e2]
   exact hargs.2 t _ _ (List.getElem?_eq_getElem ht) (List.getElem?_eq_getElem htu)
  ·have e1:args.getD t .undef= .undef:=by simp [List.getD,List.getElem?_eq_none (by omega:args.length≤t)]
   rw [e1]
   exact .undef _
 refine wp_mono (h hw.hsc C _ w rfl hw hfr) ?_
 rintro e a' w' ⟨C',F',H',q1,q2,q3,q4,q5,q6⟩
 have q1':=q1.full hw.lenv
 cases e with
 | panic ch'=>
  obtain ⟨rfl,hp⟩:=q6
  refine ⟨q2,?_⟩
  rcases hp with rfl|⟨K,rfl,rfl⟩|hp
  ·exact ⟨C',q1',q3,q4,rfl⟩
  ·obtain ⟨g1,g2⟩:=WRel.give hw q1' q3
   exact ⟨_,g1,g2,q4,rfl⟩
  ·obtain ⟨hlen,hcut⟩:=hp hw.hsc
   obtain ⟨g1,g2⟩:=q3.cutN hcut
   exact ⟨_,(q1.trans (g1.less hlen)).full hw.lenv,g2,q4,rfl⟩
 | _=>exact q6.elim
theorem CallPan.body {f:FuncId} {fn:Func} {c:Code} {F0:Fr} {args:List PV} {ch:List PanicEntry} {Hout:za} (hf:P.funcs[f]? =some fn) (hb:fn.body=some c) (hN:fn.ntmps=N) (hF:zb7 args 0=F0)
  (hcall:zaG P f=true) (hn:Nat.ble args.length N=true) (h:PW P ⟨N,H⟩ c F0 H (zwi ch H Hout)):CallPan P f args H ch Hout:=by
 subst hN hF
 exact CallPan.intro hf hb hcall (Nat.le_of_ble_eq_true hn) h
end Go.Proofs.YtjgmdlcjbgiekaaGreatDoor.Pm
namespace Go.Proofs.YtjgmdlcjbgiekaaGreatDoor.Pm
set_option linter.all false
open Go.RowKit
variable {P:Program} {C:Ctx} {H:za} {w:World} {F:Fr} {a:Act} {N:Nat}
def pnc (ty:TypeId) (k:IntKind) (e:Int):List PanicEntry:=[{ v:=.iface ty (.agg #[.int k e]),recovered:=false }]
theorem zqI {C:Ctx} {k:IntKind} {e:Int} {u:Value} (h:VRel C (.agg [.int k e]) u):u= .agg #[.int k e]:=by
 cases h with
 | agg hl hc hR=>
  rename_i us
  match us,hl with
  | [y],_=>
   have:=hR 0 _ _ rfl rfl
   cases this
   rfl
section rules
variable {E:Env} {Q:Exit→Fr→za→Prop}
theorem PW.raise {id:Nat} {ops:Array Oper} (n:Nat) {s d:Nat} {ty:TypeId} {k:IntKind} {e:Int} (hd:(ops.toList.take n).all (zQ E.N)=true) (hdN:d<E.N) (hty:P.concrete ty=true)
  (h:zbi P ops.toList (ops.toList.take n) (fun F' H'=>∃ o1 o2 r,ops.toList.drop n=o1::o2::r∧o1.guard=none∧o2.guard=none∧o1.op= .makeInterface ty (.tmp s)∧o1.dst=some d∧o2.op= .panic (.tmp d)∧slot F' s= .agg [.int k e]∧Q (.panic (pnc ty k e)) (put F' (some d) .undef) H') F H):
  PW P E (.region id ops false) F H Q:=fun hs C a w hdf hw hf=>by
 refine wp_region_list ?_
 have:=zcq (P:=P) (all:=ops.toList) (rest:=ops.toList.drop n) (ops.toList.take n) F H hd h C a w hdf hw hf (Post E C w Q) (fun C' F' H' a' w' p1 p2 p3 p4 p5 p6=>by
  obtain ⟨o1,o2,r,e1,g1,g2,x1,d1,x2,hsl,hq⟩:=p6
  rw [e1]
  have hv:=p5.2 s
  rw [hsl] at hv
  have hu:=zqI hv
  have hsz:=p5.1
  have w1:∀ a0:Act,Region.wanted o1 (yielded ops.toList.toArray a0.tmps)=true:=fun a0=>by simp [Region.wanted,g1]
  have w2:∀ a0:Act,Region.wanted o2 (yielded ops.toList.toArray a0.tmps)=true:=fun a0=>by simp [Region.wanted,g2]
  have r1:(execOp a'.eval o1).run P w'= .ok (.value (.iface ty (.agg #[.int k e]))) w':=by
   simp only [execOp,x1]
   have:a'.eval (.tmp s)= .agg #[.int k e]:=hu
   rw [this]
   simp only [Sem.run_bind,run_makeInterface _ _ _ hty,Result.andThen_ok,Sem.run_pure]
  unfold wpList
  rw [if_pos (w1 _)]
  left
  unfold Oper.wp
  rw [r1,Oper.upon_value]
  unfold wpList
  rw [if_pos (w2 _)]
  left
  have hlt:d<a'.tmps.size:=by omega
  have r2:(execOp (a'.put o1.dst (.iface ty (.agg #[.int k e]))).eval o2).run P w'= .halt (.panic (.iface ty (.agg #[.int k e]))) w':=by
   simp only [execOp,x2]
   have:(a'.put o1.dst (.iface ty (.agg #[.int k e]))).eval (.tmp d)= .iface ty (.agg #[.int k e]):=by
    rw [d1]
    simp [Act.put,Act.eval,hlt]
   rw [this]
   simp only [Sem.run_bind,run_panic_iface,Result.andThen_halt]
  unfold Oper.wp
  rw [r2,Oper.upon_panic]
  have q4:=p5.put (some d) (fun t ht=>by injection ht with ht;omega) (VRel.undef (C:=C') (.iface ty (.agg #[.int k e])))
  rw [←zY] at q4
  exact ⟨C',_,H',p1.toN _,by rw [d1];simpa [Act.put] using p2,p3,p4,by rw [d1];exact q4,hq⟩)
 rw [List.take_append_drop] at this
 simpa using this
theorem PW.raiseV {id:Nat} {ops:Array Oper} (n:Nat) {s d:Nat} {ty:TypeId} {k:IntKind} {e:Int} (hd:(ops.toList.take n).all (zQ E.N)=true)
  (hs:∃ o1 o2 r,ops.toList.drop n=o1::o2::r∧o1.guard=none∧o2.guard=none∧o1.op= .makeInterface ty (.tmp s)∧o1.dst=some d∧o2.op= .panic (.tmp d)) (hdN:d<E.N) (hty:P.concrete ty=true)
  (h:∀ K:Fr→za→Prop,(∀ F' H',slot F' s= .agg [.int k e]→Q (.panic (pnc ty k e)) (put F' (some d) .undef) H'→K F' H')→VO P (ops.toList.map (·.dst)) (ops.toList.take n) (some (F,H)) K):PW P E (.region id ops false) F H Q:=by
 obtain ⟨o1,o2,r,e1,e2,e3,e4,e5,e6⟩:=hs
 exact PW.raise n hd hdN hty (zaj _ _ _ (h _ fun F' H' h1 h2=>⟨o1,o2,r,e1,e2,e3,e4,e5,e6,h1,h2⟩))
theorem PW.panV {id:Nat} {ops:Array Oper} (n:Nat) {o:Oper} (hd:(ops.toList.take n).all (zQ E.N)=true) (hs:∃ o' r,ops.toList.drop n=o'::r∧(o'=o∧o'.guard=none))
  (h:∀ K:Fr→za→Prop,(∀ F' H' g args ch H'',zo o.op (slot F')=some (g,args)→CallPan P g args H' ch H''→Q (.panic ch) F' H''→K F' H')→VO P (ops.toList.map (·.dst)) (ops.toList.take n) (some (F,H)) K):PW P E (.region id ops false) F H Q:=by
 obtain ⟨o',r,e1,rfl,e2⟩:=hs
 exact PW.region_pan n hd (zaj _ _ _ (h _ fun F' H' g args ch H'' h1 h2 h3=>⟨o',r,g,args,ch,H'',e1,by unfold za7;rw [e2],h1,h2,h3⟩))
end rules
end Go.Proofs.YtjgmdlcjbgiekaaGreatDoor.Pm
