/-
  Parts of the proof, put together in one text. No condition.
-/
import Derived.Test.YtjgmdlcjbgiekaaGreatDoorQ20
namespace Go.Proofs.YtjgmdlcjbgiekaaGreatDoor.Sc
set_option linter.all false
open Pm Ty Go.RowKit
def ztu:List Int:=List.replicate 64 0
def zl384:List Int:=List.replicate 384 0
def zlv (lv:List Int):Bool:=zbk lv 0&&(zbk lv 1&&(zbk lv 2&&(zbk lv 3&&(zbk lv 4&&(zbk lv 5&&true)))))
theorem zsm (xs ys:List PV):zaP Tryz.prog 10 151 (.agg xs) (.agg ys)=if szT Tryz.prog 3=some 1∧xs.length=64∧ys.length=64 then zdP (.int .i64) xs ys else none:=by kernel_rfl
theorem ztM:szT Tryz.prog 3=some 1:=by kernel_rfl
theorem eqBl (bl:List Int) (h:bl.length=64):zaP Tryz.prog 10 151 (.agg (is bl)) (.agg (is ztu))=some (bl==List.replicate 64 0):=by
 rw [zsm,if_pos ⟨ztM,by rw [zt];exact h,by rw [zt];rfl⟩]
 exact zfO .i64 bl (List.replicate 64 0) (by rw [h];rfl)
theorem zrt (xs:List PV) (off:Nat):rd Tryz.prog 151 xs off=if off+64≤xs.length then some (.agg ((xs.drop off).take 64)) else none:=by kernel_rfl
theorem zv5 (lv:List Int) (n:Nat) (hl:lv.length=384) (hn:n<6):rd Tryz.prog 151 (is lv) (n * 64)=some (.agg (is ((lv.drop (n * 64)).take 64))):=by
 rw [zrt,if_pos (by rw [zt];omega),zew,zdG]
theorem ztt (n:Nat) (hn:n<6):(zl384.drop (n * 64)).take 64=ztu:=by
 unfold zl384 ztu
 rw [List.drop_replicate,List.take_replicate]
 congr 1;omega
theorem zqa (xs ys:List PV):zaP Tryz.prog 11 152 (.agg xs) (.agg ys)=zhh (zaP Tryz.prog 10) Tryz.prog 151 64 xs ys [0,1,2,3,4,5]:=by kernel_rfl
theorem zb1 (lv:List Int) (n:Nat) (r:List Nat) (b:Bool) (hl:lv.length=384) (hn:n<6) (hr:zhh (zaP Tryz.prog 10) Tryz.prog 151 64 (is lv) (is zl384) r=some b):zhh (zaP Tryz.prog 10) Tryz.prog 151 64 (is lv) (is zl384) (n::r)=some (zbk lv n&&b):=by
 have h1:=zv5 lv n hl hn
 have h2:=zv5 zl384 n (List.length_replicate) hn
 rw [ztt n hn] at h2
 have h3:=eqBl _ (ziS lv n hl hn)
 unfold zhh
 rw [h1,h2]
 simp only [h3,hr]
 rfl
theorem eqLv (lv:List Int) (hl:lv.length=384):zaP Tryz.prog 11 152 (.agg (is lv)) (.agg (is zl384))=some (zlv lv):=by
 rw [zqa]
 exact zb1 lv 0 _ _ hl (by omega) (zb1 lv 1 _ _ hl (by omega) (zb1 lv 2 _ _ hl (by omega) (zb1 lv 3 _ _ hl (by omega) (zb1 lv 4 _ _ hl (by omega) (zb1 lv 5 _ _ hl (by omega) rfl)))))
theorem zrr (xs:List PV) (off:Nat):rd Tryz.prog 152 xs off=if off+384≤xs.length then some (.agg ((xs.drop off).take 384)) else none:=by kernel_rfl
def zMb:Mb:=⟨0,false,false,false,false,0,0,0,0,0,0,0,0,0,0,0,0,0,false,false,false,false,false,false,zl384⟩
def zmv:List PV:=mbc zMb
theorem zu9:zd3 Tryz.prog 154 []=some (.agg zmv):=by kernel_rfl
def mbF (P:Program):List Field:=match P.underlying 154 with|some (.struct fs)=>fs.toList|_=>[]
def zun (P:Program):List Field:=(mbF P).take 8
def zuo (P:Program):List Field:=(mbF P).drop 8
theorem zjE (eq:TypeId→PV→PV→Option Bool) (P:Program) (xs ys:List PV) (s:List Field) (b:Bool) (hs:zbV eq P xs ys s=some b):∀ (r:List Field) (a:Bool),zbV eq P xs ys r=some a→zbV eq P xs ys (r++s)=some (a&&b)
 | [],a,h=>by
  cases h
  exact hs
 | f::r,a,h=>by
  rw [List.cons_append]
  revert h
  simp only [zbV]
  cases decide (f.name = "_") with
  | true=>intro h;cases h
  | false=>
   cases rd P f.type xs f.offset with
   | none=>intro h;cases h
   | some x=>
    cases rd P f.type ys f.offset with
    | none=>intro h;cases h
    | some y=>
     dsimp only
     cases eq f.type x y with
     | none=>intro h;cases h
     | some c=>
      dsimp only
      cases hq:zbV eq P xs ys r with
      | none=>intro h;cases h
      | some q=>
       rw [zjE eq P xs ys s b hs r q hq]
       intro h
       cases h
       simp [Bool.and_assoc]
def zA (m:Mb):Bool:=
 (m.k==0)&&(((m.ua==false)&&((m.ub==false)&&true))&&((m.fp==false)&&((m.fd==false)&&((((((m.va==0)&&((m.vb==0)&&true))&&(((m.vc==0)&&((m.vd==0)&&true))&&true)))&&(((((m.ve==0)&&((m.vf==0)&&true))&&(((m.vg==0)&&((m.vh==0)&&true))&&true)))&&true))&&((((m.sa==0)&&((m.sb==0)&&true))&&((((m.sc==0)&&((m.sd==0)&&true)))&&true))&&((m.dl==0)&&(((m.ca==false)&&((m.cb==false)&&((m.cc==false)&&((m.cd==false)&&((m.ce==false)&&((m.cf==false)&&true))))))&&true)))))))
def zmb (m:Mb):Bool:=zA m&&(zlv m.lv&&true)
theorem zwd (k:Int) (ua ub fp fd:Bool) (va vb vc vd ve vf vg vh sa sb sc sd dl:Int) (ca cb cc cd ce cf:Bool) (lv:List Int):zbV (zaP Tryz.prog 11) Tryz.prog (mbc ⟨k,ua,ub,fp,fd,va,vb,vc,vd,ve,vf,vg,vh,sa,sb,sc,sd,dl,ca,cb,cc,cd,ce,cf,lv⟩) zmv (zun Tryz.prog)=some (zA ⟨k,ua,ub,fp,fd,va,vb,vc,vd,ve,vf,vg,vh,sa,sb,sc,sd,dl,ca,cb,cc,cd,ce,cf,lv⟩):=by kernel_rfl
theorem znd (xs ys:List PV) (x y:PV) (b:Bool) (hx:rd Tryz.prog 152 xs 24=some x) (hy:rd Tryz.prog 152 ys 24=some y) (hb:zaP Tryz.prog 11 152 x y=some b):zbV (zaP Tryz.prog 11) Tryz.prog xs ys (zuo Tryz.prog)=some (b&&true):=by
 have e:zbV (zaP Tryz.prog 11) Tryz.prog xs ys (zuo Tryz.prog)=match rd Tryz.prog 152 xs 24,rd Tryz.prog 152 ys 24 with
   | some a,some b=>match zaP Tryz.prog 11 152 a b with
    | some c=>some (c&&true)
    | none=>none
   | _,_=>none:=by kernel_rfl
 rw [e,hx,hy]
 simp only [hb]
theorem zpz (m:Mb):(mbc m).drop 24=is m.lv:=rfl
theorem zT (m:Mb) (hl:m.lv.length=384):(mbc m).length=408:=by
 simp only [mbc,List.length_cons,zt,hl]
theorem zv1 (m:Mb) (hl:m.lv.length=384):rd Tryz.prog 152 (mbc m) 24=some (.agg (is m.lv)):=by
 rw [zrr,if_pos (by rw [zT m hl];omega),zpz,List.take_of_length_le (by rw [zt];omega)]
theorem zrG (xs ys:List PV):zaP Tryz.prog 12 154 (.agg xs) (.agg ys)=zbV (zaP Tryz.prog 11) Tryz.prog xs ys ((zun Tryz.prog)++(zuo Tryz.prog)):=by kernel_rfl
theorem eqMb (m:Mb) (hl:m.lv.length=384):zdm Tryz.prog .eql 154 (.agg (mbc m)) (.agg zmv)=some (.bool (zmb m)):=by
 have e:∀ x y,zdm Tryz.prog .eql 154 x y=match zaP Tryz.prog 12 154 x y with|some b=>peq .eql b|none=>none:=fun x y=>by kernel_rfl
 have hz:zmv=mbc zMb:=rfl
 rw [e,zrG,hz,zjE _ _ _ _ _ _ (znd _ _ _ _ _ (zv1 m hl) (zv1 zMb List.length_replicate) (eqLv m.lv hl)) (zun Tryz.prog) (zA m) (zwd ..)]
 rfl
theorem znF:zlv zl384=true:=by decide
theorem opMb (F:Nat→PV) (H:za):pop Tryz.prog (.build 154 #[]) F H=some (.agg zmv,H):=by
 show (zd3 Tryz.prog 154 []).map (fun v=>(v,H))=_
 rw [zu9];rfl
theorem zvO (ds:List (Option Nat)) (d:Option Nat) (t:TypeId) (a:Array Edge) (g:Option (Nat×Bool)) (p:String) (F:Fr) (H:za):stp Tryz.prog ds { op:=.build 154 #[],dst:=d,type:=t,after:=a,guard:=g,pos:=p } F H=match zac ds F { op:=.build 154 #[],dst:=d,type:=t,after:=a,guard:=g,pos:=p } with
  | none=>none
  | some b=>cond b (some (put F d (.agg zmv),H)) (some (put F d (.tup []),H)):=by
 rw [zob,opMb];rfl
theorem eqB2 (a b:Bool):zdm Tryz.prog .eql 143 (.agg [.bool a,.bool b]) (.agg [.bool false,.bool false])=some (.bool ((a==false)&&((b==false)&&true))):=by kernel_rfl
theorem eqB6 (a b c d e f:Bool):zdm Tryz.prog .eql 150 (.agg [.bool a,.bool b,.bool c,.bool d,.bool e,.bool f]) (.agg [.bool true,.bool true,.bool true,.bool true,.bool true,.bool true])=some (.bool ((a==true)&&((b==true)&&((c==true)&&((d==true)&&((e==true)&&((f==true)&&true))))))):=by kernel_rfl
theorem eqV4 (a b c d e f g h:Int):zdm Tryz.prog .eql 147 (.agg [.int .i64 a,.int .i64 b,.int .i64 c,.int .i64 d,.int .i64 e,.int .i64 f,.int .i64 g,.int .i64 h]) (.agg [.int .i64 0,.int .i64 0,.int .i64 0,.int .i64 0,.int .i64 0,.int .i64 0,.int .i64 0,.int .i64 0])=some (.bool ((((a==0)&&((b==0)&&true))&&(((c==0)&&((d==0)&&true))&&true))&&((((e==0)&&((f==0)&&true))&&(((g==0)&&((h==0)&&true))&&true))&&true))):=by kernel_rfl
theorem eqI4 (a b c d:Int):zdm Tryz.prog .eql 149 (.agg [.int .i64 a,.int .i64 b,.int .i64 c,.int .i64 d]) (.agg [.int .i64 0,.int .i64 0,.int .i64 0,.int .i64 0])=some (.bool (((a==0)&&((b==0)&&true))&&(((c==0)&&((d==0)&&true))&&true))):=by kernel_rfl
theorem zsI (H:za):CallOk Tryz.prog 205 [] H (.agg [.bool true,.bool true,.bool true,.bool true,.bool true,.bool true]) H:=by
 refine CallOk.body (F0:=[]) Tryz.func205 rfl Tryz.ntmps205 Tryz.results205 rfl (by kernel_rfl) rfl ?_
 refine PW.e ?_
 refine PW.e ?_
 refine PW.ret ⟨.agg [.bool true,.bool true,.bool true,.bool true,.bool true,.bool true],by simp (disch:=omega) only [go_sem,↓reduceIte,reduceCtorEq,zd,zg,List.mapM_cons,List.mapM_nil,Option.pure_def,Option.bind_eq_bind,Option.bind_some,Array.toList],?_⟩
 refine Fin.base (.id (zB fun x hx=> ?_))
 simp only [List.mem_cons,List.not_mem_nil,or_false,or_self] at hx
 subst hx
 exact .bool _
def zI (m:Mb):Bool:=(((m.ua==false)&&((m.ub==false)&&true))&&(!m.fp&&(((((m.va==0)&&((m.vb==0)&&true))&&(((m.vc==0)&&((m.vd==0)&&true))&&true))&&((((m.ve==0)&&((m.vf==0)&&true))&&(((m.vg==0)&&((m.vh==0)&&true))&&true))&&true))&&(((m.sa==0)&&((m.sb==0)&&true))&&(((m.sc==0)&&((m.sd==0)&&true))&&true)))))
def aC (m:Mb):Bool:=(m.ca==true)&&((m.cb==true)&&((m.cc==true)&&((m.cd==true)&&((m.ce==true)&&((m.cf==true)&&true)))))
def fmS (c:Cx) (m:Mb):Bool:=vcx c&&(if m.k=0 then !decide (c.t=1)&&zmb m else if m.k=1 then zI m&&(aC m&&(fch c m&&lvr m.lv)) else if m.k=2 then ziy c m else false)
theorem zr4 (c:Cx) (m:Mb) (hk:m.k=2) (ht:¬c.t=1):ziy c m=(znp c m&&(fch c m&&(fbl (cdl m) m.lv&&lvr m.lv))):=by
 unfold ziy znp fch
 generalize zgc c m=u
 generalize d0S c m=x
 generalize d1S c m=y
 generalize lvr m.lv=l
 generalize fbl (cdl m) m.lv=f
 generalize hlM m=hh
 generalize bcx c=b
 generalize win m.dl 30=w
 generalize m.fd=fd
 generalize m.fp=fp
 generalize decide (m.dl=0)=dz
 rw [decide_eq_false ht]
 revert u x y l f hh b w fd fp dz
 decide
theorem zuB (c:Cx) (m:Mb) (ht:c.t=1):ziy c m=false:=by
 unfold ziy
 rw [decide_eq_true ht];rfl
set_option maxHeartbeats 3200000 in
set_option maxRecDepth 10000 in
theorem zwC (c:Cx) (m:Mb) (H:za) (hl:m.lv.length=384):CallOk Tryz.prog 132 [.agg (cxc c),.agg (mbc m)] H (.bool (fmS c m)) H:=by
 have vo:=fun H=>zkl c H
 have hgt:∀ T,(H++[T,mB m])[H.length+1]? =some (mB m):=fun T=>by simp
 have ho:=fun T=>zuP c m (H.length+1) (H++[T,mB m]) (hgt T)
 have fo:=fun T=>zsb c m (H.length+1) (H++[T,mB m]) (hgt T)
 have bo:=fun T=>zuQ m (H.length+1) (H++[T,mB m]) (hgt T) hl
 have lo:=fun T=>zup m (H.length+1) (H++[T,mB m]) (hgt T) hl
 have ao:=fun H=>zsI H
 have hi:=zr4 c m
 have hi1:=zuB c m
 have hr:fmS c m=(vcx c&&(if m.k=0 then !decide (c.t=1)&&zmb m else if m.k=1 then zI m&&(aC m&&(fch c m&&lvr m.lv)) else if m.k=2 then ziy c m else false)):=rfl
 generalize fmS c m=r at hr ⊢
 generalize vcx c=vv at vo hr
 generalize fch c m=fc at ho hi hr
 generalize znp c m=fr at fo hi
 generalize fbl (cdl m) m.lv=fb at bo hi
 generalize lvr m.lv=lr at lo hi hr
 generalize ziy c m=is0 at hi hi1 hr
 have hzm:zmb m=zmb m:=rfl
 generalize hzI:zI m=zi at hr
 generalize hac:aC m=ac at hr
 have hem:=eqMb m hl
 generalize zmb m=zm at hem hr
 obtain ⟨k,ua,ub,fp,fd,va,vb,vc,vd,ve,vf,vg,vh,sa,sb,sc,sd,dl,ca,cb,cc,cd,ce,cf,lv⟩:=m
 obtain ⟨t,s,ii,n⟩:=c
 clear hgt
 simp only [mB,mbc] at hr hi hi1 ho fo bo lo hl hem ⊢
 have hall:=zU lv
 have htk:List.take 384 (is lv)=is lv:=List.take_of_length_le (by rw [zt];omega)
 refine CallOk.body (F0:=[(0,.agg [.int .i64 t,.int .i64 s,.bool ii,.bool n]),(1,.agg (.int .i64 k:: .bool ua:: .bool ub:: .bool fp:: .bool fd:: .int .i64 va:: .int .i64 vb:: .int .i64 vc:: .int .i64 vd:: .int .i64 ve:: .int .i64 vf:: .int .i64 vg:: .int .i64 vh:: .int .i64 sa:: .int .i64 sb:: .int .i64 sc:: .int .i64 sd:: .int .i64 dl:: .bool ca:: .bool cb:: .bool cc:: .bool cd:: .bool ce:: .bool cf::is lv))]) Tryz.func132 rfl Tryz.ntmps132 Tryz.results132 rfl (by kernel_rfl) rfl ?_
 refine PW.f (fun K k=>by simp (disch:=omega) only [go_sem,↓reduceIte,reduceCtorEq,hall];exact k) ?_
 (repeat refine PW.seq ?_)
 refine PW.rgv (P:=Tryz.prog) [2,3] 18 (.bool (!vv||(!decide (k=1)&&decide (t=1)))) ?_ ?_ ?_
 ·rfl
 ·simp (disch:=omega) only [go_sem,↓reduceIte,reduceCtorEq];(repeat' (first|((first|refine zj ?_ ?_|refine And.intro ?_ ?_)<;>intro h<;>(try simp only [nqb] at h)<;>simp (disch:=omega) only [go_sem,↓reduceIte,reduceCtorEq,h])|((first|refine VCx.call (vo _) rfl ?_);simp (disch:=omega) only [go_sem,↓reduceIte,reduceCtorEq])))
  all_goals (clear vo ho fo bo lo hi hr hall htk hem;(simp_all [slot,Nat.beq]<;>first|rfl|omega|(rw [Bool.eq_iff_iff];simp;done)|(rw [Bool.eq_iff_iff];simp;omega)))
 (repeat refine PW.seq ?_);refine PW.cond (t:=_) rfl (fun h=> ?_) (fun h=> ?_)
 ·refine PW.e ?_
  (refine PW.ret ⟨_,rfl,?_⟩;first|refine .inl ⟨?_,rfl⟩|refine Fin.base (.id' ?_ (.bool _))|refine Fin.base (.id' ?_ (.int _ _)))
  clear vo ho fo bo lo hi hall htk hem
  rw [hr]
  cases vv
  ·rfl
  ·have hk1:¬k=1∧t=1:=by simpa using h
   simp [hk1.1,hk1.2,hi1 hk1.2,slot,Nat.beq]
 refine PW.skip ?_
 have hvv:vv=true∧(k=1∨¬t=1):=by
  cases vv
  ·cases h
  ·refine ⟨rfl,?_⟩
   by_cases hk1:k=1
   ·exact .inl hk1
   ·exact .inr (by simpa [hk1] using h)
 rw [hvv.1,Bool.true_and] at hr
 clear vo h
 refine PW.e ?_
 (repeat refine PW.seq ?_);refine PW.block ?_
 refine PW.e ?_
 (repeat refine PW.seq ?_);refine PW.cond (t:=_) rfl (fun h=> ?_) (fun h=> ?_)
 ·have hk0:k=0:=of_decide_eq_true h
  subst hk0
  have ht:¬t=1:=by rcases hvv.2 with h1|h1;(cases h1);exact h1
  rw [if_pos rfl,decide_eq_false ht] at hr
  refine PW.f (fun K k=>by simp (disch:=omega) only [go_sem,↓reduceIte,reduceCtorEq,hall,zt,hl,htk,↓zvO,↓hem];exact k) ?_
  (refine PW.ret ⟨_,rfl,?_⟩;first|refine .inl ⟨?_,rfl⟩|refine Fin.base (.id' ?_ (.bool _))|refine Fin.base (.id' ?_ (.int _ _)))
  rw [hr];rfl
 have hk0:¬k=0:=of_decide_eq_false h
 rw [if_neg hk0] at hr
 refine PW.e ?_
 (repeat refine PW.seq ?_);refine PW.cond (t:=_) rfl (fun h=> ?_) (fun h=> ?_)
 ·have hk1:k=1:=of_decide_eq_true h
  subst hk1
  rw [if_pos rfl] at hr
  have q1:=eqB2 ua ub
  have q2:=eqV4 va vb vc vd ve vf vg vh
  have q3:=eqI4 sa sb sc sd
  have q4:=eqB6 ca cb cc cd ce cf
  have hz2:zi=(((ua==false)&&((ub==false)&&true))&&(!fp&&(((((va==0)&&((vb==0)&&true))&&(((vc==0)&&((vd==0)&&true))&&true))&&((((ve==0)&&((vf==0)&&true))&&(((vg==0)&&((vh==0)&&true))&&true))&&true))&&(((sa==0)&&((sb==0)&&true))&&(((sc==0)&&((sd==0)&&true))&&true))))):=hzI.symm
  have hc2:ac=((ca==true)&&((cb==true)&&((cc==true)&&((cd==true)&&((ce==true)&&((cf==true)&&true)))))):=hac.symm
  rw [←hc2] at q4
  generalize ((ua==false)&&((ub==false)&&true))=b1 at q1 hz2
  generalize (((((va==0)&&((vb==0)&&true))&&(((vc==0)&&((vd==0)&&true))&&true))&&((((ve==0)&&((vf==0)&&true))&&(((vg==0)&&((vh==0)&&true))&&true))&&true)))=b2 at q2 hz2
  generalize (((sa==0)&&((sb==0)&&true))&&(((sc==0)&&((sd==0)&&true))&&true))=b3 at q3 hz2
  clear hc2 hzI hac hem hi hi1 hzm fo bo
  (repeat refine PW.seq ?_)
  refine PW.rgv (P:=Tryz.prog) [2,3] 5 (.bool zi) ?_ ?_ ?_
  ·rfl
  ·simp (disch:=omega) only [go_sem,↓reduceIte,reduceCtorEq,↓q1,↓q2,↓q3];(repeat' ((first|refine zj ?_ ?_|refine zn ?_ ?_|refine zN ?_ ?_|refine VOh_cond ?_ ?_|refine zM ?_ ?_|refine And.intro ?_ ?_)<;>intro h<;>(try simp only [nqb] at h)<;>simp (disch:=omega) only [go_sem,↓reduceIte,reduceCtorEq,↓q1,↓q2,↓q3,h]))
   all_goals (clear ho lo hr hall htk q1 q2 q3 q4;subst hz2;(simp_all [slot,Nat.beq]<;>first|rfl|omega|(rw [Bool.eq_iff_iff];simp;done)|(rw [Bool.eq_iff_iff];simp;omega)))
  clear hz2
  cases zi
  ·(repeat refine PW.seq ?_);refine PW.draw mix (by kernel_rfl) fun K hK=> ?_;simp (disch:=omega) only [go_sem,↓reduceIte,reduceCtorEq]
   refine hK _ _ ?_;(refine PW.ret ⟨_,rfl,?_⟩;first|refine .inl ⟨?_,rfl⟩|refine Fin.base (.id' ?_ (.bool _))|refine Fin.base (.id' ?_ (.int _ _)))
   rw [hr];rfl
  (repeat refine PW.seq ?_);refine PW.draw mix (by kernel_rfl) fun K hK=> ?_;simp (disch:=omega) only [go_sem,↓reduceIte,reduceCtorEq,↓q4];refine VCy.callP ao rfl ?_;simp (disch:=omega) only [go_sem,↓reduceIte,reduceCtorEq,↓q4];(repeat' (first|((first|refine zn ?_ ?_|refine And.intro ?_ ?_)<;>intro h<;>(try simp only [nqb] at h)<;>simp (disch:=omega) only [go_sem,↓reduceIte,reduceCtorEq,↓q4,h])|((first|refine VCy.call (ho _) rfl ?_|refine VCy.call (lo _) rfl ?_);simp (disch:=omega) only [go_sem,↓reduceIte,reduceCtorEq,↓q4])))
  all_goals (refine hK _ _ ?_;(refine PW.ret ⟨_,rfl,?_⟩;first|refine .inl ⟨?_,rfl⟩|refine Fin.base (.id' ?_ (.bool _))|refine Fin.base (.id' ?_ (.int _ _)));clear hK ho lo hall htk q1 q2 q3 q4;subst hr;(simp_all [slot,Nat.beq]<;>first|rfl|omega|(rw [Bool.eq_iff_iff];simp;done)|(rw [Bool.eq_iff_iff];simp;omega)))
 have hk1:¬k=1:=of_decide_eq_false h
 rw [if_neg hk1] at hr
 refine PW.e ?_
 (repeat refine PW.seq ?_);refine PW.cond (t:=_) rfl (fun h=> ?_) (fun h=> ?_)
 ·have hk2:k=2:=of_decide_eq_true h
  subst hk2
  have ht:¬t=1:=by rcases hvv.2 with h1|h1;(cases h1);exact h1
  rw [if_pos rfl,hi rfl ht] at hr
  clear hi hi1 hzI hac hem hzm
  (repeat refine PW.seq ?_);refine PW.rg rfl fun K hK=> ?_;simp (disch:=omega) only [go_sem,↓reduceIte,reduceCtorEq];(repeat' (first|((first|refine zj ?_ ?_|refine And.intro ?_ ?_)<;>intro h<;>(try simp only [nqb] at h)<;>simp (disch:=omega) only [go_sem,↓reduceIte,reduceCtorEq,h])|((first|refine VCx.call (fo _) rfl ?_|refine VCx.call (ho _) rfl ?_|refine VCx.call (bo _) rfl ?_|refine VCx.call (lo _) rfl ?_);simp (disch:=omega) only [go_sem,↓reduceIte,reduceCtorEq])))
  all_goals (refine hK _ _ ?_;(refine PW.ret ⟨_,rfl,?_⟩;first|refine .inl ⟨?_,rfl⟩|refine Fin.base (.id' ?_ (.bool _))|refine Fin.base (.id' ?_ (.int _ _)));clear hK fo bo ho lo hall htk;subst hr;(simp_all [slot,Nat.beq]<;>first|rfl|omega|(rw [Bool.eq_iff_iff];simp;done)|(rw [Bool.eq_iff_iff];simp;omega)))
 have hk2:¬k=2:=of_decide_eq_false h
 rw [if_neg hk2] at hr
 refine PW.skip ?_
 refine PW.e ?_
 (refine PW.ret ⟨_,rfl,?_⟩;first|refine .inl ⟨?_,rfl⟩|refine Fin.base (.id' ?_ (.bool _))|refine Fin.base (.id' ?_ (.int _ _)))
 rw [hr];rfl
structure St where
 q:Int
 da:Int
 db:Int
 dc:Int
 va:Int
 vb:Int
 vc:Int
 vd:Int
def stc (s:St):List PV:=[.int .i64 s.q,.int .i64 s.da,.int .i64 s.db,.int .i64 s.dc,.int .i64 s.va,.int .i64 s.vb,.int .i64 s.vc,.int .i64 s.vd]
def st0 (q:Int):St:=⟨q,0,0,0,0,0,0,0⟩
theorem zcM (s:St) (n:Nat):Scoped n (.agg (stc s)):=zB fun x hx=>by
 simp only [stc,List.mem_cons,List.not_mem_nil,or_false] at hx
 rcases hx with rfl|rfl|rfl|rfl|rfl|rfl|rfl|rfl<;>exact .int _ _
theorem zof (q:Int) (H:za):CallOk Tryz.prog 116 [.int .i64 q] H (.agg (stc (st0 q))) H:=by
 refine CallOk.body (F0:=[(0,.int .i64 q)]) Tryz.func116 rfl Tryz.ntmps116 Tryz.results116 rfl (by kernel_rfl) rfl ?_
 refine PW.e ?_
 refine PW.e ?_
 refine PW.ret ⟨.agg [.int .i64 q,.int .i64 0,.int .i64 0,.int .i64 0,.int .i64 0,.int .i64 0,.int .i64 0,.int .i64 0],by simp (disch:=omega) only [go_sem,↓reduceIte,reduceCtorEq,zd,zg,List.mapM_cons,List.mapM_nil,Option.pure_def,Option.bind_eq_bind,Option.bind_some,Array.toList],?_⟩
 exact Fin.base (.id (zcM (st0 q) _))
theorem za8 (s:Sq):(sqc s).all PV.cell=true:=by simp [sqc,bs,PV.cell]
theorem zbs (s:Sq) (hs:SqOk s):(sqc s).length=135:=by
 obtain ⟨_,_,_,_,_,_,h1,h2⟩:=hs
 simp [sqc,ze,h1,h2]
theorem zdf (s:Sq) (hs:SqOk s):List.take 135 (sqc s)=sqc s:=List.take_of_length_le (by rw [zbs s hs];exact Nat.le_refl _)
theorem zoi (s:Sq):(sqc s)[0]? =some (.int .i64 s.w):=rfl
theorem zvU (s:Sq):(sqc s)[4]? =some (.bool s.il):=rfl
def zfb (s:Sq) (p:Pi) (b:Bool):Bool:=zL s p&& !(b&&decide (p.st=3))
def cxP (s:Sq) (p:Pi) (b:Bool):Cx:=⟨p.ty,p.st,s.il,b⟩
theorem zmr (s:Sq) (p:Pi) (b:Bool) (H:za) (hs:SqOk s):CallOk Tryz.prog 113 [.agg (sqc s),.agg (pic p),.bool b] H (.bool (zfb s p b)) H:=by
 have pv:=fun K=>zcy s p K hs
 have h1:=za8 s
 have h2:=zbs s hs
 have h3:=zdf s hs
 have hst:(p.st==3)=decide (p.st=3):=rfl
 generalize hr:zfb s p b=r
 unfold zfb at hr
 generalize zL s p=v at *
 refine CallOk.body (F0:=[(0,.agg (sqc s)),(1,.agg (pic p)),(2,.bool b)]) Tryz.func113 rfl Tryz.ntmps113 Tryz.results113 rfl (by kernel_rfl) rfl ?_
 refine PW.f (fun K k=>by simp (disch:=omega) only [go_sem,↓reduceIte,reduceCtorEq,h1,pic];exact k) ?_
 cases v<;>cases b
 all_goals
  (repeat refine PW.seq ?_);refine PW.rg rfl fun K hK=> ?_;simp (disch:=omega) only [go_sem,↓reduceIte,reduceCtorEq,h2,h3]
  refine VCx.call (pv _) rfl ?_;simp (disch:=omega) only [go_sem,↓reduceIte,reduceCtorEq];refine hK _ _ ?_;clear hK K
  refine PW.ret ⟨_,rfl,Fin.base (.id' ?_ (.bool _))⟩
  subst hr
  first|(simp [slot,Nat.beq];done)|(simp [slot,Nat.beq];rfl)
theorem zqr (s:Sq) (p:Pi) (b:Bool) (H:za) (hs:SqOk s):CallOk Tryz.prog 75 [.agg (sqc s),.agg (pic p),.bool b] H (.agg (cxc (cxP s p b))) H:=by
 have h1:=za8 s
 have h2:=zbs s hs
 have h4:=zvU s
 refine CallOk.body (F0:=[(0,.agg (sqc s)),(1,.agg (pic p)),(2,.bool b)]) Tryz.func75 rfl Tryz.ntmps75 Tryz.results75 rfl (by kernel_rfl) rfl ?_
 refine PW.f (fun K k=>by simp (disch:=omega) only [go_sem,↓reduceIte,reduceCtorEq,h1,pic];exact k) ?_
 refine PW.f (fun K k=>by simp (disch:=omega) only [go_sem,↓reduceIte,reduceCtorEq,h2,h4];exact k) ?_
 refine PW.ret ⟨.agg [.int .i64 p.ty,.int .i64 p.st,.bool s.il,.bool b],by simp (disch:=omega) only [go_sem,↓reduceIte,reduceCtorEq,zd,zg,List.mapM_cons,List.mapM_nil,Option.pure_def,Option.bind_eq_bind,Option.bind_some,Array.toList],?_⟩
 refine Fin.base (.id (zB fun x hx=> ?_))
 simp only [List.mem_cons,List.not_mem_nil,or_false] at hx
 rcases hx with rfl|rfl|rfl|rfl
 ·exact .int _ _
 ·exact .int _ _
 ·exact .bool _
 ·exact .bool _
def zb (l:List Bool):List UInt8:=l.map fun b=>if b then 1 else 0
def zbA (p:List UInt8) (k:Nat):Nat:=(p.getD (k / 8) 0).toNat / 2^(7 - k%8)%2
theorem zfH (p:List UInt8) (k:Nat):zbA p k<2:=Nat.mod_lt _ (by omega)
def vl (p:List UInt8) (a:Nat):Nat→Nat
 | 0=>0
 | n+1=>2 * vl p a n+zbA p (a+n)
theorem zjb (p:List UInt8) (a:Nat):∀ n,vl p a n<2^n
 | 0=>by simp [vl]
 | n+1=>by
  have h1:=zjb p a n
  have h2:=zfH p (a+n)
  rw [vl,Nat.pow_succ]
  omega
theorem zm3 (k':IntKind) (V:Nat) (h:2 * V<4294967296):zbc .shl .u32 (V:Int) k' 1=some (.int .u32 ((2 * V:Nat):Int)):=by
 simp only [zbc,IntKind.bits]
 rw [if_neg (by omega),show min (1:Int).toNat 32=1 from rfl,show (V:Int) * (2:Int)^1=((2 * V:Nat):Int) by omega,w32 _ (by omega)]
theorem zrJ (a b:Nat) (hb:b<2):2 * a|||b=2 * a+b:=by
 have h1:2 * a=a<<<1:=by rw [Nat.shiftLeft_eq];omega
 rw [h1,Nat.shiftLeft_add_eq_or_of_lt (by simpa using hb)]
theorem zrA (a b:Nat) (hb:b<2) (h:2 * a<4294967296):zbc .or .u32 ((2 * a:Nat):Int) .u32 (b:Int)=some (.int .u32 ((2 * a+b:Nat):Int)):=by
 have key0:(BitVec.ofInt 32 ((2 * a:Nat):Int)|||BitVec.ofInt 32 (b:Int)).toNat=2 * a+b:=by
  rw [BitVec.ofInt_natCast,BitVec.ofInt_natCast,BitVec.toNat_or,BitVec.toNat_ofNat,BitVec.toNat_ofNat,Nat.mod_eq_of_lt (by omega),Nat.mod_eq_of_lt (by omega)]
  exact zrJ a b hb
 have key:(BitVec.ofInt IntKind.u32.bits ((2 * a:Nat):Int)|||BitVec.ofInt IntKind.u32.bits (b:Int)).toNat=2 * a+b:=key0
 simp only [zbc,key,if_true]
 rw [w32 _ (by omega)]
def rA (p:List UInt8) (n a:Nat):Blk:=⟨276,0,[.slice (bs p) p.length false,.int .i64 (n:Int),.int .i64 (a:Int)]⟩
theorem zoK (i:Nat) (p:List UInt8) (n a:Nat) (H:za) (hA:H[i]? =some (rA p n a)) (ha:a≤n) (hn:n≤1000000000):CallOk Tryz.prog 118 [.ptr i 0 0] H (.int .i64 ((n - a:Nat):Int)) H:=by
 have e:(n:Int) - (a:Int)=((n - a:Nat):Int):=by omega
 refine CallOk.body (F0:=[(0,.ptr i 0 0)]) Tryz.func118 rfl Tryz.ntmps118 Tryz.results118 rfl (by kernel_rfl) rfl ?_
 (repeat' (first|refine PW.seq ?_|refine PW.skip ?_|refine PW.block ?_|((first|refine PW.rg rfl fun K hK=> ?_|refine PW.draw mix (by kernel_rfl) fun K hK=> ?_);simp (disch:=omega) only [go_sem,↓reduceIte,reduceCtorEq,hA,rA,e])|((first|refine zj ?_ ?_|refine zn ?_ ?_|refine And.intro ?_ ?_)<;>intro h<;>(try simp only [nqb] at h)<;>simp (disch:=omega) only [go_sem,↓reduceIte,reduceCtorEq,hA,rA,e,h])|(refine hK _ _ ?_;clear hK K)|(refine PW.cond (t:=_) rfl (fun h=> ?_) (fun h=> ?_)<;>(try (cases h;done))<;>(try simp only [nqb] at h))))
 all_goals exact PW.ret ⟨_,rfl,Fin.now⟩
theorem zbD (i:Nat) (p:List UInt8) (n a m:Nat) (H:za) (hA:H[i]? =some (rA p n a)) (ha:a≤n) (hn:n≤1000000000) (hm:m≤32) (hs:n - a<m):
  CallOk Tryz.prog 115 [.ptr i 0 0,.int .i64 (m:Int)] H (.tup [.int .u32 0,.int .i64 4]) H:=by
 refine CallOk.body (F0:=[(0,.ptr i 0 0),(1,.int .i64 (m:Int))]) Tryz.func115 rfl Tryz.ntmps115 Tryz.results115 rfl (by kernel_rfl) rfl ?_
 (repeat' (first|refine PW.seq ?_|refine PW.skip ?_|refine PW.block ?_|((first|refine PW.rg rfl fun K hK=> ?_|refine PW.draw mix (by kernel_rfl) fun K hK=> ?_);simp (disch:=omega) only [go_sem,↓reduceIte,reduceCtorEq,hA,rA])|((first|refine zj ?_ ?_|refine zn ?_ ?_|refine And.intro ?_ ?_)<;>intro h<;>(try simp only [nqb] at h)<;>simp (disch:=omega) only [go_sem,↓reduceIte,reduceCtorEq,hA,rA,h])|(refine hK _ _ ?_;clear hK K)|(refine PW.cond (t:=_) rfl (fun h=> ?_) (fun h=> ?_)<;>(try (cases h;done))<;>(try simp only [nqb] at h))))
 all_goals first|exact PW.ret ⟨_,rfl,Fin.now⟩|omega
theorem zdh (i:Nat) (p:List UInt8) (n a m:Nat) (H:za) (hA:H[i]? =some (rA p n a)) (ha:a+m≤n) (hn:n≤8 * p.length) (hp:p.length≤100000000) (hm:m≤32):
  CallOk Tryz.prog 115 [.ptr i 0 0,.int .i64 (m:Int)] H (.tup [.int .u32 (vl p a m:Int),.int .i64 0]) (H.set i (rA p n (a+m))):=by
 have hi:=(List.getElem?_eq_some_iff.1 hA).1
 have hself:=za9 hA
 refine CallOk.body (F0:=[(0,.ptr i 0 0),(1,.int .i64 (m:Int))]) Tryz.func115 rfl Tryz.ntmps115 Tryz.results115 rfl (by kernel_rfl) rfl ?_
 refine PW.e ?_
 (repeat refine PW.seq ?_)
 refine PW.rgv [0,1] 17 (.bool false) rfl ?_ ?_
 ·simp (disch:=omega) only [go_sem,↓reduceIte,reduceCtorEq,hA,rA]
 refine PW.us ?_
 (repeat refine PW.seq ?_);refine PW.draw mix (by kernel_rfl) fun K hK=> ?_;simp (disch:=omega) only [go_sem,↓reduceIte,reduceCtorEq,hA,rA];refine hK _ _ ?_;clear hK K
 refine PW.us ?_
 refine PW.e ?_
 refine PW.e ?_
 (repeat refine PW.seq ?_);refine PW.block (PW.loop ?_)
 suffices hloop:∀ (k:Nat),k≤m→PL Tryz.prog _ _ [(0,.ptr i 0 0),(6,.int .u32 (vl p a k:Int)),(29,.int .i64 (m:Int)),(30,.int .i64 (k:Int))] (H.set i (rA p n (a+k))) _ by
  exact PL.at [0,6,29,30] (hloop 0 (Nat.zero_le _)) rfl hself.symm
 intro k hk
 induction hmk:m - k using Nat.strongRecOn generalizing k with
 | _ r ih=>
  refine PL.round ?_;refine PW.e ?_
  have hat:∀ B:Blk,(H.set i B)[i]? =some B:=fun B=>by simp [hi]
  (repeat refine PW.seq ?_);refine PW.cond (t:=_) rfl (fun h=> ?_) (fun h=> ?_)
  ·have h4:k<m:=by have:=of_decide_eq_true h;omega
   have hnext:=ih (m - (k+1)) (by omega) (k+1) (by omega) rfl
   have hr8:(a+k)%8<8:=Nat.mod_lt _ (by omega)
   have hq8:(a+k) / 8<p.length:=by omega
   have hu:zbA p (a+k)=(p.getD ((a+k) / 8) 0).toNat / 2^(7 - (a+k)%8)%2:=rfl
   have e3:(7:Int) - (((a+k)%8:Nat):Int)=((7 - (a+k)%8:Nat):Int):=by omega
   have e4:((a+k:Nat):Int)+1=((a+(k+1):Nat):Int):=by omega
   have hul:=zfH p (a+k)
   have hvl:=zjb p a k
   have hvl2:2 * vl p a k<4294967296:=by
    have:2^k≤2^31:=Nat.pow_le_pow_right (by omega) (by omega)
    omega
   have hb:byt p ((a+k) / 8)=((p.getD ((a+k) / 8) 0).toNat:Int):=rfl
   refine PW.skip ?_;(repeat refine PW.seq ?_);refine PW.block ?_
   (repeat refine PW.seq ?_);refine PW.draw mix (by kernel_rfl) fun K hK=> ?_;simp (disch:=omega) only [go_sem,↓reduceIte,reduceCtorEq,hat,rA,zvA,zvy,ze,zbr,e3,hb,zrv,zpi,←hu];refine hK _ _ ?_;clear hK K
   refine PW.f (fun K k=>by simp (disch:=omega) only [go_sem,↓reduceIte,reduceCtorEq,zm3,zrA];exact k) ?_
   refine PW.f (fun K k=>by simp (disch:=omega) only [go_sem,↓reduceIte,reduceCtorEq,hat,rA,e4,List.set_set];exact k) ?_
   refine PW.e ?_
   exact PL.at [0,6,29,30] hnext rfl rfl
  ·have h4:k=m:=by have:=of_decide_eq_false h;omega
   subst h4
   refine PW.exit ?_
   refine PW.e ?_
   refine PW.ret ⟨_,rfl,Fin.now⟩
inductive Rr (α:Type) where
 | ok (v:α) (a:Nat)
 | er (e:Nat) (a:Nat)
def Rr.bind {α β:Type} (x:Rr α) (f:α→Nat→Rr β):Rr β:=match x with| .ok v a=>f v a| .er e a=>.er e a
def Rr.at {α:Type}:Rr α→Nat| .ok _ a=>a| .er _ a=>a
theorem Rr.bind_ok {α β:Type} (v:α) (a:Nat) (f:α→Nat→Rr β):(Rr.ok v a).bind f=f v a:=rfl
theorem Rr.bind_er {α β:Type} (e a:Nat) (f:α→Nat→Rr β):(Rr.er e a:Rr α).bind f= .er e a:=rfl
theorem Rr.bind_bind {α β γ:Type} (x:Rr α) (f:α→Nat→Rr β) (g:β→Nat→Rr γ):(x.bind f).bind g=x.bind fun v a=>(f v a).bind g:=by cases x<;>rfl
def zrs (q:List UInt8) (n:Nat):Nat→Nat→Nat
 | 0,_=>0
 | c+1,a=>if a<n∧zbA q a=0 then zrs q n c (a+1)+1 else 0
section
variable {q:List UInt8} {n:Nat}
theorem znC:∀ (c a:Nat),zrs q n c a≤c
 | 0,a=>by simp [zrs]
 | c+1,a=>by
  have:=znC c (a+1)
  simp only [zrs];split<;>omega
theorem znB {c a:Nat} (h:a<n) (h0:zbA q a=0):zrs q n (c+1) a=zrs q n c (a+1)+1:=by
 simp only [zrs];rw [if_pos ⟨h,h0⟩]
theorem zqS {c a:Nat} (h:n≤a):zrs q n c a=0:=by
 cases c with
 | zero=>rfl
 | succ c=>simp only [zrs];rw [if_neg (by omega)]
theorem zqR {c a:Nat} (h:zbA q a=1):zrs q n c a=0:=by
 cases c with
 | zero=>rfl
 | succ c=>simp only [zrs];rw [if_neg (by omega)]
end
def tkU (q:List UInt8) (n a:Nat):Rr Nat:=
 if zrs q n 16 a=16 then .er 2 a else if n - a<2 * zrs q n 16 a+1 then .er 3 a else .ok (2^zrs q n 16 a+vl q (a+zrs q n 16 a+1) (zrs q n 16 a) - 1) (a+(2 * zrs q n 16 a+1))
def usg (v:Nat):Int:=if v%2=1 then ((v+1) / 2:Nat) else -((v / 2:Nat):Int)
def tkS (q:List UInt8) (n a:Nat):Rr Int:=(tkU q n a).bind fun v a=>.ok (usg v) a
theorem zeb {q:List UInt8} {n a v a1:Nat} (h:tkU q n a= .ok v a1) (ha:a≤n):v≤65534∧a<a1∧a1≤n:=by
 unfold tkU at h
 split at h
 ·cases h
 ·split at h
  ·cases h
  ·have h1:=znC (q:=q) (n:=n) 16 a
   injection h with h2 h3
   have h4:zrs q n 16 a≤15:=by omega
   have h5:=zjb q (a+zrs q n 16 a+1) (zrs q n 16 a)
   have h6:2^zrs q n 16 a≤2^15:=Nat.pow_le_pow_right (by omega) h4
   omega
theorem zjd {q:List UInt8} {n a e a1:Nat} (h:tkU q n a= .er e a1):a1=a∧e≤3:=by
 unfold tkU at h
 split at h
 ·injection h with h2 h3;omega
 ·split at h
  ·injection h with h2 h3;omega
  ·cases h
theorem zvt (v:Nat) (h:v≤65534): -32767≤usg v∧usg v≤32767:=by unfold usg;split<;>omega
theorem zec {q:List UInt8} {n a a1:Nat} {v:Int} (h:tkS q n a= .ok v a1) (ha:a≤n):(-32767≤v∧v≤32767)∧a<a1∧a1≤n:=by
 unfold tkS at h
 cases hu:tkU q n a with
 | er e a2=>rw [hu] at h;cases h
 | ok w a2=>
  rw [hu] at h
  injection h with h2 h3
  have:=zeb hu ha
  subst h2 h3
  exact ⟨zvt w this.1,this.2⟩
theorem zlE {q:List UInt8} {n a e a1:Nat} (h:tkS q n a= .er e a1):a1=a∧e≤3:=by
 unfold tkS at h
 cases hu:tkU q n a with
 | ok w a2=>rw [hu] at h;cases h
 | er e a2=>
  rw [hu] at h
  injection h with h2 h3
  have:=zjd hu
  omega
end Go.Proofs.YtjgmdlcjbgiekaaGreatDoor.Sc
namespace Go.Proofs.YtjgmdlcjbgiekaaGreatDoor.Sc
set_option linter.all false
open Pm Ty Go.RowKit
def eg (v:Nat):List Bool:=zsW 0 (Nat.log2 (v+1))++zsW (v+1) (Nat.log2 (v+1)+1)
end Go.Proofs.YtjgmdlcjbgiekaaGreatDoor.Sc
