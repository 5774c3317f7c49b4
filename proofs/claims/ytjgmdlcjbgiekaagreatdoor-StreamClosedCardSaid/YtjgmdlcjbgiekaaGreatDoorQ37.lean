/-
  Parts of the proof, put together in one text. No condition.
-/
import Derived.Test.YtjgmdlcjbgiekaaGreatDoorQ36
namespace Go.Proofs.YtjgmdlcjbgiekaaGreatDoor.Sc
set_option linter.all false
open Pm Ty Go.RowKit
def v1 (m:Mb) (d:Nat):Int:=if d=0 then m.va else m.ve
def v2 (m:Mb) (d:Nat):Int:=if d=0 then m.vb else m.vf
def v3 (m:Mb) (d:Nat):Int:=if d=0 then m.vc else m.vg
def v4 (m:Mb) (d:Nat):Int:=if d=0 then m.vd else m.vh
def s1 (m:Mb) (d:Nat):Int:=if d=0 then m.sa else m.sc
def s2 (m:Mb) (d:Nat):Int:=if d=0 then m.sb else m.sd
def us (m:Mb) (d:Nat):Bool:=if d=0 then m.ua else m.ub
def ziL (c:Cx) (m:Mb) (pa fu fi:Fm) (d:Nat) (mx my:Int):Fm×Int:=dirP c m.fp (v1 m d) (v2 m d) (v3 m d) (v4 m d) (s1 m d) (s2 m d) pa fu fi (d:Int) mx my
def zln (m:Mb) (d:Nat):Nat:=(if 0<d∧m.ua=true then 1 else 0)+(if 1<d∧m.ub=true then 1 else 0)
def zsk:List Fm→Fm
 | []=>f0
 | [a]=>a
 | a::b::_=>mnF a b
def goP (c:Cx) (m:Mb) (pa fu fi:Fm) (mx my:Int):Nat→List Fm→Fm×Int
 | 0,l=>(zsk l,0)
 | n+1,l=>if us m (1 - n)=true then (if (ziL c m pa fu fi (1 - n) mx my).2≠0 then (f0,(ziL c m pa fu fi (1 - n) mx my).2) else goP c m pa fu fi mx my n (l++[(ziL c m pa fu fi (1 - n) mx my).1])) else goP c m pa fu fi mx my n l
theorem zqk {c:Cx} {fp:Bool} {va vb vc vd sa sb:Int} {pa fu fi:Fm} {d mx my:Int} (h:(dirP c fp va vb vc vd sa sb pa fu fi d mx my).2≠0):(dirP c fp va vb vc vd sa sb pa fu fi d mx my).1=f0:=by
 unfold dirP at h ⊢
 by_cases h1:(refS c pa fu fi d sa).2≠0
 ·rw [if_pos h1]
 ·rw [if_neg h1] at h ⊢
  generalize (refS c pa fu fi d sa).1=g at h ⊢
  cases fp
  ·rw [if_neg (by simp)] at h ⊢
   unfold prdS at h ⊢
   split at h
   ·rename_i a
    rw [if_pos a]
    split at h
    ·exact absurd rfl h
    ·rename_i b
     rw [if_neg b]
   ·rename_i a
    rw [if_neg a]
  ·rw [if_pos rfl] at h ⊢
   unfold fldS at h ⊢
   split at h
   ·exact absurd rfl h
   ·rename_i a
    rw [if_neg a]
theorem zr5 (c:Cx) (m:Mb) (pa fu fi:Fm) (mx my:Int) (h:m.ua=true∨m.ub=true):goP c m pa fu fi mx my 2 []=prS c m pa fu fi mx my:=by
 have d0:ziL c m pa fu fi 0 mx my=zhn c m pa fu fi mx my:=rfl
 have d1:ziL c m pa fu fi 1 mx my=zfF c m pa fu fi mx my:=rfl
 have u0:us m 0=m.ua:=rfl
 have u1:us m 1=m.ub:=rfl
 have e0:1 - 1=0:=rfl
 have e1:1 - 0=1:=rfl
 unfold prS
 rw [goP,e0,u0,d0]
 generalize zhn c m pa fu fi mx my=r0
 cases ha:m.ua
 ·rw [if_neg (by simp),if_neg (by simp),goP,e1,u1,d1]
  have hbad:(zfF c m pa fu fi mx my).2≠0→(zfF c m pa fu fi mx my).1=f0:=zqk
  generalize zfF c m pa fu fi mx my=r1 at hbad ⊢
  rw [ha] at h
  have hb:m.ub=true:=by simpa using h
  rw [hb,if_pos rfl]
  obtain ⟨g,e⟩:=r1
  by_cases he:e=0
  ·subst he;simp [goP,zsk]
  ·rw [if_pos (by exact he)]
   exact Prod.ext (hbad he).symm rfl
 ·rw [if_pos rfl,if_pos rfl]
  by_cases he:r0.2=0
  ·rw [if_neg (by simp [he]),if_neg (by simp [he]),goP,e1,u1,d1]
   generalize zfF c m pa fu fi mx my=r1
   cases hb:m.ub
   ·rw [if_neg (by simp),if_neg (by simp)]
    obtain ⟨g,e⟩:=r0
    simp only at he
    subst he;rfl
   ·rw [if_pos rfl,if_pos rfl]
    by_cases he1:r1.2=0
    ·rw [if_neg (by simp [he1]),if_neg (by simp [he1])];rfl
    ·rw [if_pos he1,if_pos he1]
  ·rw [if_pos he,if_pos he]
structure PrOk (m:Mb):Prop where
 u:m.ua=true∨m.ub=true
 f:∀ d,us m d=true→m.fp=true→(s1 m d=0∨s1 m d=1)∧(s2 m d=0∨s2 m d=1)∧vrg (v1 m d) (v2 m d)=true∧vrg (v3 m d) (v4 m d)=true
theorem zt4 (f:Fm) (mx my vx vy:Int):zhe f (16 * min (max mx (-1)) 128) (16 * min (max my (-1)) 128) 16 vx vy=prdS f mx my vx vy:=by
 unfold zhe prdS
 by_cases hf:fmd f=true
 ·have hb:f.w≤64∧f.h≤64:=by
   unfold fmd at hf
   rw [Bool.and_eq_true] at hf
   have:=zcW hf.1
   omega
  by_cases hc:0≤mx∧16 * mx+16≤f.w∧0≤my∧16 * my+16≤f.h
  ·have e1:min (max mx (-1)) 128=mx:=by omega
   have e2:min (max my (-1)) 128=my:=by omega
   have h1:zfD f (16 * mx) (16 * my) ((16:Nat):Int)=true:=by
    simp only [zfD,Bool.and_eq_true,decide_eq_true_eq];omega
   have h2:(fmd f&&(decide (0≤mx)&&(decide (16 * mx+16≤f.w)&&(decide (0≤my)&&decide (16 * my+16≤f.h)))))=true:=by
    simp only [hf,Bool.true_and,Bool.and_eq_true,decide_eq_true_eq];exact hc
   rw [e1,e2,if_pos h2,hf,h1,if_pos (by rfl)]
  ·have h1:zfD f (16 * min (max mx (-1)) 128) (16 * min (max my (-1)) 128) ((16:Nat):Int)=false:=by
    rw [Bool.eq_false_iff]
    intro h
    simp only [zfD,Bool.and_eq_true,decide_eq_true_eq] at h
    obtain ⟨q1,q2,q3,q4,q5,q6⟩:=h
    have hx:min (max mx (-1)) 128=mx∨min (max mx (-1)) 128= -1∨min (max mx (-1)) 128=128:=by omega
    have hy:min (max my (-1)) 128=my∨min (max my (-1)) 128= -1∨min (max my (-1)) 128=128:=by omega
    apply hc
    generalize min (max mx (-1)) 128=X at *
    generalize min (max my (-1)) 128=Y at *
    rcases hx with rfl|rfl|rfl<;>rcases hy with rfl|rfl|rfl<;>omega
   have h2:¬ (fmd f&&(decide (0≤mx)&&(decide (16 * mx+16≤f.w)&&(decide (0≤my)&&decide (16 * my+16≤f.h)))))=true:=by
    simp only [Bool.and_eq_true,decide_eq_true_eq];omega
   rw [h1,Bool.and_false,if_neg (by simp),if_neg h2]
 ·have hf':fmd f=false:=by simpa using hf
  rw [hf',Bool.false_and,Bool.false_and]
  rfl
theorem zwE (l:List Fm):(l.flatMap fmc).length=l.length * 5:=zaD fmc 5 l fun x _=>rfl
set_option maxHeartbeats 6400000 in
set_option maxRecDepth 100000 in
theorem zjs (c:Cx) (m:Mb) (i:Nat) (pa fu fi:Fm) (mx my:Int) (H:za) (hi:H[i]? =some (mB m)) (hml:m.lv.length=384) (hp:PrOk m):
  CallOk Tryz.prog 137 [.agg (cxc c),.ptr i 0 0,.agg (fmc pa++(fmc fu++fmc fi)),.int .i64 mx,.int .i64 my] H (.tup [.agg (fmc (prS c m pa fu fi mx my).1),.int .i64 (prS c m pa fu fi mx my).2]) H:=by
 have hil:=(List.getElem?_eq_some_iff.1 hi).1
 have hx:=fun K=>zY (K:=K) hi
 have e4:=zb8 m hml
 have eu:List.take 2 (List.drop 1 (mbc m))=[.bool m.ua,.bool m.ub]:=rfl
 have efp:(mbc m)[3]? =some (.bool m.fp):=rfl
 have es:∀ d,d<2→(mbc m)[13+d * 2]? =some (.int .i64 (s1 m d)):=fun d hd=>by
  have:d=0∨d=1:=by omega
  rcases this with rfl|rfl<;>rfl
 have ess:∀ d,d<2→List.take 2 (List.drop (13+d * 2) (mbc m))=[.int .i64 (s1 m d),.int .i64 (s2 m d)]:=fun d hd=>by
  have:d=0∨d=1:=by omega
  rcases this with rfl|rfl<;>rfl
 have ev4:∀ d,d<2→List.take 4 (List.drop (5+d * 4) (mbc m))=[.int .i64 (v1 m d),.int .i64 (v2 m d),.int .i64 (v3 m d),.int .i64 (v4 m d)]:=fun d hd=>by
  have:d=0∨d=1:=by omega
  rcases this with rfl|rfl<;>rfl
 have ev2:∀ d,d<2→List.take 2 (List.drop (5+d * 4) (mbc m))=[.int .i64 (v1 m d),.int .i64 (v2 m d)]:=fun d hd=>by
  have:d=0∨d=1:=by omega
  rcases this with rfl|rfl<;>rfl
 have cl:(cxc c).length=4:=rfl
 have cc:(cxc c).all PV.cell=true:=rfl
 have ct4:List.take 4 (cxc c)=cxc c:=rfl
 have rl:(fmc pa++(fmc fu++fmc fi)).length=15:=rfl
 have rc:(fmc pa++(fmc fu++fmc fi)).all PV.cell=true:=rfl
 have rt:List.take 15 (fmc pa++(fmc fu++fmc fi))=fmc pa++(fmc fu++fmc fi):=rfl
 have hgo:=zr5 c m pa fu fi mx my hp.u
 generalize prS c m pa fu fi mx my=r at hgo ⊢
 refine CallOk.body (F0:=[(0,.agg (cxc c)),(1,.ptr i 0 0),(2,.agg (fmc pa++(fmc fu++fmc fi))),(3,.int .i64 mx),(4,.int .i64 my)]) Tryz.func137 rfl Tryz.ntmps137 Tryz.results137 rfl (by kernel_rfl) rfl ?_
 refine PW.f (fun K k=>by simp (maxSteps:=3000000) (disch:=omega) only [go_sem,↓reduceIte,reduceCtorEq,cc,rc];exact k) ?_
 refine PW.e ?_
 refine PW.f (fun K k=>by simp (maxSteps:=3000000) (disch:=omega) only [go_sem,↓reduceIte,reduceCtorEq,hi,hx,mB,eu,e4];exact k) ?_
 (repeat refine PW.seq ?_)
 refine PW.view (Vs.ghost 12 33 5 rfl) ?_
 (repeat refine PW.seq ?_);refine PW.block (PW.loop ?_)
 suffices hloop:∀ (n d:Nat) (l:List Fm),d+n=2→(∀ g∈l,F16 g)→l.length=zln m d→goP c m pa fu fi mx my n l=r→PL Tryz.prog _ _ [(1,.ptr i 0 0),(3,.int .i64 mx),(4,.int .i64 my),(5,.ptr H.length 0 0),(7,.ptr (H.length+1) 0 0),(10,.ptr (H.length+2) 0 0),(12,.msl (H.length+3) (l.length * 5) 0 l.length 5 true),(21,.agg [.bool m.ua,.bool m.ub]),(22,.int .i64 (d:Int))] (H++[⟨157,0,cxc c⟩,⟨87,0,fmc pa++(fmc fu++fmc fi)⟩,⟨33,0,[.int .i64 0,.int .i64 0,.slice [] 0 true,.slice [] 0 true,.slice [] 0 true]⟩,⟨33,l.length * 5,l.flatMap fmc⟩]) _ by
  exact PL.at [1,3,4,5,7,10,12,21,22] (hloop 2 0 [] rfl (fun g hg=>by cases hg) rfl hgo) (by simp [kp,slot,Nat.beq]) (by simp)
 intro n
 induction n with
 | zero=>
  intro d l hd hl hlen hr
  have hd2:d=2:=by omega
  subst hd2
  have hr1:r=(zsk l,0):=hr.symm
  subst hr1
  refine PL.round ?_;refine PW.e ?_;refine PW.u ?_
  refine PW.exit ?_
  have hn:l.length=1∨l.length=2:=by
   have e2:zln m 2=(if m.ua=true then 1 else 0)+(if m.ub=true then 1 else 0):=by simp [zln]
   rw [hlen,e2]
   rcases hp.u with e|e<;>rw [e]
   ·cases m.ub<;>simp
   ·cases m.ua<;>simp
  rcases hn with h1|h1
  ·obtain ⟨a,rfl⟩:∃ a,l=[a]:=by
    match l,h1 with
    | [a],_=>exact ⟨a,rfl⟩
   have ga:=(hl a (by simp)).c
   have gt:List.take 5 ([a].flatMap fmc)=fmc a:=rfl
   have gl:([a].flatMap fmc).length=5:=rfl
   have g5:(fmc a).all PV.cell=true:=rfl
   have g7:(fmc a).length=5:=rfl
   have g8:List.take 5 (fmc a)=fmc a:=rfl
   have g9:List.drop 5 [PV.int .i64 0,PV.int .i64 0,PV.slice [] 0 true,PV.slice [] 0 true,PV.slice [] 0 true]=[]:=rfl
   refine PW.e ?_
   refine PW.t ?_
   refine PW.f (fun K k=>by simp (maxSteps:=3000000) (disch:=omega) only [go_sem,↓reduceIte,reduceCtorEq,gt,gl,g5,g7,g8,g9];exact k) ?_
   refine PW.ret ⟨.tup [.agg (fmc a),.int .i64 0],by simp (maxSteps:=3000000) (disch:=omega) only [go_sem,↓reduceIte,reduceCtorEq,zd,zg,List.mapM_cons,List.mapM_nil,Option.pure_def,Option.bind_eq_bind,Option.bind_some,Array.toList,g7,g8],?_⟩
   exact Fin.base (.id (zQ _ _ _ _ _ _ _ _ _ _))
  ·obtain ⟨a,b,rfl⟩:∃ a b,l=[a,b]:=by
    match l,h1 with
    | [a,b],_=>exact ⟨a,b,rfl⟩
   have av:=fun L=>zlt a b (hl a (by simp)) (hl b (by simp)) L
   have gt:List.take 5 ([a,b].flatMap fmc)=fmc a:=rfl
   have gt2:List.take 5 (List.drop 5 ([a,b].flatMap fmc))=fmc b:=rfl
   have gl:([a,b].flatMap fmc).length=10:=rfl
   obtain ⟨g,hg⟩:∃ g,mnF a b=g:=⟨_,rfl⟩
   rw [hg] at av
   have hfg:zsk [a,b]=g:=hg
   rw [hfg]
   have g5:(fmc g).all PV.cell=true:=rfl
   have g7:(fmc g).length=5:=rfl
   have g8:List.take 5 (fmc g)=fmc g:=rfl
   have g9:List.drop 5 [PV.int .i64 0,PV.int .i64 0,PV.slice [] 0 true,PV.slice [] 0 true,PV.slice [] 0 true]=[]:=rfl
   refine PW.e ?_
   refine PW.us ?_
   (repeat refine PW.seq ?_);refine PW.drawi [H.length+2] [(10,[0])] [] [106] mix (by kernel_rfl) (by simp<;>omega) fun K hK=> ?_
   simp (maxSteps:=3000000) (disch:=omega) only [go_sem,↓reduceIte,reduceCtorEq,zaF,gt,gt2,gl]
   refine VCj.read (fun _ _=>av _) rfl ?_
   simp (maxSteps:=3000000) (disch:=omega) only [go_sem,↓reduceIte,reduceCtorEq,g5,g7,g8,g9]
   refine hK _ _ ?_;clear hK K
   refine PW.ret ⟨.tup [.agg (fmc g),.int .i64 0],by simp (maxSteps:=3000000) (disch:=omega) only [go_sem,↓reduceIte,reduceCtorEq,zd,zg,List.mapM_cons,List.mapM_nil,Option.pure_def,Option.bind_eq_bind,Option.bind_some,Array.toList,g7,g8],?_⟩
   exact Fin.base (.id (zQ _ _ _ _ _ _ _ _ _ _))
 | succ n ih=>
  intro d l hd hl hlen hr
  have hd2:d<2:=by omega
  have hdn:1 - n=d:=by omega
  rw [goP,hdn] at hr
  have ct:decide ((d:Int)<2)=true:=decide_eq_true (by omega)
  have eus:[PV.bool m.ua,PV.bool m.ub][d]? =some (.bool (us m d)):=by
   have:d=0∨d=1:=by omega
   rcases this with rfl|rfl<;>rfl
  have hcn:zln m (d+1)=zln m d+if us m d=true then 1 else 0:=by
   have:d=0∨d=1:=by omega
   rcases this with rfl|rfl<;>simp [zln,us]
  refine PL.round ?_;refine PW.f (fun K k=>by simp (maxSteps:=3000000) (disch:=omega) only [go_sem,↓reduceIte,reduceCtorEq,ct];exact k) ?_;refine PW.t ?_
  refine PW.skip ?_;(repeat refine PW.seq ?_);refine PW.block ?_
  refine PW.f (fun K k=>by simp (maxSteps:=3000000) (disch:=omega) only [go_sem,↓reduceIte,reduceCtorEq,eus];exact k) ?_
  refine PW.e ?_
  (repeat refine PW.seq ?_);refine PW.cond (t:=_) rfl (fun h=> ?_) (fun h=> ?_)
  ·have hu:us m d=false:=by simpa using h
   rw [hu,if_neg (by simp)] at hr
   rw [hu,if_neg (by simp)] at hcn
   refine PW.exit ?_
   refine PW.e ?_
   exact PL.at [1,3,4,5,7,10,12,21,22] (ih (d+1) l (by omega) hl (by omega) hr) rfl rfl
  have hu:us m d=true:=by simpa using h
  rw [hu,if_pos rfl] at hr hcn
  have hpf:=hp.f d hu
  have h1:=es d hd2
  have h2:=ess d hd2
  have h3:=ev4 d hd2
  have h4:=ev2 d hd2
  have hD:ziL c m pa fu fi d mx my=dirP c m.fp (v1 m d) (v2 m d) (v3 m d) (v4 m d) (s1 m d) (s2 m d) pa fu fi (d:Int) mx my:=rfl
  have h16:(ziL c m pa fu fi d mx my).2=0→F16 (ziL c m pa fu fi d mx my).1:=ziK
  unfold dirP at hD
  have rf:=fun L=>zh8 c pa fu fi (d:Int) (s1 m d) L
  generalize ziL c m pa fu fi d mx my=R at hD hr h16
  generalize refS c pa fu fi (d:Int) (s1 m d)=T at rf hD
  obtain ⟨g,e⟩:=T
  simp only at rf hD
  refine PW.skip ?_
  have g5:(fmc g).all PV.cell=true:=rfl
  have g7:(fmc g).length=5:=rfl
  have g8:List.take 5 (fmc g)=fmc g:=rfl
  refine PW.view (Vs.place 33) ?_
  (repeat refine PW.seq ?_);refine PW.drawi [H.length+4] [(15,[0])] [(15,0)] [39] mix (by kernel_rfl) (by simp<;>omega) fun K hK=> ?_
  simp (maxSteps:=3000000) (disch:=omega) only [go_sem,↓reduceIte,reduceCtorEq,zaF,hi,hx,mB,e4,h1,cl,ct4,rl,rt]
  refine VCj.read (fun _ _=>rf _) rfl ?_
  simp (maxSteps:=3000000) (disch:=omega) only [go_sem,↓reduceIte,reduceCtorEq,g5,g7]
  refine hK _ _ ?_;clear hK K
  refine PW.e ?_
  (repeat refine PW.seq ?_);refine PW.cond (t:=_) rfl (fun h=> ?_) (fun h=> ?_)
  ·have he:e≠0:=by simpa using h
   rw [if_pos he] at hD
   subst hD
   rw [if_pos (by exact he)] at hr
   refine PW.e ?_
   refine PW.ret ⟨.tup [.agg [.int .i64 0,.int .i64 0,.slice [] 0 true,.slice [] 0 true,.slice [] 0 true],.int .i64 e],by simp (maxSteps:=3000000) (disch:=omega) only [go_sem,↓reduceIte,reduceCtorEq,zd,zg,List.mapM_cons,List.mapM_nil,Option.pure_def,Option.bind_eq_bind,Option.bind_some,Array.toList],?_⟩
   rw [←hr]
   exact Fin.base (fz0 _ _ _)
  have he:e=0:=by simpa using h
  rw [if_neg (by simp [he])] at hD
  refine PW.skip ?_
  refine PW.e ?_
  refine PW.f (fun K k=>by simp (maxSteps:=3000000) (disch:=omega) only [go_sem,↓reduceIte,reduceCtorEq,hi,hx,mB,e4,efp];exact k) ?_
  suffices hrest:PW Tryz.prog _ _ [(1,.ptr i 0 0),(3,.int .i64 mx),(4,.int .i64 my),(5,.ptr H.length 0 0),(7,.ptr (H.length+1) 0 0),(10,.ptr (H.length+2) 0 0),(12,.msl (H.length+3) (l.length * 5) 0 l.length 5 true),(16,.int .i64 R.2),(17,.ptr (H.length+5) 0 0),(21,.agg [.bool m.ua,.bool m.ub]),(22,.int .i64 (d:Int))] (H++[⟨157,0,cxc c⟩,⟨87,0,fmc pa++(fmc fu++fmc fi)⟩,⟨33,0,[.int .i64 0,.int .i64 0,.slice [] 0 true,.slice [] 0 true,.slice [] 0 true]⟩,⟨33,l.length * 5,l.flatMap fmc⟩,⟨33,1,fmc g⟩,⟨33,0,fmc R.1⟩]) _ by
   (repeat refine PW.seq ?_);refine PW.cond (t:=_) rfl (fun h=> ?_) (fun h=> ?_)
   ·have hf:m.fp=true:=h
    rw [hf,if_pos rfl] at hD
    obtain ⟨k1,k2,k3,k4⟩:=hpf hf
    have fl:=fun L=>znq g mx my (v1 m d) (v2 m d) (v3 m d) (v4 m d) (s1 m d) (s2 m d) k1 k2 k3 k4 L
    rw [←hD] at fl
    have r5:(fmc R.1).all PV.cell=true:=rfl
    have r7:(fmc R.1).length=5:=rfl
    have r9:List.drop 5 [PV.int .i64 0,PV.int .i64 0,PV.slice [] 0 true,PV.slice [] 0 true,PV.slice [] 0 true]=[]:=rfl
    (repeat refine PW.seq ?_);refine PW.drawi [H.length+5] [(17,[0])] [] [66] mix (by kernel_rfl) (by simp<;>omega) fun K hK=> ?_
    simp (maxSteps:=3000000) (disch:=omega) only [go_sem,↓reduceIte,reduceCtorEq,zaF,hi,hx,mB,e4,h2,h3,g7,g8]
    refine VCj.read (fun _ _=>fl _) rfl ?_
    simp (maxSteps:=3000000) (disch:=omega) only [go_sem,↓reduceIte,reduceCtorEq,r5,r7,r9]
    refine hK _ _ ?_;clear hK K
    exact PW.at [1,3,4,5,7,10,12,16,17,21,22] hrest rfl rfl
   ·have hf:m.fp=false:=h
    rw [hf,if_neg (by simp),←zt4] at hD
    have sx:=fun L=>zhw mx L
    have sy:=fun L=>zhw my L
    have pr:=fun L=>zdi g (16 * min (max mx (-1)) 128) (16 * min (max my (-1)) 128) (v1 m d) (v2 m d) 16 (.inr rfl) (by omega) L
    rw [←hD] at pr
    have r5:(fmc R.1).all PV.cell=true:=rfl
    have r7:(fmc R.1).length=5:=rfl
    have r9:List.drop 5 [PV.int .i64 0,PV.int .i64 0,PV.slice [] 0 true,PV.slice [] 0 true,PV.slice [] 0 true]=[]:=rfl
    (repeat refine PW.seq ?_);refine PW.drawi [H.length+5] [(17,[0])] [] [72,74,82] mix (by kernel_rfl) (by simp<;>omega) fun K hK=> ?_
    simp (maxSteps:=3000000) (disch:=omega) only [go_sem,↓reduceIte,reduceCtorEq,zaF,hi,hx,mB,e4,h4,g7,g8]
    refine VCj.read (fun _ _=>sx _) rfl ?_
    simp (maxSteps:=3000000) (disch:=omega) only [go_sem,↓reduceIte,reduceCtorEq]
    refine VCj.read (fun _ _=>sy _) rfl ?_
    simp (maxSteps:=3000000) (disch:=omega) only [go_sem,↓reduceIte,reduceCtorEq,zaF,hi,hx,mB,e4,h4,g7,g8]
    refine VCj.read (fun _ _=>pr _) rfl ?_
    simp (maxSteps:=3000000) (disch:=omega) only [go_sem,↓reduceIte,reduceCtorEq,r5,r7,r9]
    refine hK _ _ ?_;clear hK K
    exact PW.at [1,3,4,5,7,10,12,16,17,21,22] hrest rfl rfl
  refine PW.e ?_
  (repeat refine PW.seq ?_);refine PW.cond (t:=_) rfl (fun h=> ?_) (fun h=> ?_)
  ·have he2:R.2≠0:=by simpa using h
   rw [if_pos he2] at hr
   refine PW.e ?_
   refine PW.ret ⟨.tup [.agg [.int .i64 0,.int .i64 0,.slice [] 0 true,.slice [] 0 true,.slice [] 0 true],.int .i64 R.2],by simp (maxSteps:=3000000) (disch:=omega) only [go_sem,↓reduceIte,reduceCtorEq,zd,zg,List.mapM_cons,List.mapM_nil,Option.pure_def,Option.bind_eq_bind,Option.bind_some,Array.toList],?_⟩
   rw [←hr]
   exact Fin.base (fz0 _ _ _)
  have he2:R.2=0:=by simpa using h
  rw [if_neg (by simp [he2])] at hr
  have hR:=h16 he2
  have nx:=ih (d+1) (l++[R.1]) (by omega) (fun g hg=>by
   rcases List.mem_append.1 hg with hg|hg
   ·exact hl g hg
   ·rw [List.mem_singleton] at hg;rw [hg];exact hR) (by rw [List.length_append];simp only [List.length_cons,List.length_nil];omega) hr
  have r7:(fmc R.1).length=5:=rfl
  have r8:List.take 5 (fmc R.1)=fmc R.1:=rfl
  have r5:(fmc R.1).all PV.cell=true:=rfl
  have lf:=zwE l
  have lb:l.length≤2:=by rw [hlen];unfold zln;split<;>split<;>omega
  have fa:(l++[R.1]).flatMap fmc=l.flatMap fmc++fmc R.1:=by simp
  have ll1:(l++[R.1]).length=l.length+1:=by simp
  have lp:(l.flatMap fmc++fmc R.1).length=(l.length+1) * 5:=by rw [List.length_append,lf,r7];omega
  rw [fa,ll1] at nx
  refine PW.skip ?_
  refine PW.f (fun K k=>by simp (maxSteps:=3000000) (disch:=omega) only [go_sem,↓reduceIte,reduceCtorEq,r5,r7,r8,lf];exact k) ?_
  refine PW.e ?_
  rw [lp]
  refine PL.view (Vs.trim (F1:=[(1,.ptr i 0 0),(3,.int .i64 mx),(4,.int .i64 my),(5,.ptr H.length 0 0),(7,.ptr (H.length+1) 0 0),(10,.ptr (H.length+2) 0 0),(12,.msl (H.length+3) ((l.length+1) * 5) 0 (l.length+1) 5 true),(21,.agg [.bool m.ua,.bool m.ub]),(22,.int .i64 ((d+1:Nat):Int))]) (H1:=H++[⟨157,0,cxc c⟩,⟨87,0,fmc pa++(fmc fu++fmc fi)⟩,⟨33,0,[.int .i64 0,.int .i64 0,.slice [] 0 true,.slice [] 0 true,.slice [] 0 true]⟩,⟨33,(l.length+1) * 5,l.flatMap fmc++fmc R.1⟩]) (ziA ?_) (by simp) (List.append_assoc _ [_,_,_,_] [_,_]).symm ?_) nx
  ·intro b hb z hz
   simp only [List.mem_cons,List.not_mem_nil,or_false] at hb
   rcases hb with rfl|rfl|rfl|rfl
   ·simp only [cxc,List.mem_cons,List.not_mem_nil,or_false] at hz
    rcases hz with rfl|rfl|rfl|rfl
    ·exact .int _ _
    ·exact .int _ _
    ·exact .bool _
    ·exact .bool _
   ·rcases List.mem_append.1 hz with hz|hz
    ·exact za3 _ _ _ _ _ _ _ _ _ _ _ _ z hz
    ·rcases List.mem_append.1 hz with hz|hz
     ·exact za3 _ _ _ _ _ _ _ _ _ _ _ _ z hz
     ·exact za3 _ _ _ _ _ _ _ _ _ _ _ _ z hz
   ·exact za3 _ 0 0 [] [] [] _ _ _ _ _ _ z hz
   ·rcases List.mem_append.1 hz with hz|hz
    ·obtain ⟨g,_,hg⟩:=List.mem_flatMap.1 hz
     exact za3 _ _ _ _ _ _ _ _ _ _ _ _ z hg
    ·exact za3 _ _ _ _ _ _ _ _ _ _ _ _ z hz
  ·rw [hl4]
   exact ⟨.id (.ptr (by omega)),.id (.int _ _),.id (.int _ _),.id (.ptr (by omega)),.id (.ptr (by omega)),.id (.ptr (by omega)),.id (.msl (by omega)),.id (zB fun x hx=>by
    simp only [List.mem_cons,List.not_mem_nil,or_false] at hx
    rcases hx with rfl|rfl<;>exact .bool _),.id (.int _ _),trivial⟩
theorem zub (H:za):CallOk Tryz.prog 284 [.int .u64 1,.int .u64 64] H (.tup [.int .u64 0,.int .u64 64]) H:=CallOk.evalV 100000 (by kernel_rfl) (fun x hx=>by
 simp only [List.mem_cons,List.not_mem_nil,or_false] at hx
 rcases hx with rfl|rfl<;>exact .int _ _)
theorem zrN (H:za):CallOk Tryz.prog 284 [.int .u64 1,.int .u64 256] H (.tup [.int .u64 0,.int .u64 256]) H:=CallOk.evalV 100000 (by kernel_rfl) (fun x hx=>by
 simp only [List.mem_cons,List.not_mem_nil,or_false] at hx
 rcases hx with rfl|rfl<;>exact .int _ _)
def rpk (n k:Nat):List UInt8:=List.replicate k 128++List.replicate (n - k) 0
theorem zlP {n k:Nat} (h:k≤n):(rpk n k).length=n:=by simp [rpk];omega
theorem zlQ (n:Nat):rpk n n=List.replicate n 128:=by simp [rpk]
set_option maxHeartbeats 1600000 in
theorem zhy (n:Nat) (hn:n=64∨n=256) (H:za):CallOk Tryz.prog 203 [.slice [.int .u8 128] 1 true,.int .i64 (n:Int)] H (.slice (bs (List.replicate n 128)) n false) H:=by
 have mu:∀ K,CallOk Tryz.prog 284 [.int .u64 1,.int .u64 (n:Int)] K (.tup [.int .u64 0,.int .u64 (n:Int)]) K:=fun K=>by
  rcases hn with rfl|rfl
  ·exact zub K
  ·exact zrN K
 have hz:(List.replicate n [PV.int .u8 0]).flatten=bs (List.replicate n 0):=zc2 n
 have u1:IntKind.u64.wrap (n:Int)=(n:Int):=by rcases hn with rfl|rfl<;>rfl
 have u2:IntKind.u64.wrap 1=1:=rfl
 refine CallOk.body (F0:=[(0,.slice [.int .u8 128] 1 true),(1,.int .i64 (n:Int))]) Tryz.func203 rfl Tryz.ntmps203 Tryz.results203 rfl (by kernel_rfl) rfl ?_
 refine PW.e ?_
 refine PW.e ?_
 refine PW.us ?_
 refine PW.f (fun K k=>by simp (maxSteps:=3000000) (disch:=omega) only [go_sem,↓reduceIte,reduceCtorEq,u1,u2];refine VCx.call (mu _) rfl ?_;simp (maxSteps:=3000000) (disch:=omega) only [go_sem,↓reduceIte,reduceCtorEq,u1,u2];exact k) ?_
 (repeat refine PW.seq ?_)
 refine PW.rgv (P:=Tryz.prog) [0,6] 26 (.bool false) ?_ ?_ ?_
 ·rfl
 ·simp (maxSteps:=3000000) (disch:=omega) only [go_sem,↓reduceIte,reduceCtorEq];(repeat' ((first|refine zj ?_ ?_|refine zn ?_ ?_|refine zN ?_ ?_|refine VOh_cond ?_ ?_|refine zM ?_ ?_|refine And.intro ?_ ?_)<;>intro h<;>(try simp only [nqb] at h)<;>simp (maxSteps:=3000000) (disch:=omega) only [go_sem,↓reduceIte,reduceCtorEq,h]))
  all_goals (simp_all [slot,Nat.beq]<;>first|rfl|omega|(rw [Bool.eq_iff_iff];simp;done)|(rw [Bool.eq_iff_iff];simp;omega))
 refine PW.us ?_
 refine PW.e ?_
 rw [hz]
 have mn:min 1 n=1:=by omega
 refine PW.f (fun K k=>by simp (maxSteps:=3000000) (disch:=omega) only [go_sem,↓reduceIte,reduceCtorEq,ze,List.length_replicate,mn];exact k) ?_
 (repeat refine PW.seq ?_);refine PW.block (PW.loop ?_)
 suffices hloop:∀ k:Nat,1≤k→k≤n→PL Tryz.prog _ _ [(7,.msl H.length 0 0 n 1 true),(8,.int .i64 (k:Int))] (H++[⟨5,0,bs (rpk n k)⟩]) _ by
  exact PL.at [7,8] (hloop 1 (by omega) (by omega)) rfl (by simp [zO];rcases hn with rfl|rfl<;>rfl)
 intro k hk1 hkn
 induction hm:n - k using Nat.strongRecOn generalizing k with
 | _ d ih=>
  have hl:=zlP hkn
  refine PL.round ?_;refine PW.e ?_
  (repeat refine PW.seq ?_);refine PW.cond (t:=_) rfl (fun h=> ?_) (fun h=> ?_)
  ·have h4:k<n:=by have:=of_decide_eq_true h;omega
   refine PW.skip ?_;(repeat refine PW.seq ?_);refine PW.block ?_
   (repeat refine PW.seq ?_);refine PW.draw mix (by kernel_rfl) fun K hK=> ?_
   simp (maxSteps:=3000000) (disch:=omega) only [go_sem,↓reduceIte,reduceCtorEq,ze,hl]
   refine hK _ _ ?_;clear hK K
   have hm1:min (k - 0) (n - k)=min k (n - k):=by rw [Nat.sub_zero]
   rw [hm1,Nat.sub_zero]
   have e1:(k:Int)+((min k (n - k):Nat):Int)=((k+min k (n - k):Nat):Int):=by omega
   rw [e1]
   have e2:List.take k (bs (rpk n k))=bs (List.replicate k 128):=by
    rw [zbz];congr 1;unfold rpk;rw [List.take_append_of_le_length (by simp),List.take_of_length_le (by simp)]
   have e3:List.take (min k (n - k)) (bs (List.replicate k (128:UInt8)))=bs (List.replicate (min k (n - k)) 128):=by
    rw [zbz,List.take_replicate];congr 2;omega
   have e4:List.drop (k+(bs (List.replicate (min k (n - k)) (128:UInt8))).length) (bs (rpk n k))=bs (List.replicate (n - (k+min k (n - k))) 0):=by
    rw [ze,List.length_replicate,zco]
    congr 1
    unfold rpk
    rw [List.drop_append,List.length_replicate,List.drop_of_length_le (by simp),List.nil_append,List.drop_replicate]
    congr 1;omega
   rw [e2,e3,e4]
   have e5:bs (List.replicate k 128)++(bs (List.replicate (min k (n - k)) 128)++bs (List.replicate (n - (k+min k (n - k))) 0))=bs (rpk n (k+min k (n - k))):=by
    rw [←zat,←zat];unfold rpk;rw [←List.append_assoc,List.replicate_append_replicate]
   rw [e5]
   exact PL.at [7,8] (ih (n - (k+min k (n - k))) (by omega) (k+min k (n - k)) (by omega) (by omega) rfl) rfl rfl
  ·have h4:k=n:=by have:=of_decide_eq_false h;omega
   subst h4
   refine PW.exit ?_
   rw [zlQ]
   refine PW.e ?_
   refine PW.ret ⟨_,rfl,?_⟩
   exact Fin.base (Fz.mslC (e:=5) (xs:=bs (List.replicate k 128)) (by omega) (hp0 _ _ _) (by simp [ze]) (FzC.refl (zq _ _)))
theorem zww:fmc gry=[.int .i64 16,.int .i64 16,.slice (bs (List.replicate 256 128)) 256 false,.slice (bs (List.replicate 64 128)) 64 false,.slice (bs (List.replicate 64 128)) 64 false]:=F16.gry.c
set_option maxRecDepth 10000 in
theorem zsg (H:za):CallOk Tryz.prog 129 [.int .i64 16,.int .i64 16,.int .u8 128,.int .u8 128,.int .u8 128] H (.tup [.agg (fmc gry),.int .i64 0]) H:=by
 have fz:=fun K=>ziD 16 16 K
 rw [show fsz 16 16=true by decide] at fz
 have r1:=fun K=>zhy 256 (.inr rfl) K
 have r2:=fun K=>zhy 64 (.inl rfl) K
 rw [zww]
 generalize List.replicate 256 (128:UInt8)=A at r1 ⊢
 generalize List.replicate 64 (128:UInt8)=B at r2 ⊢
 have d1:(16:Int).tdiv 2=8:=rfl
 have m1:(16:Int) * 16=((256:Nat):Int):=rfl
 have m2:(8:Int) * 8=((64:Nat):Int):=rfl
 refine CallOk.body (F0:=[(0,.int .i64 16),(1,.int .i64 16),(2,.int .u8 128),(3,.int .u8 128),(4,.int .u8 128)]) Tryz.func129 rfl Tryz.ntmps129 Tryz.results129 rfl (by kernel_rfl) rfl ?_
 refine PW.e ?_
 refine PW.f (fun K k=>by simp (maxSteps:=3000000) (disch:=omega) only [go_sem,↓reduceIte,reduceCtorEq];refine VCx.call (fz _) rfl ?_;simp (maxSteps:=3000000) (disch:=omega) only [go_sem,↓reduceIte,reduceCtorEq];exact k) ?_
 refine PW.us ?_
 refine PW.f (fun K k=>by simp (maxSteps:=3000000) (disch:=omega) only [go_sem,↓reduceIte,reduceCtorEq,d1,m1,m2];exact k) ?_
 refine PW.f (fun K k=>by simp (maxSteps:=3000000) (disch:=omega) only [go_sem,↓reduceIte,reduceCtorEq];refine VCx.call (r1 _) rfl ?_;simp (maxSteps:=3000000) (disch:=omega) only [go_sem,↓reduceIte,reduceCtorEq];refine VCx.call (r2 _) rfl ?_;simp (maxSteps:=3000000) (disch:=omega) only [go_sem,↓reduceIte,reduceCtorEq];refine VCx.call (r2 _) rfl ?_;simp (maxSteps:=3000000) (disch:=omega) only [go_sem,↓reduceIte,reduceCtorEq];exact k) ?_
 refine PW.ret ⟨.tup [.agg [.int .i64 16,.int .i64 16,.slice (bs A) 256 false,.slice (bs B) 64 false,.slice (bs B) 64 false],.int .i64 0],by simp (maxSteps:=3000000) (disch:=omega) only [go_sem,↓reduceIte,reduceCtorEq,zd,zg,List.mapM_cons,List.mapM_nil,Option.pure_def,Option.bind_eq_bind,Option.bind_some,Array.toList],?_⟩
 exact Fin.base (.id (zQ _ _ _ _ _ _ _ _ _ _))
theorem ztA (q:Int) (H:za):CallOk Tryz.prog 134 [.int .i64 q] H (.bool (qnB q)) H:=by
 refine CallOk.body (F0:=[(0,.int .i64 q)]) Tryz.func134 rfl Tryz.ntmps134 Tryz.results134 rfl (by kernel_rfl) rfl ?_
 (repeat' (first|refine PW.seq ?_|refine PW.skip ?_|refine PW.block ?_|((first|refine PW.rg rfl fun K hK=> ?_|refine PW.draw mix (by kernel_rfl) fun K hK=> ?_);simp (maxSteps:=3000000) (disch:=omega) only [go_sem,↓reduceIte,reduceCtorEq])|((first|refine zj ?_ ?_|refine zn ?_ ?_|refine And.intro ?_ ?_)<;>intro h<;>(try simp only [nqb] at h)<;>simp (maxSteps:=3000000) (disch:=omega) only [go_sem,↓reduceIte,reduceCtorEq,h])|(refine hK _ _ ?_;clear hK K)|(refine PW.cond (t:=_) rfl (fun h=> ?_) (fun h=> ?_)<;>(try (cases h;done))<;>(try simp only [nqb] at h))))
 all_goals ((refine PW.ret ⟨_,rfl,?_⟩;first|refine .inl ⟨?_,rfl⟩|refine Fin.base (.id' ?_ (.bool _))|refine Fin.base (.id' ?_ (.int _ _)));(simp_all [qnB,slot,Nat.beq]<;>first|rfl|omega|(rw [Bool.eq_iff_iff];simp;done)|(rw [Bool.eq_iff_iff];simp;omega)))
theorem ziJ {c:Cx} {fp used:Bool} {a b d e p q:Int} (h:zch c fp used a b d e p q=true):(p=0∨p=1)∧(q=0∨q=1)∧(used=true→vrg a b=true∧vrg d e=true):=by
 unfold zch at h
 cases used
 ·simp only [Bool.false_eq_true,if_false,Bool.and_eq_true,decide_eq_true_eq] at h
  exact ⟨.inl h.2.2.2.2.1,.inl h.2.2.2.2.2,fun e=>by cases e⟩
 ·simp only [if_true,Bool.and_eq_true,Bool.or_eq_true,decide_eq_true_eq] at h
  exact ⟨h.2.2.1,h.2.2.2.1,fun _=>⟨h.1,h.2.1⟩⟩
theorem zp3 {c:Cx} {m:Mb} (h:fmS c m=true) (hk:m.k=2):PrOk m∧selB m∧lvr m.lv=true:=by
 unfold fmS at h
 rw [Bool.and_eq_true,if_neg (by omega),if_neg (by omega),if_pos hk] at h
 have h2:=h.2
 unfold ziy at h2
 simp only [Bool.and_eq_true] at h2
 obtain ⟨hu,_,h0,h1,hl,_⟩:=h2
 have d0:=ziJ h0
 have d1:=ziJ h1
 refine ⟨⟨?_,fun d hd hf=> ?_⟩,⟨d0.1,d0.2.1,d1.1,d1.2.1⟩,hl⟩
 ·unfold zgc at hu
  cases ha:m.ua<;>cases hb:m.ub<;>simp_all
 ·unfold us at hd
  unfold s1 s2 v1 v2 v3 v4
  by_cases hz:d=0
  ·simp only [if_pos hz] at hd ⊢
   exact ⟨d0.1,d0.2.1,d0.2.2 hd⟩
  ·simp only [if_neg hz] at hd ⊢
   exact ⟨d1.1,d1.2.1,d1.2.2 hd⟩
theorem zuL {c:Cx} {m:Mb} (h:fmS c m=true) (hk:m.k=1):lvr m.lv=true:=by
 unfold fmS at h
 rw [Bool.and_eq_true,if_neg (by omega),if_pos hk] at h
 simp only [Bool.and_eq_true] at h
 exact h.2.2.2.2
theorem zuM {c:Cx} {m:Mb} (h:fmS c m=true):m.k=0∨m.k=1∨m.k=2:=by
 unfold fmS at h
 rw [Bool.and_eq_true] at h
 by_cases h0:m.k=0
 ·exact .inl h0
 ·by_cases h1:m.k=1
  ·exact .inr (.inl h1)
  ·by_cases h2:m.k=2
   ·exact .inr (.inr h2)
   ·rw [if_neg h0,if_neg h1,if_neg h2] at h;cases h.2
theorem zvo:lrm zl384:=fun i=>by
 unfold zh zl384
 rw [List.getD_eq_getElem?_getD,List.getElem?_replicate]
 split<;>simp
theorem ztO (c:Cx):PrOk (stl c):=⟨.inl rfl,fun d _ hf=>by cases hf⟩
theorem ztQ (s:Sq) (h:s.ia.length=64):List.take 64 (List.drop 7 (sqc s))=bs s.ia:=zfo s.ia s.ie h
theorem ztP (s:Sq) (h:s.ia.length=64) (h':s.ie.length=64):List.take 64 (List.drop 71 (sqc s))=bs s.ie:=by
 show List.take 64 (List.drop 64 (bs s.ia++bs s.ie))=_
 rw [zfn _ _ h,zeg _ h']
theorem zrc (s:Sq) (h:s.ia.length=64) (h':s.ie.length=64):(sqc s).length=135:=by simp [sqc,ze,h,h']
theorem zoh (s:Sq):(sqc s).all PV.cell=true:=by simp [sqc,bs,PV.cell]
set_option maxHeartbeats 6400000 in
set_option maxRecDepth 100000 in
theorem zoN (c:Cx) (s:Sq) (al:Bool) (q:Int) (m:Mb) (pa fu fi:Fm) (mx my:Int) (H:za) (hml:m.lv.length=384) (hia:s.ia.length=64) (hie:s.ie.length=64):
  CallOk Tryz.prog 74 [.agg (cxc c),.agg (sqc s),.bool al,.int .i64 q,.agg (mbc m),.agg (fmc pa++(fmc fu++fmc fi)),.int .i64 mx,.int .i64 my] H (.tup [.agg (fmc (zgt c s.ia s.ie al q m pa fu fi mx my).1),.int .i64 (zgt c s.ia s.ie al q m pa fu fi mx my).2]) H:=by
 have fo:=fun L=>zwC c m L hml
 have q1:=fun L=>zjN s.ia L hia
 have q2:=fun L=>zjN s.ie L hie
 have q3:=fun L=>ztA q L
 have c1:=ztQ s hia
 have c2:=ztP s hia hie
 have c3:=zrc s hia hie
 have c4:=zoh s
 have m1:=zb8 m hml
 have m2:=zcC m
 have m3:(mbc m)[0]? =some (.int .i64 m.k):=rfl
 have m4:List.take 408 (mbc m)=mbc m:=List.take_of_length_le (by omega)
 have m5:List.drop 408 (mbc m)=[]:=List.drop_of_length_le (by omega)
 have cl:(cxc c).length=4:=rfl
 have cc:(cxc c).all PV.cell=true:=rfl
 have ct4:List.take 4 (cxc c)=cxc c:=rfl
 have rl:(fmc pa++(fmc fu++fmc fi)).length=15:=rfl
 have rc:(fmc pa++(fmc fu++fmc fi)).all PV.cell=true:=rfl
 have rt:List.take 15 (fmc pa++(fmc fu++fmc fi))=fmc pa++(fmc fu++fmc fi):=rfl
 have z9:List.drop 5 [PV.int .i64 0,PV.int .i64 0,PV.slice [] 0 true,PV.slice [] 0 true,PV.slice [] 0 true]=[]:=rfl
 generalize hr:zgt c s.ia s.ie al q m pa fu fi mx my=r
 unfold zgt at hr
 refine CallOk.body (F0:=[(0,.agg (cxc c)),(1,.agg (sqc s)),(2,.bool al),(3,.int .i64 q),(4,.agg (mbc m)),(5,.agg (fmc pa++(fmc fu++fmc fi))),(6,.int .i64 mx),(7,.int .i64 my)]) Tryz.func74 rfl Tryz.ntmps74 Tryz.results74 rfl (by kernel_rfl) rfl ?_
 refine PW.f (fun K k=>by simp (maxSteps:=3000000) (disch:=omega) only [go_sem,↓reduceIte,reduceCtorEq,cc,rc,c4,m2];exact k) ?_
 (repeat refine PW.seq ?_)
 refine PW.rgv (P:=Tryz.prog) [2,3,6,7,8,9,12,13,16,17] 42 (.bool (!(fmS c m&&(zbH s.ia&&(zbH s.ie&&qnB q))))) ?_ ?_ ?_
 ·rfl
 ·clear hr
  generalize fmS c m=b1 at fo ⊢
  generalize zbH s.ia=b2 at q1 ⊢
  generalize zbH s.ie=b3 at q2 ⊢
  generalize qnB q=b4 at q3 ⊢
  simp (maxSteps:=3000000) (disch:=omega) only [go_sem,↓reduceIte,reduceCtorEq,cl,ct4,m1,m4,c1,c2,c3];(repeat' (first|((first|refine zj ?_ ?_|refine And.intro ?_ ?_)<;>intro h<;>(try simp only [nqb] at h)<;>simp (maxSteps:=3000000) (disch:=omega) only [go_sem,↓reduceIte,reduceCtorEq,cl,ct4,m1,m4,c1,c2,c3,h])|((first|refine VCx.call (fo _) rfl ?_|refine VCx.call (q1 _) rfl ?_|refine VCx.call (q2 _) rfl ?_|refine VCx.call (q3 _) rfl ?_);simp (maxSteps:=3000000) (disch:=omega) only [go_sem,↓reduceIte,reduceCtorEq,cl,ct4,m1,m4,c1,c2,c3])))
  all_goals (clear fo q1 q2 q3;(simp_all [slot,Nat.beq]<;>first|rfl|omega|(rw [Bool.eq_iff_iff];simp;done)|(rw [Bool.eq_iff_iff];simp;omega)))
 (repeat refine PW.seq ?_);refine PW.cond (t:=_) rfl (fun h=> ?_) (fun h=> ?_)
 ·have hb:(fmS c m&&(zbH s.ia&&(zbH s.ie&&qnB q)))=false:=by
   cases hx:(fmS c m&&(zbH s.ia&&(zbH s.ie&&qnB q))) with
   | false=>rfl
   | true=>rw [hx] at h;cases h
  rw [hb,if_neg (by simp)] at hr
  refine PW.e ?_
  refine PW.ret ⟨.tup [.agg [.int .i64 0,.int .i64 0,.slice [] 0 true,.slice [] 0 true,.slice [] 0 true],.int .i64 1],by simp (maxSteps:=3000000) (disch:=omega) only [go_sem,↓reduceIte,reduceCtorEq,zd,zg,List.mapM_cons,List.mapM_nil,Option.pure_def,Option.bind_eq_bind,Option.bind_some,Array.toList],?_⟩
  rw [←hr]
  exact Fin.base (fz0 _ _ _)
 have hb:(fmS c m&&(zbH s.ia&&(zbH s.ie&&qnB q)))=true:=by simpa using h
 rw [hb,if_pos rfl] at hr
 simp only [Bool.and_eq_true] at hb
 obtain ⟨hf,hb1,hb2,hb3⟩:=hb
 refine PW.skip ?_
 refine PW.f (fun K k=>by simp (maxSteps:=3000000) (disch:=omega) only [go_sem,↓reduceIte,reduceCtorEq,m1,m3];exact k) ?_
 (repeat refine PW.seq ?_);refine PW.cond (t:=_) rfl (fun h=> ?_) (fun h=> ?_)
 ·have hk:m.k=1:=by simpa using h
  rw [if_pos hk] at hr
  have fl:=fun L=>zsg L
  have ad:=fun L hL=>zqL gry F16.gry m (H.length+2) s.ia q al L hL hml (zpG hml (zuL hf hk)) hia hb1 hb3
  generalize gry=g at fl ad hr
  obtain ⟨g',hg'⟩:∃ g',addN m al s.ia q g 6=g':=⟨_,rfl⟩
  rw [hg'] at ad hr
  have g5:(fmc g).all PV.cell=true:=rfl
  have g7:(fmc g).length=5:=rfl
  have g8:List.take 5 (fmc g)=fmc g:=rfl
  have e5:(fmc g').all PV.cell=true:=rfl
  have e7:(fmc g').length=5:=rfl
  have e8:List.take 5 (fmc g')=fmc g':=rfl
  refine PW.f (fun K k=>by simp (maxSteps:=3000000) (disch:=omega) only [go_sem,↓reduceIte,reduceCtorEq,g5,g7,z9];refine VCx.call (fl _) rfl ?_;simp (maxSteps:=3000000) (disch:=omega) only [go_sem,↓reduceIte,reduceCtorEq,g5,g7,z9];exact k) ?_
  refine PW.e ?_
  refine PW.us ?_
  refine PW.f (fun K k=>by simp (maxSteps:=3000000) (disch:=omega) only [go_sem,↓reduceIte,reduceCtorEq,g7,g8,c1,c3,e5,e7,e8,z9];refine VCx.call (ad _ (apn _ _ 2)) rfl ?_;simp (maxSteps:=3000000) (disch:=omega) only [go_sem,↓reduceIte,reduceCtorEq,g7,g8,c1,c3,e5,e7,e8,z9];exact k) ?_
  refine PW.ret ⟨.tup [.agg (fmc g'),.int .i64 0],by simp (maxSteps:=3000000) (disch:=omega) only [go_sem,↓reduceIte,reduceCtorEq,zd,zg,List.mapM_cons,List.mapM_nil,Option.pure_def,Option.bind_eq_bind,Option.bind_some,Array.toList,e7,e8],?_⟩
  rw [←hr]
  exact Fin.base (.id (zQ _ _ _ _ _ _ _ _ _ _))
 have hk:m.k≠1:=by simpa using h
 rw [if_neg hk] at hr
 refine PW.skip ?_
 obtain ⟨M,hM⟩:∃ M,(if m.k=0 then stl c else m)=M:=⟨_,rfl⟩
 have hMl:M.lv.length=384:=by rw [←hM];split;exact zcK;exact hml
 have hMp:PrOk M:=by
  rw [←hM];split
  ·exact ztO c
  ·exact (zp3 hf (by rcases zuM hf with h|h|h<;>omega)).1
 have hMr:lrm M.lv:=by
  rw [←hM];split
  ·exact zvo
  ·exact zpG hml (zp3 hf (by rcases zuM hf with h|h|h<;>omega)).2.2
 rw [hM] at hr
 suffices hrest:PW Tryz.prog _ _ [(2,.bool al),(3,.int .i64 q),(6,.int .i64 mx),(7,.int .i64 my),(8,.ptr H.length 0 0),(9,.ptr (H.length+1) 0 0),(12,.ptr (H.length+2) 0 0),(13,.ptr (H.length+3) 0 0),(16,.ptr (H.length+4) 0 0)] (H++[⟨157,0,cxc c⟩,⟨29,0,sqc s⟩,⟨154,0,mbc M⟩,⟨87,0,fmc pa++(fmc fu++fmc fi)⟩,⟨33,0,[.int .i64 0,.int .i64 0,.slice [] 0 true,.slice [] 0 true,.slice [] 0 true]⟩]) _ by
  refine PW.f (fun K k=>by simp (maxSteps:=3000000) (disch:=omega) only [go_sem,↓reduceIte,reduceCtorEq,m1,m3];exact k) ?_
  (repeat refine PW.seq ?_);refine PW.cond (t:=_) rfl (fun h=> ?_) (fun h=> ?_)
  ·have hz:m.k=0:=by simpa using h
   rw [if_pos hz] at hM
   have so:=fun L=>zoc c L
   rw [hM] at so
   have n1:=zb8 M hMl
   have n2:=zcC M
   refine PW.f (fun K k=>by simp (maxSteps:=3000000) (disch:=omega) only [go_sem,↓reduceIte,reduceCtorEq,cl,ct4,m1,m5,n1,n2];refine VCx.call (so _) rfl ?_;simp (maxSteps:=3000000) (disch:=omega) only [go_sem,↓reduceIte,reduceCtorEq,cl,ct4,m1,m5,n1,n2];exact k) ?_
   exact PW.at [2,3,6,7,8,9,12,13,16] hrest rfl rfl
  ·have hz:m.k≠0:=by simpa using h
   rw [if_neg hz] at hM
   subst hM
   refine PW.skip ?_
   exact PW.at [2,3,6,7,8,9,12,13,16] hrest rfl rfl
 have h16:(prS c M pa fu fi mx my).2=0→F16 (prS c M pa fu fi mx my).1:=zoZ
 have pr:=fun L hL=>zjs c M (H.length+2) pa fu fi mx my L hL hMl hMp
 generalize prS c M pa fu fi mx my=T at pr hr h16
 obtain ⟨g,e⟩:=T
 simp only at pr hr h16
 have g5:(fmc g).all PV.cell=true:=rfl
 have g7:(fmc g).length=5:=rfl
 have g8:List.take 5 (fmc g)=fmc g:=rfl
 refine PW.f (fun K k=>by simp (maxSteps:=3000000) (disch:=omega) only [go_sem,↓reduceIte,reduceCtorEq,cl,ct4,rl,rt,g5,g7,z9];refine VCx.call (pr _ (apn _ _ 2)) rfl ?_;simp (maxSteps:=3000000) (disch:=omega) only [go_sem,↓reduceIte,reduceCtorEq,cl,ct4,rl,rt,g5,g7,z9];exact k) ?_
 refine PW.e ?_
 (repeat refine PW.seq ?_);refine PW.cond (t:=_) rfl (fun h=> ?_) (fun h=> ?_)
 ·have he:e≠0:=by simpa using h
  rw [if_pos he] at hr
  refine PW.e ?_
  refine PW.ret ⟨.tup [.agg [.int .i64 0,.int .i64 0,.slice [] 0 true,.slice [] 0 true,.slice [] 0 true],.int .i64 e],by simp (maxSteps:=3000000) (disch:=omega) only [go_sem,↓reduceIte,reduceCtorEq,zd,zg,List.mapM_cons,List.mapM_nil,Option.pure_def,Option.bind_eq_bind,Option.bind_some,Array.toList],?_⟩
  rw [←hr]
  exact Fin.base (fz0 _ _ _)
 have he:e=0:=by simpa using h
 rw [if_neg (by simp [he])] at hr
 have ad:=fun L hL=>zqL g (h16 he) M (H.length+2) s.ie q al L hL hMl hMr hie hb2 hb3
 obtain ⟨g',hg'⟩:∃ g',addN M al s.ie q g 6=g':=⟨_,rfl⟩
 rw [hg'] at ad hr
 have e5:(fmc g').all PV.cell=true:=rfl
 have e7:(fmc g').length=5:=rfl
 have e8:List.take 5 (fmc g')=fmc g':=rfl
 refine PW.skip ?_
 refine PW.f (fun K k=>by simp (maxSteps:=3000000) (disch:=omega) only [go_sem,↓reduceIte,reduceCtorEq,g7,g8,c2,c3,e5,e7,e8,z9];refine VCx.call (ad _ (apn _ _ 2)) rfl ?_;simp (maxSteps:=3000000) (disch:=omega) only [go_sem,↓reduceIte,reduceCtorEq,g7,g8,c2,c3,e5,e7,e8,z9];exact k) ?_
 refine PW.ret ⟨.tup [.agg (fmc g'),.int .i64 0],by simp (maxSteps:=3000000) (disch:=omega) only [go_sem,↓reduceIte,reduceCtorEq,zd,zg,List.mapM_cons,List.mapM_nil,Option.pure_def,Option.bind_eq_bind,Option.bind_some,Array.toList,e7,e8],?_⟩
 rw [←hr]
 exact Fin.base (.id (zQ _ _ _ _ _ _ _ _ _ _))
end Go.Proofs.YtjgmdlcjbgiekaaGreatDoor.Sc
