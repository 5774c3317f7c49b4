/-
  Parts of the proof, put together in one text. No condition.
-/
import Derived.Test.YtjgmdlcjbgiekaaGreatDoorP17
namespace Go.Proofs.YtjgmdlcjbgiekaaGreatDoor.Sc
set_option linter.all false
open Pm Ty Go.RowKit
theorem zue (H:za):CallOk Tryz.prog 284 [.int .u64 1,.int .u64 64] H (.tup [.int .u64 0,.int .u64 64]) H:=CallOk.evalV 100000 (by kernel_rfl) (fun x hx=>by
 simp only [List.mem_cons,List.not_mem_nil,or_false] at hx
 rcases hx with rfl|rfl<;>exact .int _ _)
theorem zrP (H:za):CallOk Tryz.prog 284 [.int .u64 1,.int .u64 256] H (.tup [.int .u64 0,.int .u64 256]) H:=CallOk.evalV 100000 (by kernel_rfl) (fun x hx=>by
 simp only [List.mem_cons,List.not_mem_nil,or_false] at hx
 rcases hx with rfl|rfl<;>exact .int _ _)
def rpk (n k:Nat):List UInt8:=List.replicate k 128++List.replicate (n - k) 0
theorem zlH {n k:Nat} (h:k≤n):(rpk n k).length=n:=by simp [rpk];omega
theorem zlI (n:Nat):rpk n n=List.replicate n 128:=by simp [rpk]
set_option maxHeartbeats 1600000 in
theorem zhz (n:Nat) (hn:n=64∨n=256) (H:za):CallOk Tryz.prog 203 [.slice [.int .u8 128] 1 true,.int .i64 (n:Int)] H (.slice (bs (List.replicate n 128)) n false) H:=by
 have mu:∀ K,CallOk Tryz.prog 284 [.int .u64 1,.int .u64 (n:Int)] K (.tup [.int .u64 0,.int .u64 (n:Int)]) K:=fun K=>by
  rcases hn with rfl|rfl
  ·exact zue K
  ·exact zrP K
 have hz:(List.replicate n [PV.int .u8 0]).flatten=bs (List.replicate n 0):=zcY n
 have u1:IntKind.u64.wrap (n:Int)=(n:Int):=by rcases hn with rfl|rfl<;>rfl
 have u2:IntKind.u64.wrap 1=1:=rfl
 refine CallOk.body (F0:=[(0,.slice [.int .u8 128] 1 true),(1,.int .i64 (n:Int))]) Tryz.func203 rfl Tryz.ntmps203 Tryz.results203 rfl (by kernel_rfl) rfl ?_
 refine PW.e ?_
 refine PW.e ?_
 (repeat refine PW.seq ?_);refine PW.cond (t:=_) rfl (fun h=> ?_) (fun h=> ?_)
 ·cases h
 refine PW.skip ?_
 refine PW.f (fun K k=>by simp (maxSteps:=3000000) (disch:=omega) only [go_sem,↓reduceIte,reduceCtorEq,u1,u2];refine VCx.call (mu _) rfl ?_;simp (maxSteps:=3000000) (disch:=omega) only [go_sem,↓reduceIte,reduceCtorEq,u1,u2];exact k) ?_
 (repeat refine PW.seq ?_)
 refine PW.rgv (P:=Tryz.prog) [0,6] 26 (.bool false) ?_ ?_ ?_
 ·rfl
 ·simp (maxSteps:=3000000) (disch:=omega) only [go_sem,↓reduceIte,reduceCtorEq];(repeat' ((first|refine zk ?_ ?_|refine zn ?_ ?_|refine zT ?_ ?_|refine zS ?_ ?_|refine zR ?_ ?_|refine And.intro ?_ ?_)<;>intro h<;>(try simp only [nqb] at h)<;>simp (maxSteps:=3000000) (disch:=omega) only [go_sem,↓reduceIte,reduceCtorEq,h]))
  all_goals (simp_all [slot,Nat.beq]<;>first|rfl|omega|(rw [Bool.eq_iff_iff];simp;done)|(rw [Bool.eq_iff_iff];simp;omega))
 (repeat refine PW.seq ?_);refine PW.cond (t:=_) rfl (fun h=> ?_) (fun h=> ?_)
 ·cases h
 refine PW.skip ?_
 refine PW.e ?_
 rw [hz]
 have mn:min 1 n=1:=by omega
 refine PW.f (fun K k=>by simp (maxSteps:=3000000) (disch:=omega) only [go_sem,↓reduceIte,reduceCtorEq,ze,List.length_replicate,mn];exact k) ?_
 (repeat refine PW.seq ?_);refine PW.block (PW.loop ?_)
 suffices hloop:∀ k:Nat,1≤k→k≤n→PL Tryz.prog _ _ [(7,.msl H.length 0 0 n 1 true),(8,.int .i64 (k:Int))] (H++[⟨5,0,bs (rpk n k)⟩]) _ by
  exact PL.at [7,8] (hloop 1 (by omega) (by omega)) rfl (by simp [zN];rcases hn with rfl|rfl<;>rfl)
 intro k hk1 hkn
 induction hm:n - k using Nat.strongRecOn generalizing k with
 | _ d ih=>
  have hl:=zlH hkn
  refine PL.round ?_;refine PW.e ?_
  (repeat refine PW.seq ?_);refine PW.cond (t:=_) rfl (fun h=> ?_) (fun h=> ?_)
  ·have h4:k<n:=by have:=of_decide_eq_true h;omega
   refine PW.skip ?_;(repeat refine PW.seq ?_);refine PW.block ?_
   (repeat refine PW.seq ?_);refine PW.draw mix (by kernel_rfl) fun K hK=> ?_
   simp (maxSteps:=3000000) (disch:=omega) only [go_sem,↓reduceIte,reduceCtorEq,ze,hl]
   refine hK _ _ ?_;clear hK K
   have hm1:min (k - 0) (n - k)=min k (n - k):=by rw [Nat.sub_zero]
   rw [hm1,Nat.sub_zero]
   have e1:(k:Int)+((min k (n - k):Nat):Int)=((k+min k (n - k):Nat):Int):=by omega
   rw [e1]
   have e2:List.take k (bs (rpk n k))=bs (List.replicate k 128):=by
    rw [zby];congr 1;unfold rpk;rw [List.take_append_of_le_length (by simp),List.take_of_length_le (by simp)]
   have e3:List.take (min k (n - k)) (bs (List.replicate k (128:UInt8)))=bs (List.replicate (min k (n - k)) 128):=by
    rw [zby,List.take_replicate];congr 2;omega
   have e4:List.drop (k+(bs (List.replicate (min k (n - k)) (128:UInt8))).length) (bs (rpk n k))=bs (List.replicate (n - (k+min k (n - k))) 0):=by
    rw [ze,List.length_replicate,zci]
    congr 1
    unfold rpk
    rw [List.drop_append,List.length_replicate,List.drop_of_length_le (by simp),List.nil_append,List.drop_replicate]
    congr 1;omega
   rw [e2,e3,e4]
   have e5:bs (List.replicate k 128)++(bs (List.replicate (min k (n - k)) 128)++bs (List.replicate (n - (k+min k (n - k))) 0))=bs (rpk n (k+min k (n - k))):=by
    rw [←zau,←zau];unfold rpk;rw [←List.append_assoc,List.replicate_append_replicate]
   rw [e5]
   exact PL.at [7,8] (ih (n - (k+min k (n - k))) (by omega) (k+min k (n - k)) (by omega) (by omega) rfl) rfl rfl
  ·have h4:k=n:=by have:=of_decide_eq_false h;omega
   subst h4
   refine PW.exit ?_
   rw [zlI]
   refine PW.e ?_
   refine PW.ret ⟨_,rfl,?_⟩
   exact Fin.base (Fz.mslC (e:=5) (xs:=bs (List.replicate k 128)) (by omega) (hp0 _ _ _) (by simp [ze]) (FzC.refl (zq _ _)))
theorem zwy:fmc gry=[.int .i64 16,.int .i64 16,.slice (bs (List.replicate 256 128)) 256 false,.slice (bs (List.replicate 64 128)) 64 false,.slice (bs (List.replicate 64 128)) 64 false]:=F16.gry.c
set_option maxRecDepth 10000 in
theorem zsk (H:za):CallOk Tryz.prog 129 [.int .i64 16,.int .i64 16,.int .u8 128,.int .u8 128,.int .u8 128] H (.tup [.agg (fmc gry),.int .i64 0]) H:=by
 have fz:=fun K=>ziB 16 16 K
 rw [show fsz 16 16=true by decide] at fz
 have r1:=fun K=>zhz 256 (.inr rfl) K
 have r2:=fun K=>zhz 64 (.inl rfl) K
 rw [zwy]
 generalize List.replicate 256 (128:UInt8)=A at r1 ⊢
 generalize List.replicate 64 (128:UInt8)=B at r2 ⊢
 have d1:(16:Int).tdiv 2=8:=rfl
 have m1:(16:Int) * 16=((256:Nat):Int):=rfl
 have m2:(8:Int) * 8=((64:Nat):Int):=rfl
 refine CallOk.body (F0:=[(0,.int .i64 16),(1,.int .i64 16),(2,.int .u8 128),(3,.int .u8 128),(4,.int .u8 128)]) Tryz.func129 rfl Tryz.ntmps129 Tryz.results129 rfl (by kernel_rfl) rfl ?_
 refine PW.e ?_
 refine PW.f (fun K k=>by simp (maxSteps:=3000000) (disch:=omega) only [go_sem,↓reduceIte,reduceCtorEq];refine VCx.call (fz _) rfl ?_;simp (maxSteps:=3000000) (disch:=omega) only [go_sem,↓reduceIte,reduceCtorEq];exact k) ?_
 (repeat refine PW.seq ?_);refine PW.cond (t:=_) rfl (fun h=> ?_) (fun h=> ?_)
 ·cases h
 refine PW.skip ?_
 refine PW.f (fun K k=>by simp (maxSteps:=3000000) (disch:=omega) only [go_sem,↓reduceIte,reduceCtorEq,d1,m1,m2];exact k) ?_
 refine PW.f (fun K k=>by simp (maxSteps:=3000000) (disch:=omega) only [go_sem,↓reduceIte,reduceCtorEq];refine VCx.call (r1 _) rfl ?_;simp (maxSteps:=3000000) (disch:=omega) only [go_sem,↓reduceIte,reduceCtorEq];refine VCx.call (r2 _) rfl ?_;simp (maxSteps:=3000000) (disch:=omega) only [go_sem,↓reduceIte,reduceCtorEq];refine VCx.call (r2 _) rfl ?_;simp (maxSteps:=3000000) (disch:=omega) only [go_sem,↓reduceIte,reduceCtorEq];exact k) ?_
 refine PW.ret ⟨.tup [.agg [.int .i64 16,.int .i64 16,.slice (bs A) 256 false,.slice (bs B) 64 false,.slice (bs B) 64 false],.int .i64 0],by simp (maxSteps:=3000000) (disch:=omega) only [go_sem,↓reduceIte,reduceCtorEq,zd,zg,List.mapM_cons,List.mapM_nil,Option.pure_def,Option.bind_eq_bind,Option.bind_some,Array.toList],?_⟩
 exact Fin.base (.id (zO _ _ _ _ _ _ _ _ _ _))
theorem ztC (q:Int) (H:za):CallOk Tryz.prog 134 [.int .i64 q] H (.bool (qnB q)) H:=by
 refine CallOk.body (F0:=[(0,.int .i64 q)]) Tryz.func134 rfl Tryz.ntmps134 Tryz.results134 rfl (by kernel_rfl) rfl ?_
 (repeat' (first|refine PW.seq ?_|refine PW.skip ?_|refine PW.block ?_|((first|refine PW.rg rfl fun K hK=> ?_|refine PW.draw mix (by kernel_rfl) fun K hK=> ?_);simp (maxSteps:=3000000) (disch:=omega) only [go_sem,↓reduceIte,reduceCtorEq])|((first|refine zk ?_ ?_|refine zn ?_ ?_|refine And.intro ?_ ?_)<;>intro h<;>(try simp only [nqb] at h)<;>simp (maxSteps:=3000000) (disch:=omega) only [go_sem,↓reduceIte,reduceCtorEq,h])|(refine hK _ _ ?_;clear hK K)|(refine PW.cond (t:=_) rfl (fun h=> ?_) (fun h=> ?_)<;>(try (cases h;done))<;>(try simp only [nqb] at h))))
 all_goals ((refine PW.ret ⟨_,rfl,?_⟩;first|refine .inl ⟨?_,rfl⟩|refine Fin.base (.id' ?_ (.bool _))|refine Fin.base (.id' ?_ (.int _ _)));(simp_all [qnB,slot,Nat.beq]<;>first|rfl|omega|(rw [Bool.eq_iff_iff];simp;done)|(rw [Bool.eq_iff_iff];simp;omega)))
theorem ziF {c:Cx} {fp used:Bool} {a b d e p q:Int} (h:zca c fp used a b d e p q=true):(p=0∨p=1)∧(q=0∨q=1)∧(used=true→vrg a b=true∧vrg d e=true):=by
 unfold zca at h
 cases used
 ·simp only [Bool.false_eq_true,if_false,Bool.and_eq_true,decide_eq_true_eq] at h
  exact ⟨.inl h.2.2.2.2.1,.inl h.2.2.2.2.2,fun e=>by cases e⟩
 ·simp only [if_true,Bool.and_eq_true,Bool.or_eq_true,decide_eq_true_eq] at h
  exact ⟨h.2.2.1,h.2.2.2.1,fun _=>⟨h.1,h.2.1⟩⟩
theorem zp2 {c:Cx} {m:Mb} (h:fmS c m=true) (hk:m.k=2):PrOk m∧selB m∧lvr m.lv=true:=by
 unfold fmS at h
 rw [Bool.and_eq_true,if_neg (by omega),if_neg (by omega),if_pos hk] at h
 have h2:=h.2
 unfold zix at h2
 simp only [Bool.and_eq_true] at h2
 obtain ⟨hu,_,h0,h1,hl,_⟩:=h2
 have d0:=ziF h0
 have d1:=ziF h1
 refine ⟨⟨?_,fun d hd hf=> ?_⟩,⟨d0.1,d0.2.1,d1.1,d1.2.1⟩,hl⟩
 ·unfold zgc at hu
  cases ha:m.ua<;>cases hb:m.ub<;>simp_all
 ·unfold us at hd
  unfold s1 s2 v1 v2 v3 v4
  by_cases hz:d=0
  ·simp only [if_pos hz] at hd ⊢
   exact ⟨d0.1,d0.2.1,d0.2.2 hd⟩
  ·simp only [if_neg hz] at hd ⊢
   exact ⟨d1.1,d1.2.1,d1.2.2 hd⟩
theorem zuM {c:Cx} {m:Mb} (h:fmS c m=true) (hk:m.k=1):lvr m.lv=true:=by
 unfold fmS at h
 rw [Bool.and_eq_true,if_neg (by omega),if_pos hk] at h
 simp only [Bool.and_eq_true] at h
 exact h.2.2.2.2
theorem zuN {c:Cx} {m:Mb} (h:fmS c m=true):m.k=0∨m.k=1∨m.k=2:=by
 unfold fmS at h
 rw [Bool.and_eq_true] at h
 by_cases h0:m.k=0
 ·exact .inl h0
 ·by_cases h1:m.k=1
  ·exact .inr (.inl h1)
  ·by_cases h2:m.k=2
   ·exact .inr (.inr h2)
   ·rw [if_neg h0,if_neg h1,if_neg h2] at h;cases h.2
theorem zvo:lrm zl384:=fun i=>by
 unfold zh zl384
 rw [List.getD_eq_getElem?_getD,List.getElem?_replicate]
 split<;>simp
theorem ztR (c:Cx):PrOk (stl c):=⟨.inl rfl,fun d _ hf=>by cases hf⟩
theorem ztT (s:Sq) (h:s.ia.length=64):List.take 64 (List.drop 7 (sqc s))=bs s.ia:=zji s.ia s.ie h
theorem ztS (s:Sq) (h:s.ia.length=64) (h':s.ie.length=64):List.take 64 (List.drop 71 (sqc s))=bs s.ie:=by
 show List.take 64 (List.drop 64 (bs s.ia++bs s.ie))=_
 rw [zjh _ _ h,zhw _ h']
theorem zrb (s:Sq) (h:s.ia.length=64) (h':s.ie.length=64):(sqc s).length=135:=by simp [sqc,ze,h,h']
theorem zoh (s:Sq):(sqc s).all PV.cell=true:=by simp [sqc,bs,PV.cell]
set_option maxHeartbeats 6400000 in
set_option maxRecDepth 100000 in
theorem zoN (c:Cx) (s:Sq) (al:Bool) (q:Int) (m:Mb) (pa fu fi:Fm) (mx my:Int) (H:za) (hml:m.lv.length=384) (hia:s.ia.length=64) (hie:s.ie.length=64):
  CallOk Tryz.prog 74 [.agg (cxc c),.agg (sqc s),.bool al,.int .i64 q,.agg (mbc m),.agg (fmc pa++(fmc fu++fmc fi)),.int .i64 mx,.int .i64 my] H (.tup [.agg (fmc (zgs c s.ia s.ie al q m pa fu fi mx my).1),.int .i64 (zgs c s.ia s.ie al q m pa fu fi mx my).2]) H:=by
 have fo:=fun L=>zwE c m L hml
 have q1:=fun L=>zjO s.ia L hia
 have q2:=fun L=>zjO s.ie L hie
 have q3:=fun L=>ztC q L
 have c1:=ztT s hia
 have c2:=ztS s hia hie
 have c3:=zrb s hia hie
 have c4:=zoh s
 have m1:=zb3 m hml
 have m2:=zcA m
 have m3:(mbc m)[0]? =some (.int .i64 m.k):=rfl
 have m4:List.take 408 (mbc m)=mbc m:=List.take_of_length_le (by omega)
 have m5:List.drop 408 (mbc m)=[]:=List.drop_of_length_le (by omega)
 have cl:(cxc c).length=4:=rfl
 have cc:(cxc c).all PV.cell=true:=rfl
 have ct4:List.take 4 (cxc c)=cxc c:=rfl
 have rl:(fmc pa++(fmc fu++fmc fi)).length=15:=rfl
 have rc:(fmc pa++(fmc fu++fmc fi)).all PV.cell=true:=rfl
 have rt:List.take 15 (fmc pa++(fmc fu++fmc fi))=fmc pa++(fmc fu++fmc fi):=rfl
 have z9:List.drop 5 [PV.int .i64 0,PV.int .i64 0,PV.slice [] 0 true,PV.slice [] 0 true,PV.slice [] 0 true]=[]:=rfl
 generalize hr:zgs c s.ia s.ie al q m pa fu fi mx my=r
 unfold zgs at hr
 refine CallOk.body (F0:=[(0,.agg (cxc c)),(1,.agg (sqc s)),(2,.bool al),(3,.int .i64 q),(4,.agg (mbc m)),(5,.agg (fmc pa++(fmc fu++fmc fi))),(6,.int .i64 mx),(7,.int .i64 my)]) Tryz.func74 rfl Tryz.ntmps74 Tryz.results74 rfl (by kernel_rfl) rfl ?_
 refine PW.f (fun K k=>by simp (maxSteps:=3000000) (disch:=omega) only [go_sem,↓reduceIte,reduceCtorEq,cc,rc,c4,m2];exact k) ?_
 (repeat refine PW.seq ?_)
 refine PW.rgv (P:=Tryz.prog) [2,3,6,7,8,9,12,13,16,17] 42 (.bool (!(fmS c m&&(zb2 s.ia&&(zb2 s.ie&&qnB q))))) ?_ ?_ ?_
 ·rfl
 ·clear hr
  generalize fmS c m=b1 at fo ⊢
  generalize zb2 s.ia=b2 at q1 ⊢
  generalize zb2 s.ie=b3 at q2 ⊢
  generalize qnB q=b4 at q3 ⊢
  simp (maxSteps:=3000000) (disch:=omega) only [go_sem,↓reduceIte,reduceCtorEq,cl,ct4,m1,m4,c1,c2,c3];(repeat' (first|((first|refine zk ?_ ?_|refine And.intro ?_ ?_)<;>intro h<;>(try simp only [nqb] at h)<;>simp (maxSteps:=3000000) (disch:=omega) only [go_sem,↓reduceIte,reduceCtorEq,cl,ct4,m1,m4,c1,c2,c3,h])|((first|refine VCx.call (fo _) rfl ?_|refine VCx.call (q1 _) rfl ?_|refine VCx.call (q2 _) rfl ?_|refine VCx.call (q3 _) rfl ?_);simp (maxSteps:=3000000) (disch:=omega) only [go_sem,↓reduceIte,reduceCtorEq,cl,ct4,m1,m4,c1,c2,c3])))
  all_goals (clear fo q1 q2 q3;(simp_all [slot,Nat.beq]<;>first|rfl|omega|(rw [Bool.eq_iff_iff];simp;done)|(rw [Bool.eq_iff_iff];simp;omega)))
 (repeat refine PW.seq ?_);refine PW.cond (t:=_) rfl (fun h=> ?_) (fun h=> ?_)
 ·have hb:(fmS c m&&(zb2 s.ia&&(zb2 s.ie&&qnB q)))=false:=by
   cases hx:(fmS c m&&(zb2 s.ia&&(zb2 s.ie&&qnB q))) with
   | false=>rfl
   | true=>rw [hx] at h;cases h
  rw [hb,if_neg (by simp)] at hr
  refine PW.e ?_
  refine PW.ret ⟨.tup [.agg [.int .i64 0,.int .i64 0,.slice [] 0 true,.slice [] 0 true,.slice [] 0 true],.int .i64 1],by simp (maxSteps:=3000000) (disch:=omega) only [go_sem,↓reduceIte,reduceCtorEq,zd,zg,List.mapM_cons,List.mapM_nil,Option.pure_def,Option.bind_eq_bind,Option.bind_some,Array.toList],?_⟩
  rw [←hr]
  exact Fin.base (fz0 _ _ _)
 have hb:(fmS c m&&(zb2 s.ia&&(zb2 s.ie&&qnB q)))=true:=by simpa using h
 rw [hb,if_pos rfl] at hr
 simp only [Bool.and_eq_true] at hb
 obtain ⟨hf,hb1,hb2,hb3⟩:=hb
 refine PW.skip ?_
 refine PW.f (fun K k=>by simp (maxSteps:=3000000) (disch:=omega) only [go_sem,↓reduceIte,reduceCtorEq,m1,m3];exact k) ?_
 (repeat refine PW.seq ?_);refine PW.cond (t:=_) rfl (fun h=> ?_) (fun h=> ?_)
 ·have hk:m.k=1:=by simpa using h
  rw [if_pos hk] at hr
  have fl:=fun L=>zsk L
  have ad:=fun L hL=>zqJ gry F16.gry m (H.length+2) s.ia q al L hL hml (zpE hml (zuM hf hk)) hia hb1 hb3
  generalize gry=g at fl ad hr
  obtain ⟨g',hg'⟩:∃ g',addN m al s.ia q g 6=g':=⟨_,rfl⟩
  rw [hg'] at ad hr
  have g5:(fmc g).all PV.cell=true:=rfl
  have g7:(fmc g).length=5:=rfl
  have g8:List.take 5 (fmc g)=fmc g:=rfl
  have e5:(fmc g').all PV.cell=true:=rfl
  have e7:(fmc g').length=5:=rfl
  have e8:List.take 5 (fmc g')=fmc g':=rfl
  refine PW.f (fun K k=>by simp (maxSteps:=3000000) (disch:=omega) only [go_sem,↓reduceIte,reduceCtorEq,g5,g7,z9];refine VCx.call (fl _) rfl ?_;simp (maxSteps:=3000000) (disch:=omega) only [go_sem,↓reduceIte,reduceCtorEq,g5,g7,z9];exact k) ?_
  refine PW.e ?_
  (repeat refine PW.seq ?_);refine PW.cond (t:=_) rfl (fun h=> ?_) (fun h=> ?_)
  ·cases h
  refine PW.skip ?_
  refine PW.f (fun K k=>by simp (maxSteps:=3000000) (disch:=omega) only [go_sem,↓reduceIte,reduceCtorEq,g7,g8,c1,c3,e5,e7,e8,z9];refine VCx.call (ad _ (apn _ _ 2)) rfl ?_;simp (maxSteps:=3000000) (disch:=omega) only [go_sem,↓reduceIte,reduceCtorEq,g7,g8,c1,c3,e5,e7,e8,z9];exact k) ?_
  refine PW.ret ⟨.tup [.agg (fmc g'),.int .i64 0],by simp (maxSteps:=3000000) (disch:=omega) only [go_sem,↓reduceIte,reduceCtorEq,zd,zg,List.mapM_cons,List.mapM_nil,Option.pure_def,Option.bind_eq_bind,Option.bind_some,Array.toList,e7,e8],?_⟩
  rw [←hr]
  exact Fin.base (.id (zO _ _ _ _ _ _ _ _ _ _))
 have hk:m.k≠1:=by simpa using h
 rw [if_neg hk] at hr
 refine PW.skip ?_
 obtain ⟨M,hM⟩:∃ M,(if m.k=0 then stl c else m)=M:=⟨_,rfl⟩
 have hMl:M.lv.length=384:=by rw [←hM];split;exact zcJ;exact hml
 have hMp:PrOk M:=by
  rw [←hM];split
  ·exact ztR c
  ·exact (zp2 hf (by rcases zuN hf with h|h|h<;>omega)).1
 have hMr:lrm M.lv:=by
  rw [←hM];split
  ·exact zvo
  ·exact zpE hml (zp2 hf (by rcases zuN hf with h|h|h<;>omega)).2.2
 rw [hM] at hr
 suffices hrest:PW Tryz.prog _ _ [(2,.bool al),(3,.int .i64 q),(6,.int .i64 mx),(7,.int .i64 my),(8,.ptr H.length 0 0),(9,.ptr (H.length+1) 0 0),(12,.ptr (H.length+2) 0 0),(13,.ptr (H.length+3) 0 0),(16,.ptr (H.length+4) 0 0)] (H++[⟨157,0,cxc c⟩,⟨29,0,sqc s⟩,⟨154,0,mbc M⟩,⟨87,0,fmc pa++(fmc fu++fmc fi)⟩,⟨33,0,[.int .i64 0,.int .i64 0,.slice [] 0 true,.slice [] 0 true,.slice [] 0 true]⟩]) _ by
  refine PW.f (fun K k=>by simp (maxSteps:=3000000) (disch:=omega) only [go_sem,↓reduceIte,reduceCtorEq,m1,m3];exact k) ?_
  (repeat refine PW.seq ?_);refine PW.cond (t:=_) rfl (fun h=> ?_) (fun h=> ?_)
  ·have hz:m.k=0:=by simpa using h
   rw [if_pos hz] at hM
   have so:=fun L=>zoc c L
   rw [hM] at so
   have n1:=zb3 M hMl
   have n2:=zcA M
   refine PW.f (fun K k=>by simp (maxSteps:=3000000) (disch:=omega) only [go_sem,↓reduceIte,reduceCtorEq,cl,ct4,m1,m5,n1,n2];refine VCx.call (so _) rfl ?_;simp (maxSteps:=3000000) (disch:=omega) only [go_sem,↓reduceIte,reduceCtorEq,cl,ct4,m1,m5,n1,n2];exact k) ?_
   exact PW.at [2,3,6,7,8,9,12,13,16] hrest rfl rfl
  ·have hz:m.k≠0:=by simpa using h
   rw [if_neg hz] at hM
   subst hM
   refine PW.skip ?_
   exact PW.at [2,3,6,7,8,9,12,13,16] hrest rfl rfl
 have h16:(prS c M pa fu fi mx my).2=0→F16 (prS c M pa fu fi mx my).1:=zoY
 have pr:=fun L hL=>zjt c M (H.length+2) pa fu fi mx my L hL hMl hMp
 generalize prS c M pa fu fi mx my=T at pr hr h16
 obtain ⟨g,e⟩:=T
 simp only at pr hr h16
 have g5:(fmc g).all PV.cell=true:=rfl
 have g7:(fmc g).length=5:=rfl
 have g8:List.take 5 (fmc g)=fmc g:=rfl
 refine PW.f (fun K k=>by simp (maxSteps:=3000000) (disch:=omega) only [go_sem,↓reduceIte,reduceCtorEq,cl,ct4,rl,rt,g5,g7,z9];refine VCx.call (pr _ (apn _ _ 2)) rfl ?_;simp (maxSteps:=3000000) (disch:=omega) only [go_sem,↓reduceIte,reduceCtorEq,cl,ct4,rl,rt,g5,g7,z9];exact k) ?_
 refine PW.e ?_
 (repeat refine PW.seq ?_);refine PW.cond (t:=_) rfl (fun h=> ?_) (fun h=> ?_)
 ·have he:e≠0:=by simpa using h
  rw [if_pos he] at hr
  refine PW.e ?_
  refine PW.ret ⟨.tup [.agg [.int .i64 0,.int .i64 0,.slice [] 0 true,.slice [] 0 true,.slice [] 0 true],.int .i64 e],by simp (maxSteps:=3000000) (disch:=omega) only [go_sem,↓reduceIte,reduceCtorEq,zd,zg,List.mapM_cons,List.mapM_nil,Option.pure_def,Option.bind_eq_bind,Option.bind_some,Array.toList],?_⟩
  rw [←hr]
  exact Fin.base (fz0 _ _ _)
 have he:e=0:=by simpa using h
 rw [if_neg (by simp [he])] at hr
 have ad:=fun L hL=>zqJ g (h16 he) M (H.length+2) s.ie q al L hL hMl hMr hie hb2 hb3
 obtain ⟨g',hg'⟩:∃ g',addN M al s.ie q g 6=g':=⟨_,rfl⟩
 rw [hg'] at ad hr
 have e5:(fmc g').all PV.cell=true:=rfl
 have e7:(fmc g').length=5:=rfl
 have e8:List.take 5 (fmc g')=fmc g':=rfl
 refine PW.skip ?_
 refine PW.f (fun K k=>by simp (maxSteps:=3000000) (disch:=omega) only [go_sem,↓reduceIte,reduceCtorEq,g7,g8,c2,c3,e5,e7,e8,z9];refine VCx.call (ad _ (apn _ _ 2)) rfl ?_;simp (maxSteps:=3000000) (disch:=omega) only [go_sem,↓reduceIte,reduceCtorEq,g7,g8,c2,c3,e5,e7,e8,z9];exact k) ?_
 refine PW.ret ⟨.tup [.agg (fmc g'),.int .i64 0],by simp (maxSteps:=3000000) (disch:=omega) only [go_sem,↓reduceIte,reduceCtorEq,zd,zg,List.mapM_cons,List.mapM_nil,Option.pure_def,Option.bind_eq_bind,Option.bind_some,Array.toList,e7,e8],?_⟩
 rw [←hr]
 exact Fin.base (.id (zO _ _ _ _ _ _ _ _ _ _))
def flt (A B:Nat):Fm:=⟨((16 * A:Nat):Int),((16 * B:Nat):Int),List.replicate (16 * A * (16 * B)) 128,List.replicate (8 * A * (8 * B)) 128,List.replicate (8 * A * (8 * B)) 128⟩
theorem zwF (A B:Nat):fmc (flt A B)=[.int .i64 ((16 * A:Nat):Int),.int .i64 ((16 * B:Nat):Int),.slice (bs (List.replicate (16 * A * (16 * B)) 128)) (16 * A * (16 * B)) false,.slice (bs (List.replicate (8 * A * (8 * B)) 128)) (8 * A * (8 * B)) false,.slice (bs (List.replicate (8 * A * (8 * B)) 128)) (8 * A * (8 * B)) false]:=by
 unfold flt fmc;simp only [List.length_replicate]
theorem zwo (k:Nat) (hk:k≤64) (H:za):CallOk Tryz.prog 284 [.int .u64 1,.int .u64 ((64 * k:Nat):Int)] H (.tup [.int .u64 0,.int .u64 ((64 * k:Nat):Int)]) H:=by
 have h:((List.range 65).all fun k=>zpP (zg0 Tryz.prog 100000 (.call 284 [.int .u64 1,.int .u64 ((64 * k:Nat):Int)] [])) (.tup [.int .u64 0,.int .u64 ((64 * k:Nat):Int)]))=true:=by kernel_rfl
 exact CallOk.evalV 100000 (List.all_eq_true.1 h k (List.mem_range.2 (by omega))) (fun x hx=>by
  simp only [List.mem_cons,List.not_mem_nil,or_false] at hx
  rcases hx with rfl|rfl<;>exact .int _ _)
theorem zty (k:Nat) (hk:k≤64):IntKind.u64.wrap ((64 * k:Nat):Int)=((64 * k:Nat):Int):=by
 have h:((List.range 65).all fun k=>decide (IntKind.u64.wrap ((64 * k:Nat):Int)=((64 * k:Nat):Int)))=true:=by kernel_rfl
 exact of_decide_eq_true (List.all_eq_true.1 h k (List.mem_range.2 (by omega)))
set_option maxHeartbeats 1600000 in
theorem zgr (n k:Nat) (hn:n=64 * k) (hk:1≤k∧k≤64) (H:za):CallOk Tryz.prog 203 [.slice [.int .u8 128] 1 true,.int .i64 (n:Int)] H (.slice (bs (List.replicate n 128)) n false) H:=by
 have mu:∀ K,CallOk Tryz.prog 284 [.int .u64 1,.int .u64 (n:Int)] K (.tup [.int .u64 0,.int .u64 (n:Int)]) K:=fun K=>by
  rw [hn];exact zwo k hk.2 K
 have hz:(List.replicate n [PV.int .u8 0]).flatten=bs (List.replicate n 0):=zcY n
 have u1:IntKind.u64.wrap (n:Int)=(n:Int):=by rw [hn];exact zty k hk.2
 have u2:IntKind.u64.wrap 1=1:=rfl
 have hnb:1≤n∧n≤4096:=by omega
 clear hn
 refine CallOk.body (F0:=[(0,.slice [.int .u8 128] 1 true),(1,.int .i64 (n:Int))]) Tryz.func203 rfl Tryz.ntmps203 Tryz.results203 rfl (by kernel_rfl) rfl ?_
 refine PW.e ?_
 refine PW.e ?_
 (repeat refine PW.seq ?_);refine PW.cond (t:=_) rfl (fun h=> ?_) (fun h=> ?_)
 ·cases h
 refine PW.skip ?_
 refine PW.f (fun K k=>by simp (disch:=omega) only [go_sem,↓reduceIte,reduceCtorEq,u1,u2];refine VCx.call (mu _) rfl ?_;simp (disch:=omega) only [go_sem,↓reduceIte,reduceCtorEq,u1,u2];exact k) ?_
 (repeat refine PW.seq ?_)
 refine PW.rgv (P:=Tryz.prog) [0,6] 26 (.bool false) ?_ ?_ ?_
 ·rfl
 ·simp (disch:=omega) only [go_sem,↓reduceIte,reduceCtorEq];(repeat' ((first|refine zk ?_ ?_|refine zn ?_ ?_|refine zT ?_ ?_|refine zS ?_ ?_|refine zR ?_ ?_|refine And.intro ?_ ?_)<;>intro h<;>(try simp only [nqb] at h)<;>simp (disch:=omega) only [go_sem,↓reduceIte,reduceCtorEq,h]))
  all_goals (simp_all [slot,Nat.beq]<;>first|rfl|omega|(rw [Bool.eq_iff_iff];simp;done)|(rw [Bool.eq_iff_iff];simp;omega))
 (repeat refine PW.seq ?_);refine PW.cond (t:=_) rfl (fun h=> ?_) (fun h=> ?_)
 ·cases h
 refine PW.skip ?_
 refine PW.e ?_
 rw [hz]
 have mn:min 1 n=1:=by omega
 refine PW.f (fun K k=>by simp (disch:=omega) only [go_sem,↓reduceIte,reduceCtorEq,ze,List.length_replicate,mn];exact k) ?_
 (repeat refine PW.seq ?_);refine PW.block (PW.loop ?_)
 suffices hloop:∀ k:Nat,1≤k→k≤n→PL Tryz.prog _ _ [(7,.msl H.length 0 0 n 1 true),(8,.int .i64 (k:Int))] (H++[⟨5,0,bs (rpk n k)⟩]) _ by
  refine PL.at [7,8] (hloop 1 (by omega) (by omega)) rfl ?_
  obtain ⟨m,rfl⟩:∃ m,n=m+1:=⟨n - 1,by omega⟩
  simp [zN,rpk,bs,List.replicate_succ]
 intro k hk1 hkn
 induction hm:n - k using Nat.strongRecOn generalizing k with
 | _ d ih=>
  have hl:=zlH hkn
  refine PL.round ?_;refine PW.e ?_
  (repeat refine PW.seq ?_);refine PW.cond (t:=_) rfl (fun h=> ?_) (fun h=> ?_)
  ·have h4:k<n:=by have:=of_decide_eq_true h;omega
   refine PW.skip ?_;(repeat refine PW.seq ?_);refine PW.block ?_
   (repeat refine PW.seq ?_);refine PW.draw mix (by kernel_rfl) fun K hK=> ?_
   simp (disch:=omega) only [go_sem,↓reduceIte,reduceCtorEq,ze,hl]
   refine hK _ _ ?_;clear hK K
   have hm1:min (k - 0) (n - k)=min k (n - k):=by rw [Nat.sub_zero]
   rw [hm1,Nat.sub_zero]
   have e1:(k:Int)+((min k (n - k):Nat):Int)=((k+min k (n - k):Nat):Int):=by omega
   rw [e1]
   have e2:List.take k (bs (rpk n k))=bs (List.replicate k 128):=by
    rw [zby];congr 1;unfold rpk;rw [List.take_append_of_le_length (by simp),List.take_of_length_le (by simp)]
   have e3:List.take (min k (n - k)) (bs (List.replicate k (128:UInt8)))=bs (List.replicate (min k (n - k)) 128):=by
    rw [zby,List.take_replicate];congr 2;omega
   have e4:List.drop (k+(bs (List.replicate (min k (n - k)) (128:UInt8))).length) (bs (rpk n k))=bs (List.replicate (n - (k+min k (n - k))) 0):=by
    rw [ze,List.length_replicate,zci]
    congr 1
    unfold rpk
    rw [List.drop_append,List.length_replicate,List.drop_of_length_le (by simp),List.nil_append,List.drop_replicate]
    congr 1;omega
   rw [e2,e3,e4]
   have e5:bs (List.replicate k 128)++(bs (List.replicate (min k (n - k)) 128)++bs (List.replicate (n - (k+min k (n - k))) 0))=bs (rpk n (k+min k (n - k))):=by
    rw [←zau,←zau];unfold rpk;rw [←List.append_assoc,List.replicate_append_replicate]
   rw [e5]
   exact PL.at [7,8] (ih (n - (k+min k (n - k))) (by omega) (k+min k (n - k)) (by omega) (by omega) rfl) rfl rfl
  ·have h4:k=n:=by have:=of_decide_eq_false h;omega
   subst h4
   refine PW.exit ?_
   rw [zlI]
   refine PW.e ?_
   refine PW.ret ⟨_,rfl,?_⟩
   exact Fin.base (Fz.mslC (e:=5) (xs:=bs (List.replicate k 128)) (by omega) (hp0 _ _ _) (by simp [ze]) (FzC.refl (zq _ _)))
theorem nAB {A B:Nat} (hA:1≤A∧A≤4) (hB:1≤B∧B≤4):1≤A * B∧A * B≤16:=⟨Nat.mul_pos (by omega) (by omega),Nat.mul_le_mul hA.2 hB.2⟩
set_option maxRecDepth 10000 in
theorem zp4 (A B:Nat) (hA:1≤A∧A≤4) (hB:1≤B∧B≤4) (H:za):CallOk Tryz.prog 129 [.int .i64 ((16 * A:Nat):Int),.int .i64 ((16 * B:Nat):Int),.int .u8 128,.int .u8 128,.int .u8 128] H (.tup [.agg (fmc (flt A B)),.int .i64 0]) H:=by
 have fz:=fun K=>ziB ((16 * A:Nat):Int) ((16 * B:Nat):Int) K
 have hfs:fsz ((16 * A:Nat):Int) ((16 * B:Nat):Int)=true:=by
  simp only [fsz,Bool.and_eq_true,decide_eq_true_eq];omega
 rw [hfs] at fz
 have nb:=nAB hA hB
 have p1:16 * A * (16 * B)=64 * (4 * (A * B)):=by rw [Nat.mul_mul_mul_comm];omega
 have p2:8 * A * (8 * B)=64 * (A * B):=by rw [Nat.mul_mul_mul_comm]
 have r1:=fun K=>zgr (16 * A * (16 * B)) _ p1 (by omega) K
 have r2:=fun K=>zgr (8 * A * (8 * B)) _ p2 (by omega) K
 rw [zwF]
 have b1:16 * A * (16 * B)≤4096:=by omega
 have b2:8 * A * (8 * B)≤4096:=by omega
 have m1:((16 * A:Nat):Int) * ((16 * B:Nat):Int)=((16 * A * (16 * B):Nat):Int):=(Int.natCast_mul _ _).symm
 have m2:((8 * A:Nat):Int) * ((8 * B:Nat):Int)=((8 * A * (8 * B):Nat):Int):=(Int.natCast_mul _ _).symm
 have d1:((16 * A:Nat):Int).tdiv 2=((8 * A:Nat):Int):=by rw [zx _ _ (by omega)];omega
 have d2:((16 * B:Nat):Int).tdiv 2=((8 * B:Nat):Int):=by rw [zx _ _ (by omega)];omega
 generalize 16 * A * (16 * B)=n1 at r1 m1 b1 p1 ⊢
 generalize 8 * A * (8 * B)=n2 at r2 m2 b2 p2 ⊢
 generalize List.replicate n1 (128:UInt8)=P at r1 ⊢
 generalize List.replicate n2 (128:UInt8)=Q at r2 ⊢
 refine CallOk.body (F0:=[(0,.int .i64 ((16 * A:Nat):Int)),(1,.int .i64 ((16 * B:Nat):Int)),(2,.int .u8 128),(3,.int .u8 128),(4,.int .u8 128)]) Tryz.func129 rfl Tryz.ntmps129 Tryz.results129 rfl (by kernel_rfl) rfl ?_
 refine PW.e ?_
 refine PW.f (fun K k=>by simp (disch:=omega) only [go_sem,↓reduceIte,reduceCtorEq];refine VCx.call (fz _) rfl ?_;simp (disch:=omega) only [go_sem,↓reduceIte,reduceCtorEq];exact k) ?_
 (repeat refine PW.seq ?_);refine PW.cond (t:=_) rfl (fun h=> ?_) (fun h=> ?_)
 ·cases h
 refine PW.skip ?_
 refine PW.f (fun K k=>by simp (disch:=omega) only [go_sem,↓reduceIte,reduceCtorEq,d1,d2,m1,m2];exact k) ?_
 refine PW.f (fun K k=>by simp (disch:=omega) only [go_sem,↓reduceIte,reduceCtorEq];refine VCx.call (r1 _) rfl ?_;simp (disch:=omega) only [go_sem,↓reduceIte,reduceCtorEq];refine VCx.call (r2 _) rfl ?_;simp (disch:=omega) only [go_sem,↓reduceIte,reduceCtorEq];refine VCx.call (r2 _) rfl ?_;simp (disch:=omega) only [go_sem,↓reduceIte,reduceCtorEq];exact k) ?_
 refine PW.ret ⟨.tup [.agg [.int .i64 ((16 * A:Nat):Int),.int .i64 ((16 * B:Nat):Int),.slice (bs P) n1 false,.slice (bs Q) n2 false,.slice (bs Q) n2 false],.int .i64 0],by simp (disch:=omega) only [go_sem,↓reduceIte,reduceCtorEq,zd,zg,List.mapM_cons,List.mapM_nil,Option.pure_def,Option.bind_eq_bind,Option.bind_some,Array.toList],?_⟩
 exact Fin.base (.id (zO _ _ _ _ _ _ _ _ _ _))
theorem zoS {s:Sq} {p:Pi} (hv:zM s p=true):∃ A B:Nat,(1≤A∧A≤4)∧(1≤B∧B≤4)∧s.w=((16 * A:Nat):Int)∧hgt s p=((16 * B:Nat):Int)∧za4 s p=(B:Int)∧(p.st=3→s.h=((16 * B:Nat):Int))∧(p.st≠3→s.h=((32 * B:Nat):Int)∧s.il=true)∧(1≤p.st∧p.st≤3)∧(1≤p.ty∧p.ty≤3):=by
 have hr:=za9 hv
 have hv':=hv
 unfold zM at hv
 simp only [Bool.and_eq_true,Bool.or_eq_true,beq_iff_eq] at hv
 obtain ⟨⟨hq,hc⟩,hi⟩:=hv
 unfold zc7 vsz mbs at hq
 simp only [Bool.and_eq_true,Bool.or_eq_true,beq_iff_eq,decide_eq_true_eq,Bool.not_eq_true'] at hq
 unfold zsz at hc
 simp only [Bool.and_eq_true,decide_eq_true_eq] at hc
 have h1:s.w%16=0:=by have:=hq.1.1.1;rw [←zP _ _ (by omega)];simp_all
 have h2:s.h%16=0:=by have:=hq.1.1.2;rw [←zP _ _ (by omega)];simp_all
 have h3:s.il=true→s.h%32=0:=fun e=>by
  rcases hq.1.2 with h|h
  ·rw [e] at h;cases h
  ·rw [←zP _ _ (by omega)];exact h
 have e1:s.h.tdiv 16=s.h / 16:=zx _ _ (by omega)
 have e2:s.h.tdiv 32=s.h / 32:=zx _ _ (by omega)
 have e3:s.h.tdiv 2=s.h / 2:=zx _ _ (by omega)
 have hst:p.st≠3→s.il=true:=fun h=>by
  rcases hi with h'|h'
  ·exact h'
  ·exact absurd h'.1.1 h
 by_cases h:p.st=3
 ·refine ⟨(s.w / 16).toNat,(s.h / 16).toNat,by omega,by omega,by omega,?_,?_,fun _=>by omega,fun h'=>absurd h h',by omega,by omega⟩
  ·unfold hgt;rw [if_pos h];omega
  ·unfold za4;rw [if_pos hv',if_pos h,e1];omega
 ·have h32:=h3 (hst h)
  refine ⟨(s.w / 16).toNat,(s.h / 32).toNat,by omega,by omega,by omega,?_,?_,fun h'=>absurd h' h,fun _=>⟨by omega,hst h⟩,by omega,by omega⟩
  ·unfold hgt;rw [if_neg h,e3];omega
  ·unfold za4;rw [if_pos hv',if_neg h,e2];omega
def mOr (f:Fm) (w h:Int):Bool:=decide (f.w=0)||(fmd f&&(decide (f.w=w)&&decide (f.h=h)))
theorem zkY (f:Fm) (w h:Int) (H:za):CallOk Tryz.prog 128 [.agg (fmc f),.int .i64 w,.int .i64 h] H (.bool (mOr f w h)) H:=by
 have fo:=fun K=>zaS f K
 unfold mOr
 generalize fmd f=b at fo ⊢
 obtain ⟨fw,fh,y,u,v⟩:=f
 simp only [fmc] at fo ⊢
 refine CallOk.body (F0:=[(0,.agg [.int .i64 fw,.int .i64 fh,.slice (bs y) y.length false,.slice (bs u) u.length false,.slice (bs v) v.length false]),(1,.int .i64 w),(2,.int .i64 h)]) Tryz.func128 rfl Tryz.ntmps128 Tryz.results128 rfl (by kernel_rfl) rfl ?_
 refine PW.e ?_
 (repeat refine PW.seq ?_);refine PW.rg rfl fun K hK=> ?_;simp (disch:=omega) only [go_sem,↓reduceIte,reduceCtorEq];(repeat' (first|((first|refine zk ?_ ?_|refine And.intro ?_ ?_)<;>intro h<;>(try simp only [nqb] at h)<;>simp (disch:=omega) only [go_sem,↓reduceIte,reduceCtorEq,h])|((first|refine VCx.call (fo _) rfl ?_);simp (disch:=omega) only [go_sem,↓reduceIte,reduceCtorEq])))
 all_goals (refine hK _ _ ?_;clear hK;(refine PW.ret ⟨_,rfl,?_⟩;first|refine .inl ⟨?_,rfl⟩|refine Fin.base (.id' ?_ (.bool _))|refine Fin.base (.id' ?_ (.int _ _)));(simp_all [slot,Nat.beq]<;>first|rfl|omega|(rw [Bool.eq_iff_iff];simp;done)|(rw [Bool.eq_iff_iff];simp;omega)))
def ziI (s:Sq) (p:Pi) (pa fu fi:Fm) (b:Bool):Int:=
 if (zfc s p b&&(mOr pa s.w s.h&&(mOr fu s.w s.h&&mOr fi s.w (s.h.tdiv 2))))=true then (if ((!decide (p.ty=1)&&decide (pa.w=0))||((decide (p.ty=3)&&decide (fu.w=0))||(decide (p.ty=2)&&(b&&decide (fi.w=0)))))=true then 6 else 0) else 1
set_option maxHeartbeats 1600000 in
theorem zuX (s:Sq) (p:Pi) (pa fu fi:Fm) (b:Bool) (hs:SqOk s) (H:za):CallOk Tryz.prog 70 [.agg (sqc s),.agg (pic p),.agg (fmc pa++(fmc fu++fmc fi)),.bool b] H (.int .i64 (ziI s p pa fu fi b)) H:=by
 have fo:=fun K=>zmj s p b K hs
 have h1:=zbB s
 have h2:=zbO s hs
 have h3:=zdS s hs
 have h4:=zoi s
 have h5:(sqc s)[1]? =some (.int .i64 s.h):=rfl
 have p6:(pic p).length=6:=rfl
 have p7:(pic p).all PV.cell=true:=rfl
 have t6:List.take 6 (pic p)=pic p:=rfl
 have ty:(pic p)[0]? =some (.int .i64 p.ty):=rfl
 have rl:(fmc pa++(fmc fu++fmc fi)).length=15:=rfl
 have rc:(fmc pa++(fmc fu++fmc fi)).all PV.cell=true:=rfl
 have r0:List.take 5 (fmc pa++(fmc fu++fmc fi))=fmc pa:=rfl
 have r1:List.take 5 (List.drop 5 (fmc pa++(fmc fu++fmc fi)))=fmc fu:=rfl
 have r2:List.take 5 (List.drop 10 (fmc pa++(fmc fu++fmc fi)))=fmc fi:=rfl
 have w0:(fmc pa++(fmc fu++fmc fi))[0]? =some (.int .i64 pa.w):=rfl
 have w1:(fmc pa++(fmc fu++fmc fi))[5]? =some (.int .i64 fu.w):=rfl
 have w2:(fmc pa++(fmc fu++fmc fi))[10]? =some (.int .i64 fi.w):=rfl
 have m1:=fun K=>zkY pa s.w s.h K
 have m2:=fun K=>zkY fu s.w s.h K
 have m3:=fun K=>zkY fi s.w (s.h.tdiv 2) K
 unfold ziI
 generalize hbf:zfc s p b=bf at fo ⊢
 generalize mOr pa s.w s.h=b1 at m1 ⊢
 generalize mOr fu s.w s.h=b2 at m2 ⊢
 generalize mOr fi s.w (s.h.tdiv 2)=b3 at m3 ⊢
 refine CallOk.body (F0:=[(0,.agg (sqc s)),(1,.agg (pic p)),(2,.agg (fmc pa++(fmc fu++fmc fi))),(3,.bool b)]) Tryz.func70 rfl Tryz.ntmps70 Tryz.results70 rfl (by kernel_rfl) rfl ?_
 refine PW.f (fun K k=>by simp (disch:=omega) only [go_sem,↓reduceIte,reduceCtorEq,h1,p7,rc];exact k) ?_
 refine PW.f (fun K k=>by simp (disch:=omega) only [go_sem,↓reduceIte,reduceCtorEq,h2,h3,p6,t6];refine VCx.call (fo _) rfl ?_;simp (disch:=omega) only [go_sem,↓reduceIte,reduceCtorEq,h2,h3,p6,t6];exact k) ?_
 (repeat refine PW.seq ?_);refine PW.cond (t:=_) rfl (fun h=> ?_) (fun h=> ?_)
 ·have hb:bf=false:=by simpa using h
  subst hb
  refine PW.e ?_
  (refine PW.ret ⟨_,rfl,?_⟩;first|refine .inl ⟨?_,rfl⟩|refine Fin.base (.id' ?_ (.bool _))|refine Fin.base (.id' ?_ (.int _ _)))
  rfl
 have hb:bf=true:=by simpa using h
 subst hb
 have wd:IntKind.i64.wrap (s.h.tdiv 2)=s.h.tdiv 2:=by
  unfold zfc at hbf
  rw [Bool.and_eq_true] at hbf
  have:=za9 hbf.1
  exact zkk _ _ (by omega)
 refine PW.skip ?_
 (repeat refine PW.seq ?_)
 refine PW.rgv (P:=Tryz.prog) [3,5,6] 42 (.bool (!(b1&&(b2&&b3)))) ?_ ?_ ?_
 ·rfl
 ·simp (disch:=omega) only [go_sem,↓reduceIte,reduceCtorEq,h2,h4,h5,rl,r0,r1,r2];(repeat' (first|((first|refine zk ?_ ?_|refine And.intro ?_ ?_)<;>intro h<;>(try simp only [nqb] at h)<;>simp (disch:=omega) only [go_sem,↓reduceIte,reduceCtorEq,h2,h4,h5,rl,r0,r1,r2,wd,h])|((first|refine VCx.call (m1 _) rfl ?_|refine VCx.call (m2 _) rfl ?_|refine VCx.call (m3 _) rfl ?_);simp (disch:=omega) only [go_sem,↓reduceIte,reduceCtorEq,h2,h4,h5,rl,r0,r1,r2,wd])))
  all_goals (clear hbf wd m1 m2 m3 fo h1 h2 h3 h4 h5 rl rc r0 r1 r2 w0 w1 w2 p6 p7 t6 ty;(simp_all [slot,Nat.beq]<;>first|rfl|omega|(rw [Bool.eq_iff_iff];simp;done)|(rw [Bool.eq_iff_iff];simp;omega)))
 (repeat refine PW.seq ?_);refine PW.cond (t:=_) rfl (fun h=> ?_) (fun h=> ?_)
 ·have hb:(b1&&(b2&&b3))=false:=by cases b1<;>cases b2<;>cases b3<;>simp_all
  rw [hb]
  refine PW.e ?_
  (refine PW.ret ⟨_,rfl,?_⟩;first|refine .inl ⟨?_,rfl⟩|refine Fin.base (.id' ?_ (.bool _))|refine Fin.base (.id' ?_ (.int _ _)))
  rfl
 have hb:(b1&&(b2&&b3))=true:=by cases b1<;>cases b2<;>cases b3<;>simp_all
 rw [hb]
 clear hbf m1 m2 m3 fo hb h wd
 refine PW.skip ?_
 (repeat' (first|refine PW.seq ?_|refine PW.skip ?_|refine PW.block ?_|((first|refine PW.rg rfl fun K hK=> ?_|refine PW.draw mix (by kernel_rfl) fun K hK=> ?_);simp (disch:=omega) only [go_sem,↓reduceIte,reduceCtorEq,p6,ty,rl,w0,w1,w2])|((first|refine zk ?_ ?_|refine zn ?_ ?_|refine And.intro ?_ ?_)<;>intro h<;>(try simp only [nqb] at h)<;>simp (disch:=omega) only [go_sem,↓reduceIte,reduceCtorEq,p6,ty,rl,w0,w1,w2,h])|(refine hK _ _ ?_;clear hK K)|(refine PW.cond (t:=_) rfl (fun h=> ?_) (fun h=> ?_)<;>(try (cases h;done))<;>(try simp only [nqb] at h))))
 all_goals ((refine PW.ret ⟨_,rfl,?_⟩;first|refine .inl ⟨?_,rfl⟩|refine Fin.base (.id' ?_ (.bool _))|refine Fin.base (.id' ?_ (.int _ _)));clear h1 h2 h3 h4 h5 rl rc r0 r1 r2 w0 w1 w2 p6 p7 t6 ty;(simp_all [slot,Nat.beq]<;>first|rfl|omega|(rw [Bool.eq_iff_iff];simp;done)|(rw [Bool.eq_iff_iff];simp;omega)))
def zj8 (s:Sq) (p:Pi) (pa:Fm):Fm:=if pa.w=0 then flt (s.w / 16).toNat (hgt s p / 16).toNat else if p.st=3 then pa else fieldOf pa (p.st - 1)
theorem zk7 {s:Sq} {p:Pi} {f:Fm} (hv:zM s p=true) (hf:fmd f=true) (hw:f.w=s.w) (hh:f.h=s.h):fvd f=true∧(p.st≠3→f.h%32=0):=by
 obtain ⟨A,B,a1,b1,ew,eh,er,e3,e4,st,_⟩:=zoS hv
 by_cases h:p.st=3
 ·have:=e3 h
  refine ⟨?_,fun h'=>absurd h h'⟩
  unfold fvd
  simp only [hf,Bool.true_and,Bool.and_eq_true,decide_eq_true_eq]
  omega
 ·have:=(e4 h).1
  refine ⟨?_,fun _=>by omega⟩
  unfold fvd
  simp only [hf,Bool.true_and,Bool.and_eq_true,decide_eq_true_eq]
  omega
theorem zp6 (f:Fm) (s:Int) (hf:fvd f=true) (h32:f.h%32=0) (hs:s=0∨s=1) (L:za):CallOk Tryz.prog 130 [.agg (fmc f),.int .i64 s] L (.tup [.agg (fmc (fieldOf f s)),.int .i64 0]) L:=by
 obtain ⟨w,ht,y,u,v⟩:=f
 obtain ⟨V,K,rfl,rfl,hok⟩:=zdB hf h32
 obtain ⟨P,hP,rfl⟩:∃ P:Nat,P≤1∧s=(P:Int):=by
  rcases hs with e|e
  ·exact ⟨0,by omega,by omega⟩
  ·exact ⟨1,by omega,by omega⟩
 have e1:=zaO V K P y u v
 have e2:=zgZ V K P y u v L hok hP
 unfold fr4 at e1 e2
 rw [e1];exact e2
set_option maxHeartbeats 1600000 in
set_option maxRecDepth 10000 in
theorem zuY (s:Sq) (p:Pi) (pa:Fm) (hs:SqOk s) (hv:zM s p=true) (hm:mOr pa s.w s.h=true) (H:za):CallOk Tryz.prog 71 [.agg (sqc s),.agg (pic p),.agg (fmc pa)] H (.tup [.agg (fmc (zj8 s p pa)),.int .i64 0]) H:=by
 have h1:=zbB s
 have h2:=zbO s hs
 have h3:=zdS s hs
 have h4:=zoi s
 have p6:(pic p).length=6:=rfl
 have p7:(pic p).all PV.cell=true:=rfl
 have t6:List.take 6 (pic p)=pic p:=rfl
 have st:(pic p)[1]? =some (.int .i64 p.st):=rfl
 have F5:∀ g:Fm,(fmc g).all PV.cell=true:=fun _=>rfl
 have F7:∀ g:Fm,(fmc g).length=5:=fun _=>rfl
 have F8:∀ g:Fm,List.take 5 (fmc g)=fmc g:=fun _=>rfl
 have z9:List.drop 5 [PV.int .i64 0,PV.int .i64 0,PV.slice [] 0 true,PV.slice [] 0 true,PV.slice [] 0 true]=[]:=rfl
 have w0:(fmc pa)[0]? =some (.int .i64 pa.w):=rfl
 obtain ⟨A,B,a1,b1,ew,eh,er,e3,e4,e5,_⟩:=zoS hv
 have ho:=fun K=>zk5 s p K hs (by have:=za9 hv;omega)
 refine CallOk.body (F0:=[(0,.agg (sqc s)),(1,.agg (pic p)),(2,.agg (fmc pa))]) Tryz.func71 rfl Tryz.ntmps71 Tryz.results71 rfl (by kernel_rfl) rfl ?_
 refine PW.f (fun K k=>by simp (disch:=omega) only [go_sem,↓reduceIte,reduceCtorEq,h1,p7,F5];exact k) ?_
 (repeat refine PW.seq ?_);refine PW.block ?_
 refine PW.f (fun K k=>by simp (disch:=omega) only [go_sem,↓reduceIte,reduceCtorEq,w0,F7];exact k) ?_
 (repeat refine PW.seq ?_);refine PW.cond (t:=_) rfl (fun h=> ?_) (fun h=> ?_)
 ·have hz:pa.w=0:=by simpa using h
  have hc:zj8 s p pa=flt A B:=by
   unfold zj8
   rw [if_pos hz,ew,eh]
   congr 1<;>omega
  rw [hc]
  rw [eh] at ho
  rw [ew] at h4
  have fl:=fun K=>zp4 A B a1 b1 K
  generalize flt A B=g at fl ⊢
  (repeat refine PW.seq ?_);refine PW.drawi [H.length+3] [(6,[0])] [] [16,17] mix (by kernel_rfl) (by simp<;>omega) fun K hK=> ?_
  simp (disch:=omega) only [go_sem,↓reduceIte,reduceCtorEq,zaH,h2,h3,h4,p6,t6]
  refine VCj.read (fun _ _=>ho _) rfl ?_
  simp (disch:=omega) only [go_sem,↓reduceIte,reduceCtorEq]
  refine VCj.read (fun _ _=>fl _) rfl ?_
  simp (disch:=omega) only [go_sem,↓reduceIte,reduceCtorEq,F5,F7,z9]
  refine hK _ _ ?_;clear hK K
  refine PW.ret ⟨.tup [.agg (fmc g),.int .i64 0],by simp (disch:=omega) only [go_sem,↓reduceIte,reduceCtorEq,zd,zg,List.mapM_cons,List.mapM_nil,Option.pure_def,Option.bind_eq_bind,Option.bind_some,Array.toList,F7,F8],?_⟩
  exact Fin.base (.id (zO _ _ _ _ _ _ _ _ _ _))
 have hz:pa.w≠0:=by simpa using h
 have hm2:fmd pa=true∧pa.w=s.w∧pa.h=s.h:=by
  unfold mOr at hm
  simpa [hz] using hm
 obtain ⟨hfv,h32⟩:=zk7 hv hm2.1 hm2.2.1 hm2.2.2
 have hc:zj8 s p pa=if p.st=3 then pa else fieldOf pa (p.st - 1):=if_neg hz
 rw [hc]
 refine PW.f (fun K k=>by simp (disch:=omega) only [go_sem,↓reduceIte,reduceCtorEq,st,p6];exact k) ?_
 (repeat refine PW.seq ?_);refine PW.cond (t:=_) rfl (fun h=> ?_) (fun h=> ?_)
 ·have h1':p.st=1:=by simpa using h
  rw [if_neg (by omega),h1']
  have fl:=fun K=>zp6 pa 0 hfv (h32 (by omega)) (.inl rfl) K
  change ∀ K,CallOk _ _ _ K (.tup [.agg (fmc (fieldOf pa (1 - 1))),_]) K at fl
  generalize fieldOf pa (1 - 1)=g at fl ⊢
  refine PW.f (fun K k=>by simp (disch:=omega) only [go_sem,↓reduceIte,reduceCtorEq,F5,F7,F8,z9];refine VCx.call (fl _) rfl ?_;simp (disch:=omega) only [go_sem,↓reduceIte,reduceCtorEq,F5,F7,F8,z9];exact k) ?_
  refine PW.ret ⟨.tup [.agg (fmc g),.int .i64 0],by simp (disch:=omega) only [go_sem,↓reduceIte,reduceCtorEq,zd,zg,List.mapM_cons,List.mapM_nil,Option.pure_def,Option.bind_eq_bind,Option.bind_some,Array.toList,F7,F8],?_⟩
  exact Fin.base (.id (zO _ _ _ _ _ _ _ _ _ _))
 have h1':p.st≠1:=by simpa using h
 refine PW.f (fun K k=>by simp (disch:=omega) only [go_sem,↓reduceIte,reduceCtorEq,st,p6];exact k) ?_
 (repeat refine PW.seq ?_);refine PW.cond (t:=_) rfl (fun h=> ?_) (fun h=> ?_)
 ·have h2':p.st=2:=by simpa using h
  rw [if_neg (by omega),h2']
  have fl:=fun K=>zp6 pa 1 hfv (h32 (by omega)) (.inr rfl) K
  change ∀ K,CallOk _ _ _ K (.tup [.agg (fmc (fieldOf pa (2 - 1))),_]) K at fl
  generalize fieldOf pa (2 - 1)=g at fl ⊢
  refine PW.f (fun K k=>by simp (disch:=omega) only [go_sem,↓reduceIte,reduceCtorEq,F5,F7,F8,z9];refine VCx.call (fl _) rfl ?_;simp (disch:=omega) only [go_sem,↓reduceIte,reduceCtorEq,F5,F7,F8,z9];exact k) ?_
  refine PW.ret ⟨.tup [.agg (fmc g),.int .i64 0],by simp (disch:=omega) only [go_sem,↓reduceIte,reduceCtorEq,zd,zg,List.mapM_cons,List.mapM_nil,Option.pure_def,Option.bind_eq_bind,Option.bind_some,Array.toList,F7,F8],?_⟩
  exact Fin.base (.id (zO _ _ _ _ _ _ _ _ _ _))
 have h2':p.st≠2:=by simpa using h
 rw [if_pos (by omega)]
 refine PW.skip ?_
 obtain ⟨A',B',c1,c2,c3,c4,gw,gh,ly,lu,lv⟩:=ziA hfv
 have nb:=nAB (A:=A') (B:=B') ⟨c1,c2⟩ ⟨c3,c4⟩
 have q1:16 * A' * (16 * B')=256 * (A' * B'):=by rw [Nat.mul_mul_mul_comm]
 have q2:8 * A' * (8 * B')=64 * (A' * B'):=by rw [Nat.mul_mul_mul_comm]
 obtain ⟨w,ht,y,u,v⟩:=pa
 simp only at ly lu lv
 have c1:=fun K=>zg7 y false K (by omega)
 have c2:=fun K=>zg7 u false K (by omega)
 have c3:=fun K=>zg7 v false K (by omega)
 clear hc hm hfv h32 q1 q2 ly lu lv
 unfold fmc
 (repeat refine PW.seq ?_);refine PW.draw mix (by kernel_rfl) fun K hK=> ?_;simp (disch:=omega) only [go_sem,↓reduceIte,reduceCtorEq]
 (repeat' (first|((first|refine zn ?_ ?_|refine And.intro ?_ ?_)<;>intro h<;>(try simp only [nqb] at h)<;>simp (disch:=omega) only [go_sem,↓reduceIte,reduceCtorEq,h])|((first|refine VCy.call (c1 _) rfl ?_|refine VCy.call (c2 _) rfl ?_|refine VCy.call (c3 _) rfl ?_);simp (disch:=omega) only [go_sem,↓reduceIte,reduceCtorEq])))
 refine hK _ _ ?_;clear hK K
 refine PW.ret ⟨.tup [.agg [.int .i64 w,.int .i64 ht,.slice (bs y) y.length false,.slice (bs u) u.length false,.slice (bs v) v.length false],.int .i64 0],by simp (disch:=omega) only [go_sem,↓reduceIte,reduceCtorEq,zd,zg,List.mapM_cons,List.mapM_nil,Option.pure_def,Option.bind_eq_bind,Option.bind_some,Array.toList],?_⟩
 exact Fin.base (.id (zO _ _ _ _ _ _ _ _ _ _))
structure Gok (A B:Nat) (f:Fm):Prop where
 w:f.w=((16 * A:Nat):Int)
 h:f.h=((16 * B:Nat):Int)
 ra:1≤A∧A≤4
 rb:1≤B∧B≤4
 ly:f.y.length=16 * A * (16 * B)
 lu:f.u.length=8 * A * (8 * B)
 lv:f.v.length=8 * A * (8 * B)
theorem Gok.of {f:Fm} (h:fvd f=true):∃ A B:Nat,Gok A B f:=by
 obtain ⟨A,B,a1,a2,b1,b2,ew,eh,ly,lu,lv⟩:=ziA h
 exact ⟨A,B,ew,eh,⟨a1,a2⟩,⟨b1,b2⟩,ly,lu,lv⟩
theorem Gok.fvd {A B:Nat} {f:Fm} (h:Gok A B f):Sc.fvd f=true:=by
 obtain ⟨w,ht,y,u,v⟩:=f
 obtain ⟨hw,hh,ra,rb,ly,lu,lv⟩:=h
 simp only at hw hh ly lu lv
 subst hw hh
 have e1:((16 * A:Nat):Int) / 2=((8 * A:Nat):Int):=by omega
 have e2:((16 * B:Nat):Int) / 2=((8 * B:Nat):Int):=by omega
 have a1:fsz ((16 * A:Nat):Int) ((16 * B:Nat):Int)=true:=by
  simp only [fsz,Bool.and_eq_true,decide_eq_true_eq];omega
 have a2:((16 * A * (16 * B):Nat):Int)=((16 * A:Nat):Int) * ((16 * B:Nat):Int):=Int.natCast_mul _ _
 have a3:((8 * A * (8 * B):Nat):Int)=((8 * A:Nat):Int) * ((8 * B:Nat):Int):=Int.natCast_mul _ _
 unfold Sc.fvd Sc.fmd
 simp only [a1,e1,e2,ly,lu,lv,a2,a3,decide_true,Bool.and_self,Bool.true_and,Bool.and_eq_true,decide_eq_true_eq]
 omega
theorem Gok.has {A B:Nat} {f:Fm} (h:Gok A B f) {X Y:Nat} (hX:X<A) (hY:Y<B):zc9 f (X:Int) (Y:Int)=true:=by
 unfold zc9
 rw [h.fvd,Bool.true_and,h.w,h.h]
 simp only [Bool.and_eq_true,decide_eq_true_eq]
 omega
def smF (A X Y:Nat) (f m:Fm):Fm:=⟨f.w,f.h,pst f.y (16 * Y * (16 * A)+16 * X) (16 * A) 16 m.y 16,pst f.u (8 * Y * (8 * A)+8 * X) (8 * A) 8 m.u 8,pst f.v (8 * Y * (8 * A)+8 * X) (8 * A) 8 m.v 8⟩
theorem zlD {A B:Nat} {f m:Fm} (hf:Gok A B f) (hm:F16 m) {X Y:Nat} (hX:X<A) (hY:Y<B):(smF A X Y f m).y.length=f.y.length∧(smF A X Y f m).u.length=f.u.length∧(smF A X Y f m).v.length=f.v.length:=
 ⟨zaz (m:=16) (by rw [hm.ly]) 16 (Nat.le_refl _) (rows_in hf.ly (by omega) (by omega)),zaz (m:=8) (by rw [hm.lu]) 8 (Nat.le_refl _) (rows_in hf.lu (by omega) (by omega)),zaz (m:=8) (by rw [hm.lv]) 8 (Nat.le_refl _) (rows_in hf.lv (by omega) (by omega))⟩
theorem zom {A B:Nat} {f m:Fm} (hf:Gok A B f) (hm:F16 m) {X Y:Nat} (hX:X<A) (hY:Y<B):Gok A B (smF A X Y f m):=by
 obtain ⟨l1,l2,l3⟩:=zlD hf hm hX hY
 exact ⟨hf.w,hf.h,hf.ra,hf.rb,l1.trans hf.ly,l2.trans hf.lu,l3.trans hf.lv⟩
set_option maxHeartbeats 1600000 in
theorem ze6 (p z:List UInt8) (r v a s w n:Nat) (g f:Bool) (H:za) (hr:H[r]? =some ⟨5,v,bs p⟩) (hw:w≤64) (hn:n≤64) (hp:p.length≤8192) (hz:z.length=n * w) (hfit:∀ k,k<n→a+k * s+w≤p.length) (hs:s≤200∧a≤8192):
  CallOk Tryz.prog 78 [.msl r v 0 p.length 1 g,.agg [.int .i64 (a:Int),.int .i64 (s:Int),.int .i64 (w:Int),.int .i64 (n:Int)],.slice (bs z) z.length f] H (.tup []) (H.set r ⟨5,v,bs (pst p a s w z n)⟩):=by
 have hrl:=(List.getElem?_eq_some_iff.1 hr).1
 have hne:H.length≠r:=by omega
 have hne':r≠H.length:=by omega
 have o1:=fun B K=>zpl hrl B K
 have o2:=fun B X K=>zpj H r B X K
 have o3:=fun B C K=>zpk hrl B C K
 have o4:=fun B=>zce H r B
 have hbig:n * w≤4096:=Nat.mul_le_mul hn hw
 refine CallOk.body (F0:=[(0,.msl r v 0 p.length 1 g),(1,.agg [.int .i64 (a:Int),.int .i64 (s:Int),.int .i64 (w:Int),.int .i64 (n:Int)]),(2,.slice (bs z) z.length f)]) Tryz.func78 rfl Tryz.ntmps78 Tryz.results78 rfl (by kernel_rfl) rfl ?_
 refine PW.eq rfl (zgL hr).symm ?_
 refine PW.f (fun K k=>by simp (disch:=omega) only [go_sem,↓reduceIte,reduceCtorEq,o4];exact k) ?_
 refine PW.f (fun K k=>by simp (disch:=omega) only [go_sem,↓reduceIte,reduceCtorEq,o1,o2,o3];exact k) ?_
 (repeat refine PW.seq ?_);refine PW.block (PW.loop ?_)
 suffices hloop:∀ k:Nat,k≤n→PL Tryz.prog _ _ [(0,.msl r v 0 p.length 1 g),(2,.slice (bs z) z.length f),(4,.ptr H.length 0 0),(8,.int .i64 (n:Int)),(9,.int .i64 (k:Int))] (one H r ⟨5,v,bs (pst p a s w z k)⟩++[⟨164,0,[.int .i64 (a:Int),.int .i64 (s:Int),.int .i64 (w:Int),.int .i64 (n:Int)]⟩]) _ by
  exact PL.at [0,2,4,8,9] (hloop 0 (Nat.zero_le _)) rfl rfl
 refine cnt n (fun k hk ih=> ?_) ?_
 ·have hpl:=zaz (p:=p) (a:=a) (s:=s) hz k (by omega) fun j hj=>hfit j (by omega)
  have h6:=hfit k hk
  have ct:=zgQ hk
  have eR:(k:Int) * (w:Int)=((k * w:Nat):Int):=by simp
  have b1:(k+1) * w=k * w+w:=by rw [Nat.add_mul];omega
  have eR1:((k:Int)+1) * (w:Int)=((k * w+w:Nat):Int):=by rw [←b1];simp
  have eS:(k:Int) * (s:Int)=((k * s:Nat):Int):=by simp
  have eA:(a:Int)+((k * s:Nat):Int)=((a+k * s:Nat):Int):=by simp
  have b2:(k+1) * w≤n * w:=Nat.mul_le_mul_right _ (by omega)
  have e3:k * w+w - k * w=w:=by omega
  have rl:=zbR hz hk
  have hmin:min (p.length - (a+k * s)) w=w:=by omega
  have htk:List.take w (List.take w (List.drop (k * w) z))=List.take w (List.drop (k * w) z):=List.take_of_length_le (by omega)
  rw [pst] at ih
  refine PL.round ?_;refine PW.f (fun K k=>by simp (disch:=omega) only [go_sem,↓reduceIte,reduceCtorEq,ct];exact k) ?_;(repeat refine PW.seq ?_);refine PW.cond (t:=_) rfl (fun h=> ?_) (fun h=> ?_)
  rotate_left
  ·cases h
  refine PW.skip ?_;(repeat refine PW.seq ?_);refine PW.block ?_
  refine PW.e ?_
  rw [b1] at b2
  (repeat refine PW.seq ?_);refine PW.drawt [] [] mix (by kernel_rfl) fun K hK=> ?_
  simp (disch:=omega) only [go_sem,↓reduceIte,reduceCtorEq,zaH,o1,o2,o3,eR,eR1,eS,eA,e3,ze,hpl,zci,zby,hmin,rl,htk]
  refine hK _ _ ?_;clear hK K
  refine PW.e ?_
  refine PL.at [0,2,4,8,9] ih rfl ?_
  rw [←zgl,show min w (p.length - (a+k * s))=w by omega,htk]
  first|rfl|simp [zN,zby,zci,zau,ze,rl]
 refine PL.round ?_;refine PW.f (fun K k=>by simp (disch:=omega) only [go_sem,↓reduceIte,reduceCtorEq,zit n];exact k) ?_;(repeat refine PW.seq ?_);refine PW.cond (t:=_) rfl (fun h=> ?_) (fun h=> ?_)
 ·cases h
 refine PW.exit ?_
 refine Exists.intro _ (And.intro rfl ?_)
 exact Fin.cut (A:=one H r ⟨5,v,bs (pst p a s w z n)⟩) rfl (zce _ _ _).symm (fun hh=>HSc.set hh fun x hx=>zq _ _ x hx) (.id (.tup (asc fun x hx=>by cases hx)))
theorem znf (A X Y:Nat) (hA:A≤4) (hX:X≤4) (hY:Y≤4) (H:za):CallOk Tryz.prog 140 [.int .i64 ((16 * A:Nat):Int),.int .i64 (X:Int),.int .i64 (Y:Int)] H (.tup [.agg [.int .i64 ((16 * Y * (16 * A)+16 * X:Nat):Int),.int .i64 ((16 * A:Nat):Int),.int .i64 ((16:Nat):Int),.int .i64 ((16:Nat):Int)],.agg [.int .i64 ((8 * Y * (8 * A)+8 * X:Nat):Int),.int .i64 ((8 * A:Nat):Int),.int .i64 ((8:Nat):Int),.int .i64 ((8:Nat):Int)]]) H:=by
 show CallOk _ _ _ H (.tup [.agg [.int .i64 ((16 * Y * (16 * A)+16 * X:Nat):Int),.int .i64 ((16 * A:Nat):Int),.int .i64 16,.int .i64 16],.agg [.int .i64 ((8 * Y * (8 * A)+8 * X:Nat):Int),.int .i64 ((8 * A:Nat):Int),.int .i64 8,.int .i64 8]]) H
 have n1:16 * Y * (16 * A)≤64 * 64:=Nat.mul_le_mul (by omega) (by omega)
 have n2:8 * Y * (8 * A)≤32 * 32:=Nat.mul_le_mul (by omega) (by omega)
 have d1:((16 * A:Nat):Int).tdiv 2=((8 * A:Nat):Int):=by rw [zx _ _ (by omega)];omega
 have m1:(16:Int) * (Y:Int)=((16 * Y:Nat):Int):=by omega
 have m2:(16:Int) * (X:Int)=((16 * X:Nat):Int):=by omega
 have m3:(8:Int) * (Y:Int)=((8 * Y:Nat):Int):=by omega
 have m4:(8:Int) * (X:Int)=((8 * X:Nat):Int):=by omega
 have m5:((16 * Y:Nat):Int) * ((16 * A:Nat):Int)=((16 * Y * (16 * A):Nat):Int):=(Int.natCast_mul _ _).symm
 have m6:((8 * Y:Nat):Int) * ((8 * A:Nat):Int)=((8 * Y * (8 * A):Nat):Int):=(Int.natCast_mul _ _).symm
 have m7:((16 * Y * (16 * A):Nat):Int)+((16 * X:Nat):Int)=((16 * Y * (16 * A)+16 * X:Nat):Int):=(Int.natCast_add _ _).symm
 have m8:((8 * Y * (8 * A):Nat):Int)+((8 * X:Nat):Int)=((8 * Y * (8 * A)+8 * X:Nat):Int):=(Int.natCast_add _ _).symm
 refine CallOk.body (F0:=[(0,.int .i64 ((16 * A:Nat):Int)),(1,.int .i64 (X:Int)),(2,.int .i64 (Y:Int))]) Tryz.func140 rfl Tryz.ntmps140 Tryz.results140 rfl (by kernel_rfl) rfl ?_
 refine PW.e ?_
 refine PW.f (fun K k=>by simp (disch:=omega) only [go_sem,↓reduceIte,reduceCtorEq,m1,m2,m5,m7];exact k) ?_
 refine PW.f (fun K k=>by simp (disch:=omega) only [go_sem,↓reduceIte,reduceCtorEq,d1,m3,m4,m6,m8];exact k) ?_
 (repeat refine PW.seq ?_);refine PW.drawi [H.length,H.length+1] [(6,[0]),(7,[1])] [] [] mix (by kernel_rfl) (by simp<;>omega) fun K hK=> ?_
 simp (disch:=omega) only [go_sem,↓reduceIte,reduceCtorEq]
 refine hK _ _ ?_;clear hK K
 refine PW.ret ⟨.tup [.agg [.int .i64 ((16 * Y * (16 * A)+16 * X:Nat):Int),.int .i64 ((16 * A:Nat):Int),.int .i64 16,.int .i64 16],.agg [.int .i64 ((8 * Y * (8 * A)+8 * X:Nat):Int),.int .i64 ((8 * A:Nat):Int),.int .i64 8,.int .i64 8]],by simp (disch:=omega) only [go_sem,↓reduceIte,reduceCtorEq,zd,zg,List.mapM_cons,List.mapM_nil,Option.pure_def,Option.bind_eq_bind,Option.bind_some,Array.toList],?_⟩
 refine Fin.base (.id (.tup (asc fun x hx=> ?_)))
 simp only [List.mem_cons,List.not_mem_nil,or_false] at hx
 rcases hx with rfl|rfl<;>exact zB (zbG _ _ _ _ _)
set_option maxHeartbeats 3200000 in
set_option maxRecDepth 100000 in
theorem zoC (A B X Y:Nat) (f m:Fm) (hf:Gok A B f) (hm:F16 m) (hX:X<A) (hY:Y<B) (H:za):
  CallOk Tryz.prog 76 [.agg (fmc f),.int .i64 (X:Int),.int .i64 (Y:Int),.agg (fmc m)] H (.tup [.agg (fmc (smF A X Y f m)),.int .i64 0]) H:=by
 have ho:=fun K=>zk6 f (X:Int) (Y:Int) K
 rw [hf.has hX hY] at ho
 have fo:=fun K=>zaS m K
 have hmv:=hm.fvd
 unfold fvd at hmv
 rw [Bool.and_eq_true] at hmv
 rw [hmv.1] at fo
 obtain ⟨q1,q2,q3⟩:=zlD hf hm hX hY
 have mg:=fun K=>znf A X Y hf.ra.2 (by have:=hf.ra;omega) (by have:=hf.rb;omega) K
 obtain ⟨w,ht,y,u,v⟩:=f
 obtain ⟨w',ht',y',u',v'⟩:=m
 obtain ⟨hw,hh,ra,rb,ly,lu,lv⟩:=hf
 obtain ⟨hw',hh',ly',lu',lv'⟩:=hm
 simp only at hw hh ly lu lv hw' hh' ly' lu' lv'
 subst hw hh hw' hh'
 have nb1:16 * A * (16 * B)≤64 * 64:=Nat.mul_le_mul (by omega) (by omega)
 have nb2:8 * A * (8 * B)≤32 * 32:=Nat.mul_le_mul (by omega) (by omega)
 have nb3:0<16 * A * (16 * B):=Nat.mul_pos (by omega) (by omega)
 have nb4:0<8 * A * (8 * B):=Nat.mul_pos (by omega) (by omega)
 have n1:16 * Y * (16 * A)≤64 * 64:=Nat.mul_le_mul (by omega) (by omega)
 have n2:8 * Y * (8 * A)≤32 * 32:=Nat.mul_le_mul (by omega) (by omega)
 have p1:=fun r K hr=>ze6 y y' r 1 (16 * Y * (16 * A)+16 * X) (16 * A) 16 16 true false K hr (by omega) (by omega) (by omega) (by omega) (rows_in ly (by omega) (by omega)) (by omega)
 have p2:=fun r K hr=>ze6 u u' r 1 (8 * Y * (8 * A)+8 * X) (8 * A) 8 8 true false K hr (by omega) (by omega) (by omega) (by omega) (rows_in lu (by omega) (by omega)) (by omega)
 have p3:=fun r K hr=>ze6 v v' r 1 (8 * Y * (8 * A)+8 * X) (8 * A) 8 8 true false K hr (by omega) (by omega) (by omega) (by omega) (rows_in lv (by omega) (by omega)) (by omega)
 have fc:=zhK ((16 * A:Nat):Int) ((16 * B:Nat):Int) y u v (H++[⟨33,0,fmc ⟨((16 * A:Nat):Int),((16 * B:Nat):Int),y,u,v⟩⟩,⟨33,0,fmc ⟨16,16,y',u',v'⟩⟩,⟨33,0,[.int .i64 0,.int .i64 0,.slice [] 0 true,.slice [] 0 true,.slice [] 0 true]⟩]) (by omega) (by omega) (by omega)
 have hres:fmc (smF A X Y ⟨((16 * A:Nat):Int),((16 * B:Nat):Int),y,u,v⟩ ⟨16,16,y',u',v'⟩)=[.int .i64 ((16 * A:Nat):Int),.int .i64 ((16 * B:Nat):Int),.slice (bs (pst y (16 * Y * (16 * A)+16 * X) (16 * A) 16 y' 16)) y.length false,.slice (bs (pst u (8 * Y * (8 * A)+8 * X) (8 * A) 8 u' 8)) u.length false,.slice (bs (pst v (8 * Y * (8 * A)+8 * X) (8 * A) 8 v' 8)) v.length false]:=by
  unfold fmc
  rw [q1,q2,q3]
  rfl
 rw [hres]
 have k1:(pst y (16 * Y * (16 * A)+16 * X) (16 * A) 16 y' 16).length=y.length:=q1
 have k2:(pst u (8 * Y * (8 * A)+8 * X) (8 * A) 8 u' 8).length=u.length:=q2
 have k3:(pst v (8 * Y * (8 * A)+8 * X) (8 * A) 8 v' 8).length=v.length:=q3
 clear hres q1 q2 q3 hmv
 generalize pst y (16 * Y * (16 * A)+16 * X) (16 * A) 16 y' 16=PY at p1 k1 ⊢
 generalize pst u (8 * Y * (8 * A)+8 * X) (8 * A) 8 u' 8=PU at p2 k2 ⊢
 generalize pst v (8 * Y * (8 * A)+8 * X) (8 * A) 8 v' 8=PV1 at p3 k3 ⊢
 generalize 16 * Y * (16 * A)+16 * X=a1 at p1 mg
 generalize 8 * Y * (8 * A)+8 * X=a2 at p2 p3 mg
 simp only [fmc,plc,cpB,hl3,List.append_assoc,List.cons_append,List.nil_append,Nat.add_assoc,Nat.reduceAdd] at ho fo fc ⊢
 refine CallOk.body (F0:=[(0,.agg [.int .i64 ((16 * A:Nat):Int),.int .i64 ((16 * B:Nat):Int),.slice (bs y) y.length false,.slice (bs u) u.length false,.slice (bs v) v.length false]),(1,.int .i64 (X:Int)),(2,.int .i64 (Y:Int)),(3,.agg [.int .i64 16,.int .i64 16,.slice (bs y') y'.length false,.slice (bs u') u'.length false,.slice (bs v') v'.length false])]) Tryz.func76 rfl Tryz.ntmps76 Tryz.results76 rfl (by kernel_rfl) rfl ?_
 refine PW.e ?_
 (repeat refine PW.seq ?_)
 refine PW.rgv (P:=Tryz.prog) [1,2,4,7,8,9] 32 (.bool false) ?_ ?_ ?_
 ·rfl
 ·clear p1 p2 p3 fc mg
  simp (disch:=omega) only [go_sem,↓reduceIte,reduceCtorEq];(repeat' (first|((first|refine zk ?_ ?_|refine And.intro ?_ ?_)<;>intro h<;>(try simp only [nqb] at h)<;>simp (disch:=omega) only [go_sem,↓reduceIte,reduceCtorEq,h])|((first|refine VCx.call (ho _) rfl ?_|refine VCx.call (fo _) rfl ?_);simp (disch:=omega) only [go_sem,↓reduceIte,reduceCtorEq])))
  all_goals (simp_all [slot,Nat.beq]<;>first|rfl|omega|(rw [Bool.eq_iff_iff];simp;done)|(rw [Bool.eq_iff_iff];simp;omega))
 (repeat refine PW.seq ?_);refine PW.cond (t:=_) rfl (fun h=> ?_) (fun h=> ?_)
 ·cases h
 refine PW.skip ?_
 refine PW.view (Vs.place 5) ?_
 refine PW.view (Vs.place 5) ?_
 refine PW.view (Vs.place 5) ?_
 refine PW.f (fun K k=>by simp (disch:=omega) only [go_sem,↓reduceIte,reduceCtorEq];refine VCx.call (fc) rfl ?_;simp (disch:=omega) only [go_sem,↓reduceIte,reduceCtorEq];exact k) ?_
 refine PW.f (fun K k=>by simp (disch:=omega) only [go_sem,↓reduceIte,reduceCtorEq];refine VCx.call (mg _) rfl ?_;simp (disch:=omega) only [go_sem,↓reduceIte,reduceCtorEq];exact k) ?_
 refine PW.f (fun K k=>by simp (disch:=omega) only [go_sem,↓reduceIte,reduceCtorEq];refine VCx.call (p1 _ _ (apn _ _ 3)) rfl ?_;simp (disch:=omega) only [go_sem,↓reduceIte,reduceCtorEq];exact k) ?_
 refine PW.f (fun K k=>by simp (disch:=omega) only [go_sem,↓reduceIte,reduceCtorEq];refine VCx.call (p2 _ _ (apn _ _ 4)) rfl ?_;simp (disch:=omega) only [go_sem,↓reduceIte,reduceCtorEq];exact k) ?_
 refine PW.f (fun K k=>by simp (disch:=omega) only [go_sem,↓reduceIte,reduceCtorEq];refine VCx.call (p3 _ _ (apn _ _ 5)) rfl ?_;simp (disch:=omega) only [go_sem,↓reduceIte,reduceCtorEq];exact k) ?_
 refine PW.e ?_
 refine PW.ret ⟨.tup [.agg [.int .i64 ((16 * A:Nat):Int),.int .i64 ((16 * B:Nat):Int),.msl (H.length+3) 1 0 y.length 1 true,.msl (H.length+4) 1 0 u.length 1 true,.msl (H.length+5) 1 0 v.length 1 true],.int .i64 0],by simp (disch:=omega) only [go_sem,↓reduceIte,reduceCtorEq,zd,zg,List.mapM_cons,List.mapM_nil,Option.pure_def,Option.bind_eq_bind,Option.bind_some,Array.toList],?_⟩
 refine Fin.base (Fz.tupC ⟨Fz.aggC ⟨.id (.int _ _),.id (.int _ _),Fz.mslC (e:=5) (xs:=bs PY) (by omega) (apn _ _ 3) (by rw [ze];omega) (FzC.refl (zq _ _)),Fz.mslC (e:=5) (xs:=bs PU) (by omega) (apn _ _ 4) (by rw [ze];omega) (FzC.refl (zq _ _)),Fz.mslC (e:=5) (xs:=bs PV1) (by omega) (apn _ _ 5) (by rw [ze];omega) (FzC.refl (zq _ _)),trivial⟩,.id (.int _ _),trivial⟩)
theorem zwa {s:Sq} {p:Pi} (hv:zM s p=true) (hi:s.il=true):s.h%32=0:=by
 have hr:=za9 hv
 unfold zM at hv
 simp only [Bool.and_eq_true,Bool.or_eq_true,beq_iff_eq] at hv
 obtain ⟨⟨hq,hc⟩,_⟩:=hv
 unfold zc7 vsz at hq
 simp only [Bool.and_eq_true,Bool.or_eq_true,beq_iff_eq,Bool.not_eq_true'] at hq
 rcases hq.1.2 with h|h
 ·rw [hi] at h;cases h
 ·rw [←zP _ _ (by omega)];exact h
theorem zi0 {A B:Nat} {f:Fm} (hA:1≤A∧A≤4) (hB:1≤B∧B≤4) (hf:fmd f=true) (hw:f.w=((16 * A:Nat):Int)) (hh:f.h=((16 * B:Nat):Int)):Gok A B f:=by
 have hv:fvd f=true:=by
  unfold fvd
  rw [hf,Bool.true_and]
  simp only [Bool.and_eq_true,decide_eq_true_eq]
  omega
 obtain ⟨A',B',g⟩:=Gok.of hv
 have e1:A'=A:=by have:=g.w;omega
 have e2:B'=B:=by have:=g.h;omega
 subst e1 e2;exact g
theorem zhQ {A B:Nat} {f:Fm} (hA:1≤A∧A≤4) (hB:1≤B∧B≤4) (hv:fvd f=true) (hw:f.w=((16 * A:Nat):Int)) (hh:f.h=((32 * B:Nat):Int)) {s:Int} (hs:s=0∨s=1):Gok A B (fieldOf f s):=by
 obtain ⟨w,ht,y,u,v⟩:=f
 simp only at hw hh
 obtain ⟨V,K,e1,e2,hok⟩:=zdB hv (by show ht%32=0;omega)
 subst e1 e2
 obtain ⟨P,hP,rfl⟩:∃ P:Nat,P≤1∧s=(P:Int):=by
  rcases hs with e|e
  ·exact ⟨0,by omega,by omega⟩
  ·exact ⟨1,by omega,by omega⟩
 have e3:=zaO V K P y u v
 unfold fr4 at e3
 rw [e3]
 have h1:=zme hok hP
 exact zi0 hA hB h1.fmd (by have:=h1.w;omega) (by have:=h1.h;omega)
theorem zir {f:Fm} {w h:Int} (hm:mOr f w h=true) (hz:f.w≠0):fmd f=true∧f.w=w∧f.h=h:=by
 unfold mOr at hm
 simpa [hz] using hm
structure DecOk (s:Sq) (p:Pi) (pa fu fi:Fm) (b:Bool) (A B:Nat):Prop where
 hv:zM s p=true
 hb:b=true→p.st≠3
 ra:1≤A∧A≤4
 rb:1≤B∧B≤4
 w:s.w=((16 * A:Nat):Int)
 g:hgt s p=((16 * B:Nat):Int)
 r:za4 s p=(B:Int)
 h3:p.st=3→s.h=((16 * B:Nat):Int)
 h4:p.st≠3→s.h=((32 * B:Nat):Int)∧s.il=true
 st:1≤p.st∧p.st≤3
 ty:1≤p.ty∧p.ty≤3
 mp:mOr pa s.w s.h=true
 mf:mOr fu s.w s.h=true
 mi:mOr fi s.w (s.h.tdiv 2)=true
 zp:p.ty≠1→pa.w≠0
 zf:p.ty=3→fu.w≠0
 zi:p.ty=2→b=true→fi.w≠0
theorem DecOk.of {s:Sq} {p:Pi} {pa fu fi:Fm} {b:Bool} (h:ziI s p pa fu fi b=0):∃ A B,DecOk s p pa fu fi b A B:=by
 unfold ziI at h
 split at h
 ·rename_i hc
  simp only [Bool.and_eq_true] at hc
  obtain ⟨hf,m1,m2,m3⟩:=hc
  unfold zfc at hf
  rw [Bool.and_eq_true] at hf
  obtain ⟨hv,hb⟩:=hf
  obtain ⟨A,B,a1,b1,ew,eh,er,e3,e4,st,ty⟩:=zoS hv
  split at h
  ·cases h
  rename_i hn
  simp only [Bool.or_eq_true,Bool.and_eq_true,Bool.not_eq_true',decide_eq_true_eq,decide_eq_false_iff_not] at hn
  refine ⟨A,B,hv,fun e=> ?_,a1,b1,ew,eh,er,e3,e4,st,ty,m1,m2,m3,fun e1 e2=>hn (.inl ⟨e1,e2⟩),fun e1 e2=>hn (.inr (.inl ⟨e1,e2⟩)),fun e1 e2 e3=>hn (.inr (.inr ⟨e1,e2,e3⟩))⟩
  rw [e] at hb
  simpa using hb
 ·cases h
theorem DecOk.vc {s:Sq} {p:Pi} {pa fu fi:Fm} {b:Bool} {A B:Nat} (h:DecOk s p pa fu fi b A B):vcx (cxP s p b)=true:=by
 unfold vcx cxP
 have:=h.st
 have:=h.ty
 simp only [Bool.and_eq_true,decide_eq_true_eq]
 refine ⟨by omega,by omega,by omega,by omega,?_⟩
 split
 ·rename_i h3
  cases b with
  | false=>rfl
  | true=>exact absurd h3 (h.hb rfl)
 ·rename_i h3
  exact (h.h4 h3).2
theorem zi5 {s:Sq} {p:Pi} {pa fu fi f:Fm} {b:Bool} {A B:Nat} (h:DecOk s p pa fu fi b A B) (hm:mOr f s.w s.h=true) (hz:f.w≠0) {sel:Int} (hs:sel=0∨sel=1):(lastF f (!(fcx (cxP s p b))) sel).2=0∧Gok A B (lastF f (!(fcx (cxP s p b))) sel).1:=by
 obtain ⟨g1,g2,g3⟩:=zir hm hz
 obtain ⟨v1,v2⟩:=zk7 h.hv g1 g2 g3
 have ew:=h.w
 by_cases h3:p.st=3
 ·have hf:fcx (cxP s p b)=false:=by unfold fcx cxP;simp [h3]
  unfold lastF
  rw [hf,if_neg hz,v1,if_neg (by simp),if_pos (by rfl)]
  exact ⟨rfl,(zi0 h.ra h.rb g1 (by omega) (by have:=h.h3 h3;omega):Gok A B f)⟩
 ·have hf:fcx (cxP s p b)=true:=by unfold fcx cxP;simp [h3]
  have e4:=(h.h4 h3).1
  unfold lastF
  rw [hf,if_neg hz,v1,if_neg (by simp [v2 h3]),if_neg (by simp)]
  exact ⟨rfl,zhQ h.ra h.rb v1 (by omega) (by omega) hs⟩
theorem zrn {s:Sq} {p:Pi} {pa fu fi:Fm} {b:Bool} {A B:Nat} (h:DecOk s p pa fu fi b A B) {d sel:Int} (hd:(d=0∧p.ty≠1)∨(d=1∧p.ty=3)) (hs:sel=0∨sel=1):(refS (cxP s p b) pa fu fi d sel).2=0∧Gok A B (refS (cxP s p b) pa fu fi d sel).1:=by
 have hbad:ziQ (cxP s p b) d sel=false:=by
  unfold ziQ
  rw [h.vc]
  have h1:d=0∨d=1:=by rcases hd with h|h;exact .inl h.1;exact .inr h.1
  rcases h1 with rfl|rfl<;>rcases hs with rfl|rfl<;>simp
 unfold refS
 rw [hbad,if_neg (by simp)]
 unfold zdf
 rcases hd with ⟨rfl,ht⟩|⟨rfl,ht⟩
 ·rw [if_neg (by omega)]
  split
  ·rename_i hc
   simp only [Bool.and_eq_true,decide_eq_true_eq] at hc
   obtain ⟨hb,ht2,_⟩:=hc
   have hb':b=true:=hb
   have hz:=h.zi ht2 hb'
   obtain ⟨g1,g2,g3⟩:=zir h.mi hz
   have e4:=(h.h4 (h.hb hb')).1
   have ew:=h.w
   have gg:=zi0 h.ra h.rb g1 (by omega) (by rw [g3,zx _ _ (by omega)];omega)
   show (lastF fi true sel).2=0∧Gok A B (lastF fi true sel).1
   unfold lastF
   rw [if_neg hz,gg.fvd,if_neg (by simp),if_pos rfl]
   exact ⟨rfl,gg⟩
  ·exact zi5 h h.mp (h.zp ht) hs
 ·rw [if_pos rfl]
  exact zi5 h h.mf (h.zf ht) hs
theorem zeC {s:Sq} {p:Pi} {pa fu fi:Fm} {b:Bool} {A B:Nat} (h:DecOk s p pa fu fi b A B) {d:Int} (hd:(d=0∧p.ty≠1)∨(d=1∧p.ty=3)) {fp:Bool} {va vb vc vd sa sb:Int} (hs:sa=0∨sa=1) (hv:vrg va vb=true) (hfp:fp=true→bcx (cxP s p b)=true) {X Y:Nat} (hX:X<A) (hY:Y<B):
  (dirP (cxP s p b) fp va vb vc vd sa sb pa fu fi d (X:Int) (Y:Int)).2=0:=by
 obtain ⟨e1,g⟩:=zrn h hd hs
 unfold dirP
 rw [if_neg (by rw [e1];simp)]
 generalize (refS (cxP s p b) pa fu fi d sa).1=f at g
 cases fp with
 | true=>
  rw [if_pos rfl]
  have hb:=hfp rfl
  unfold bcx cxP at hb
  simp only [Bool.and_eq_true,decide_eq_true_eq] at hb
  have h32:=zwa h.hv hb.1
  have e3:=h.h3 hb.2
  unfold fldS
  rw [g.has hX hY,Bool.true_and,if_pos (by rw [decide_eq_true_eq,g.h];omega)]
 | false=>
  rw [if_neg (by simp)]
  have hfv:=g.fvd
  unfold fvd at hfv
  rw [Bool.and_eq_true] at hfv
  unfold prdS
  rw [hfv.1,Bool.true_and,if_pos (by simp only [Bool.and_eq_true,decide_eq_true_eq];have:=g.w;have:=g.h;omega),hv,if_pos rfl]
theorem zlM {s:Sq} {p:Pi} {pa fu fi:Fm} {b:Bool} {A B:Nat} (h:DecOk s p pa fu fi b A B) {m:Mb} (hm:fmS (cxP s p b) m=true) (al:Bool) {q:Int} (hq:1≤q∧q≤31) {X Y:Nat} (hX:X<A) (hY:Y<B):
  (zgs (cxP s p b) s.ia s.ie al q m pa fu fi (X:Int) (Y:Int)).2=0:=by
 have hmx:zb2 s.ia=true∧zb2 s.ie=true:=by
  have:=h.hv
  unfold zM zc7 at this
  simp only [Bool.and_eq_true] at this
  exact this.1.1.2.2.2.2
 have hq':qnB q=true:=by unfold qnB;simp [hq]
 have hpr:m.k≠1→(prS (cxP s p b) (if m.k=0 then stl (cxP s p b) else m) pa fu fi (X:Int) (Y:Int)).2=0:=fun hk=>by
  have key:∀ M:Mb,(M.ua=true→zca (cxP s p b) M.fp true M.va M.vb M.vc M.vd M.sa M.sb=true∨(M.fp=false∧vrg M.va M.vb=true∧(M.sa=0∨M.sa=1)))→(M.ub=true→p.ty=3∧(zca (cxP s p b) M.fp true M.ve M.vf M.vg M.vh M.sc M.sd=true∨(M.fp=false∧vrg M.ve M.vf=true∧(M.sc=0∨M.sc=1))))→(M.fp=true→bcx (cxP s p b)=true)→p.ty≠1→(M.ua=true∨M.ub=true)→(prS (cxP s p b) M pa fu fi (X:Int) (Y:Int)).2=0:=fun M h0 h1 hf ht hu=>by
   have r0:M.ua=true→(zhp (cxP s p b) M pa fu fi (X:Int) (Y:Int)).2=0:=fun e=>by
    unfold zhp
    rcases h0 e with hh|⟨_,hv,hs⟩
    ·obtain ⟨q1,_,q3⟩:=ziF hh
     exact zeC h (.inl ⟨rfl,ht⟩) q1 (q3 rfl).1 hf hX hY
    ·exact zeC h (.inl ⟨rfl,ht⟩) hs hv hf hX hY
   have r1:M.ub=true→(zfH (cxP s p b) M pa fu fi (X:Int) (Y:Int)).2=0:=fun e=>by
    unfold zfH
    obtain ⟨t3,hh⟩:=h1 e
    rcases hh with hh|⟨_,hv,hs⟩
    ·obtain ⟨q1,_,q3⟩:=ziF hh
     exact zeC h (.inr ⟨rfl,t3⟩) q1 (q3 rfl).1 hf hX hY
    ·exact zeC h (.inr ⟨rfl,t3⟩) hs hv hf hX hY
   unfold prS
   cases ha:M.ua with
   | true=>
    rw [if_pos rfl,if_neg (by rw [r0 ha];simp)]
    cases hb:M.ub with
    | true=>rw [if_pos rfl,if_neg (by rw [r1 hb];simp)]
    | false=>rw [if_neg (by simp)];exact r0 ha
   | false=>
    rw [if_neg (by simp)]
    rcases hu with e|e
    ·rw [ha] at e;cases e
    ·exact r1 e
  by_cases h0:m.k=0
  ·rw [if_pos h0]
   have ht:p.ty≠1:=by
    unfold fmS at hm
    rw [Bool.and_eq_true,if_pos h0,Bool.and_eq_true] at hm
    have:=hm.2.1
    unfold cxP at this
    simpa using this
   have hp:pcx (cxP s p b)=0∨pcx (cxP s p b)=1:=by unfold pcx;split<;>simp
   exact key (stl (cxP s p b)) (fun _=>.inr ⟨rfl,(show vrg 0 0=true by decide),hp⟩) (fun e=>by
    have e3:p.ty=3:=by
     have:decide ((cxP s p b).t=3)=true:=e
     exact of_decide_eq_true this
    refine ⟨e3,.inr ⟨rfl,(show vrg 0 0=true by decide),?_⟩⟩
    show (if (cxP s p b).t=3 then pcx (cxP s p b) else 0)=0∨(if (cxP s p b).t=3 then pcx (cxP s p b) else 0)=1
    split
    ·exact hp
    ·exact .inl rfl) (fun e=>by cases e) ht (.inl rfl)
  ·rw [if_neg h0]
   have hk2:m.k=2:=by rcases zuN hm with h|h|h<;>omega
   have hh:=hm
   unfold fmS at hh
   rw [Bool.and_eq_true,if_neg (by omega),if_neg (by omega),if_pos hk2] at hh
   have h2:=hh.2
   unfold zix at h2
   simp only [Bool.and_eq_true,Bool.not_eq_true',Bool.or_eq_false_iff] at h2
   obtain ⟨⟨ht,hu⟩,⟨hfp,_⟩,d0,d1,_⟩:=h2
   have ht1:p.ty≠1:=by unfold cxP at ht;simpa using ht
   refine key m (fun e=> ?_) (fun e=>⟨?_,?_⟩) (fun e=> ?_) ht1 ?_
   ·unfold d0S at d0;rw [e] at d0;exact .inl d0
   ·unfold zgc at hu
    simp only [Bool.or_eq_false_iff,Bool.and_eq_false_iff,decide_eq_false_iff_not] at hu
    have h2':p.ty≠2:=by
     rcases hu.1 with h|h
     ·exact h
     ·rw [e] at h;simp at h
    have:=h.ty;omega
   ·unfold d1S at d1;rw [e] at d1;exact .inl d1
   ·rw [e] at hfp;simpa using hfp
   ·unfold zgc at hu
    simp only [Bool.or_eq_false_iff] at hu
    have:=hu.2
    cases ha:m.ua<;>cases hb:m.ub<;>simp_all
 unfold zgs
 rw [if_pos (by rw [hm,hmx.1,hmx.2,hq'];rfl)]
 by_cases hk:m.k=1
 ·rw [if_pos hk]
 ·rw [if_neg hk,if_neg (by rw [hpr hk];simp)]
theorem zgD (d:TypeDesc) (k a v:PV):∀ (xs:List PV) (i:Nat),zbL d k (xs++[.tup [a,v]]) i=match zbL d k xs i with
  | some (some r)=>some (some r)
  | some none=>(match zcQ d k a with|some true=>some (some (i+xs.length,v))|some false=>some none|none=>none)
  | none=>none
 | [],i=>by
  simp only [List.nil_append,zbL,List.length_nil,Nat.add_zero]
  cases zcQ d k a with
  | none=>rfl
  | some t=>cases t<;>rfl
 | x::r,i=>by
  rw [List.cons_append]
  have ih:=zgD d k a v r (i+1)
  match x with
  | .tup [b,u]=>
   simp only [zbL]
   cases zcQ d k b with
   | none=>rfl
   | some t=>
    cases t with
    | true=>rfl
    | false=>
     dsimp only
     rw [ih,show i+1+r.length=i+(.tup [b,u]::r:List PV).length by simp;omega]
  | .tup []=>rfl
  | .tup [_]=>rfl
  | .tup (_::_::_::_)=>rfl
  | .int _ _=>rfl
  | .bool _=>rfl
  | .str _=>rfl
  | .nilp=>rfl
  | .nl _=>rfl
  | .undef=>rfl
  | .ptr _ _ _=>rfl
  | .ip _ _=>rfl
  | .slice _ _ _=>rfl
  | .msl _ _ _ _ _ _=>rfl
  | .mp _ _=>rfl
  | .agg _=>rfl
  | .func _ _ _=>rfl
  | .yl _ _ _=>rfl
  | .lp _ _=>rfl
theorem znD:zrT Tryz.prog 3=some (.int .i64 0):=by kernel_rfl
def zh5:Nat→List PV
 | 0=>[]
 | i+1=>zh5 i++[.tup [.int .i64 (1+(i:Int)),.int .i64 (i:Int)]]
theorem zeV (t:Int):∀ r:Nat,((1≤t∧t<1+(r:Int))→∃ p,zbL (.int .i64) (.int .i64 t) (zh5 r) 0=some (some (p,.int .i64 (t - 1))))∧(¬(1≤t∧t<1+(r:Int))→zbL (.int .i64) (.int .i64 t) (zh5 r) 0=some none)
 | 0=>⟨fun h=>by omega,fun _=>rfl⟩
 | r+1=>by
  obtain ⟨ih1,ih2⟩:=zeV t r
  rw [zh5,zgD]
  by_cases h:1≤t∧t<1+(r:Int)
  ·obtain ⟨p,hp⟩:=ih1 h
   rw [hp]
   exact ⟨fun _=>⟨p,rfl⟩,fun h2=>by omega⟩
  ·rw [ih2 h]
   by_cases h2:t=1+(r:Int)
   ·have:zcQ (.int .i64) (.int .i64 t) (.int .i64 (1+(r:Int)))=some true:=by simp [zcQ,h2]
    rw [this]
    refine ⟨fun _=>⟨0+(zh5 r).length,?_⟩,fun h3=>by omega⟩
    dsimp only
    rw [show t - 1=(r:Int) by omega]
   ·have:zcQ (.int .i64) (.int .i64 t) (.int .i64 (1+(r:Int)))=some false:=by simp [zcQ,h2]
    rw [this]
    exact ⟨fun h3=>by omega,fun _=>rfl⟩
def mpB (r:Nat):Blk:=⟨139,0,zh5 r⟩
set_option maxHeartbeats 2000000 in
theorem zt6 (r:Nat) (H:za) (hr:r≤1000):CallOk Tryz.prog 72 [.int .i64 (r:Int)] H (.mp H.length 0) (H++[mpB r]):=by
 refine CallOk.body (F0:=[(0,.int .i64 (r:Int))]) Tryz.func72 rfl Tryz.ntmps72 Tryz.results72 rfl (by kernel_rfl) rfl ?_
 refine PW.e ?_
 refine PW.e ?_
 refine PW.e ?_
 (repeat refine PW.seq ?_);refine PW.block (PW.loop ?_)
 suffices hl1:∀ j:Nat,j≤r→PL Tryz.prog _ _ [(3,.mp H.length 0),(6,.int .i64 (r:Int)),(7,.int .i64 (j:Int))] (H++[⟨139,0,zh5 j⟩]) _ by
  exact PL.at [3,6,7] (hl1 0 (by omega)) rfl rfl
 intro j hj
 induction hd:r - j using Nat.strongRecOn generalizing j with
 | _ d ih=>
  refine PL.round ?_;refine PW.e ?_
  (repeat refine PW.seq ?_);refine PW.cond (t:=_) rfl (fun h=> ?_) (fun h=> ?_)
  ·have hjr:j<r:=by have:=of_decide_eq_true h;omega
   have hp:=(zeV (1+(j:Int)) j).2 (by omega)
   refine PW.skip ?_;(repeat refine PW.seq ?_);refine PW.block ?_
   refine PW.e ?_
   refine PW.f (fun K k=>by simp (disch:=omega) only [go_sem,↓reduceIte,reduceCtorEq,hp,zc2,zar,zcu];exact k) ?_
   refine PW.e ?_
   exact PL.at [3,6,7] (ih (r - (j+1)) (by omega) (j+1) (by omega) rfl) rfl rfl
  ·have hjr:j=r:=by have:=of_decide_eq_false h;omega
   subst hjr
   refine PW.exit ?_
   refine PW.e ?_
   refine PW.ret ⟨.mp H.length 0,by simp (disch:=omega) only [go_sem,↓reduceIte,reduceCtorEq,zd,zg,List.mapM_cons,List.mapM_nil,Option.pure_def,Option.bind_eq_bind,Option.bind_some,Array.toList],?_⟩
   exact Fin.now
end Go.Proofs.YtjgmdlcjbgiekaaGreatDoor.Sc
