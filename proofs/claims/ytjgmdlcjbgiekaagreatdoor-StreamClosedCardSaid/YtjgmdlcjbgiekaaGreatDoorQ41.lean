/-
  Parts of the proof, put together in one text. No condition.
-/
import Derived.Test.YtjgmdlcjbgiekaaGreatDoorQ40
namespace Go.Proofs.YtjgmdlcjbgiekaaGreatDoor.Sc
set_option linter.all false
open Pm Ty Go.RowKit
theorem zj0 {α:Type} (enc:α→List PV) (N r:Nat) (v:PV) (hr:r<N) (f:α→α):∀ (l:List α) (k:Nat),k<l.length→(∀ x∈l,(enc x).length=N)→(∀ x∈l,enc (f x)=(enc x).set r v)→(l.flatMap enc).set (k * N+r) v=(l.modify k f).flatMap enc
 | [],k,hk,_,_=>by simp at hk
 | x::l,0,_,h1,h2=>by
  have e1:=h1 x List.mem_cons_self
  rw [List.flatMap_cons,Nat.zero_mul,Nat.zero_add,List.set_append_left _ _ (by omega),List.modify_zero_cons,List.flatMap_cons,h2 x List.mem_cons_self]
 | x::l,k+1,hk,h1,h2=>by
  have e1:=h1 x List.mem_cons_self
  have ih:=zj0 enc N r v hr f l k (by simpa using hk) (fun y hy=>h1 y (List.mem_cons_of_mem _ hy)) (fun y hy=>h2 y (List.mem_cons_of_mem _ hy))
  rw [List.flatMap_cons,List.set_append_right _ _ (by rw [e1,Nat.add_mul];omega),List.modify_succ_cons,List.flatMap_cons,←ih,e1]
  congr 2
  rw [Nat.add_mul];omega
def zE (e:Ent):List PV:=.int .i64 e.1.f:: .int .i64 e.1.l:: .int .i64 e.1.ty:: .int .i64 e.1.pa:: .int .i64 e.1.fu:: .int .i64 e.1.sh::(sqc e.2.1++pic e.2.2)
def dpB (j:Nat) (d:Dp):Blk:=⟨118,0,[.msl j (d.en.length * 147) 0 d.en.length 147 true,.int .i64 d.old,.int .i64 d.new,.bool d.wt,.int .i64 d.lk,.int .i64 d.sh]⟩
def enB (es:List Ent):Blk:=⟨74,es.length * 147,es.flatMap zE⟩
structure DpOk (d:Dp) (m:Nat):Prop where
 sq:∀ e∈d.en,SqL e.2.1
 n:d.en.length≤m
 sh:0≤d.sh∧d.sh≤d.en.length
 lk:0≤d.lk∧d.lk≤2
 new: -1≤d.new∧d.new<d.en.length
 old: -1≤d.old∧d.old<d.en.length
 wt:d.wt=true→0≤d.new
theorem zcc (e:Ent) (h:SqL e.2.1):(zE e).length=147:=by
 simp only [zE,List.length_cons,List.length_append,zab _ h,pic,List.length_nil]
theorem zg0 {es:List Ent} (h:∀ e∈es,SqL e.2.1):(es.flatMap zE).length=es.length * 147:=zaD zE 147 es fun e he=>zcc e (h e he)
theorem zuT {es:List Ent} (h:∀ e∈es,SqL e.2.1) (n:Nat) (hn:n<es.length) (v:Int):(es.flatMap zE).set (n * 147+5) (.int .i64 v)=(es.modify n (zS v)).flatMap zE:=
 zj0 zE 147 5 (.int .i64 v) (by omega) (zS v) es n hn (fun e he=>zcc e (h e he)) fun e _=>rfl
structure DpH (H:za) (i j:Nat) (d:Dp):Prop where
 gi:H[i]? =some (dpB j d)
 gj:H[j]? =some (enB d.en)
 ne:i≠j
theorem zvw (H:za) (i j:Nat) (d:Dp) (B:Blk) (hil:i<H.length) (hne:i≠j):(tw H i j (dpB j d) B)[i]? =some ⟨118,0,[.msl j (d.en.length * 147) 0 d.en.length 147 true,.int .i64 d.old,.int .i64 d.new,.bool d.wt,.int .i64 d.lk,.int .i64 d.sh]⟩:=ztG _ _ _ _ _ ⟨hil,hne⟩
theorem show_ok (d:Dp) (n:Nat) (i j:Nat) (H:za) (h:DpH H i j d) (hd:DpOk d 1000000) (hn:n<d.en.length) (hs:d.sh<1000000):CallOk Tryz.prog 111 [.ptr i 0 0,.int .i64 (n:Int)] H (.tup []) (tw H i j (dpB j (d.show n)) (enB (d.show n).en)):=by
 obtain ⟨hi,hj,hne⟩:=h
 unfold dpB at hi
 unfold enB at hj
 have hil:i<H.length:=(List.getElem?_eq_some_iff.1 hi).1
 have hjl:j<H.length:=(List.getElem?_eq_some_iff.1 hj).1
 have hln:=zg0 hd.sq
 have hji:∀ B,(H.set j B)[i]? =H[i]? :=fun B=>List.getElem?_set_ne (by omega)
 have hsh:=hd.sh
 have hset:=zuT hd.sq n hn d.sh
 have hnn:=hd.n
 refine CallOk.body (F0:=[(0,.ptr i 0 0),(1,.int .i64 (n:Int))]) Tryz.func111 rfl Tryz.ntmps111 Tryz.results111 rfl (by kernel_rfl) rfl ?_
 (repeat refine PW.seq ?_);refine PW.drawi [j] [(7,[0]),(13,[0]),(14,[0]),(15,[0])] [] [] mix (by kernel_rfl) (by simp<;>omega) fun K hK=> ?_
 simp (disch:=omega) only [go_sem,↓reduceIte,reduceCtorEq,hi,hj,hln,hset]
 refine hK _ _ ?_;clear hK K
 refine PW.f (fun K k=>by simp (disch:=omega) only [go_sem,↓reduceIte,reduceCtorEq,hji,hi];exact k) ?_
 refine ⟨_,rfl,.inl ⟨rfl,?_⟩⟩
 unfold tw dpB enB Dp.show
 rw [List.set_comm _ _ hne,Int.toNat_natCast]
 simp only [List.length_modify]
theorem Dp.show_ok {d:Dp} {m n:Nat} (hd:DpOk d m) (hs:d.sh<d.en.length):DpOk (d.show n) m:=by
 obtain ⟨h1,h2,h3,h4,h5,h6,h7⟩:=hd
 refine ⟨fun e he=> ?_,?_,?_,h4,?_,?_,h7⟩
 ·simp only [Dp.show] at he
  obtain ⟨k,hk,rfl⟩:=List.getElem_of_mem he
  rw [List.getElem_modify]
  rw [List.length_modify] at hk
  have h0:=h1 d.en[k] (List.getElem_mem hk)
  split
  ·exact h0
  ·exact h0
 all_goals simp only [Dp.show,List.length_modify]
 ·exact h2
 ·omega
 ·exact h5
 ·exact h6
structure DpG (d:Dp) (m:Nat):Prop where
 ok:DpOk d m
 cnt:d.sh+(if d.wt then 1 else 0)≤d.en.length
theorem zp4 (d:Dp):d.flush.sh=d.sh+if d.wt then 1 else 0:=by
 unfold Dp.flush
 split
 ·rfl
 ·omega
theorem zhK (d:Dp):d.flush.en.length=d.en.length:=by
 unfold Dp.flush
 split
 ·simp [Dp.show]
 ·rfl
theorem zez {d:Dp} {m:Nat} (h:DpG d m):DpG d.flush m∧d.flush.sh+0≤d.en.length:=by
 obtain ⟨hd,hc⟩:=h
 unfold Dp.flush
 by_cases hw:d.wt=true
 ·rw [if_pos hw] at hc ⊢
  have h7:=hd.wt hw
  obtain ⟨n,hn⟩:∃ n:Nat,d.new=(n:Int):=⟨d.new.toNat,by omega⟩
  rw [hn]
  obtain ⟨q1,q2,q3,q4,q5,q6,q7⟩:=Dp.show_ok (n:=n) hd (by omega)
  refine ⟨⟨⟨q1,q2,q3,q4,q5,q6,fun h=>by cases h⟩,?_⟩,?_⟩
  ·simp only [Dp.show,List.length_modify,Bool.false_eq_true,if_false];omega
  ·simp only [Dp.show];omega
 ·rw [if_neg hw] at hc ⊢
  exact ⟨⟨hd,by rw [if_neg hw];omega⟩,by omega⟩
theorem zgW (d:Dp) (i j:Nat) (H:za) (h:DpH H i j d) (hd:DpG d 1000000):CallOk Tryz.prog 56 [.ptr i 0 0] H (.tup []) (tw H i j (dpB j d.flush) (enB d.flush.en)):=by
 have h':=h
 obtain ⟨hi,hj,hne⟩:=h
 have hil:i<H.length:=(List.getElem?_eq_some_iff.1 hi).1
 have hjl:j<H.length:=(List.getElem?_eq_some_iff.1 hj).1
 have hw:=hd.ok.wt
 have hcn:=hd.cnt
 have hnew:=hd.ok.new
 have hnn:=hd.ok.n
 unfold dpB at hi
 generalize hr:d.flush=r
 unfold Dp.flush at hr
 refine CallOk.body (F0:=[(0,.ptr i 0 0)]) Tryz.func56 rfl Tryz.ntmps56 Tryz.results56 rfl (by kernel_rfl) rfl ?_
 refine PW.f (fun K k=>by simp (disch:=omega) only [go_sem,↓reduceIte,reduceCtorEq,hi];exact k) ?_
 (repeat refine PW.seq ?_);refine PW.cond (t:=_) rfl (fun h=> ?_) (fun h=> ?_)
 ·obtain ⟨n,hn⟩:∃ n:Nat,d.new=(n:Int):=⟨d.new.toNat,by have:=hw h;omega⟩
  rw [if_pos h] at hr hcn
  have sok:=show_ok d n i j H h' hd.ok (by omega) (by omega)
  have g0:=zvw H i j (d.show n) (enB (d.show n).en) hil hne
  rw [hn] at hi hr
  generalize d.show n=d' at *
  refine PW.f (fun K k=>by simp (disch:=omega) only [go_sem,↓reduceIte,reduceCtorEq,hi];refine VCx.call (sok) rfl ?_;simp (disch:=omega) only [go_sem,↓reduceIte,reduceCtorEq];exact k) ?_
  refine PW.f (fun K k=>by simp (disch:=omega) only [go_sem,↓reduceIte,reduceCtorEq,g0];exact k) ?_
  refine ⟨_,rfl,.inl ⟨rfl,?_⟩⟩
  subst hr
  unfold tw dpB
  rw [List.set_comm _ _ hne,List.set_set,List.set_comm _ _ (by omega:j≠i)]
 ·rw [if_neg (by rw [h];simp)] at hr
  subst hr
  refine PW.skip ?_
  refine ⟨_,rfl,.inl ⟨rfl,?_⟩⟩
  unfold tw
  rw [zd0 h'.gi,zd0 h'.gj]
theorem zhV (H K:za) (i j:Nat) (A B:Blk) (hi:i<H.length) (hj:j<H.length):tw (H++K) i j A B=tw H i j A B++K:=by
 unfold tw
 rw [List.set_append_left _ _ hi,List.set_append_left _ _ (by rw [List.length_set];exact hj)]
theorem zqi (n j:Nat) (d:Dp) (h:j<n):∀ x∈(dpB j d).cells,Scoped n x:=fun x hx=>by
 simp only [dpB,List.mem_cons,List.not_mem_nil,or_false] at hx
 rcases hx with rfl|rfl|rfl|rfl|rfl|rfl
 ·exact .msl h
 ·exact .int _ _
 ·exact .int _ _
 ·exact .bool _
 ·exact .int _ _
 ·exact .int _ _
theorem zcZ (n:Nat) (es:List Ent):∀ x∈(enB es).cells,Scoped n x:=fun x hx=>by
 obtain ⟨e,_,hx⟩:=List.mem_flatMap.1 hx
 simp only [zE,List.mem_cons,List.mem_append] at hx
 rcases hx with rfl|rfl|rfl|rfl|rfl|rfl|hx|hx
 ·exact .int _ _
 ·exact .int _ _
 ·exact .int _ _
 ·exact .int _ _
 ·exact .int _ _
 ·exact .int _ _
 ·exact zbn _ _ x hx
 ·exact zl0 _ _ x hx
theorem ziH (H K:za) (i j:Nat) (d:Dp) (hi:i<H.length) (hj:j<H.length):Fin H (.tup []) (tw H i j (dpB j d) (enB d.en)) (.tup []) (tw (H++K) i j (dpB j d) (enB d.en)):=by
 rw [zhV _ _ _ _ _ _ hi hj]
 exact Fin.cut rfl (by rw [ztF]) (zsZ (zqi _ _ _ hj) (zcZ _ _)) (.id (.tup (by simp)))
theorem zmw (es:List Ent) (e:Ent):(es++[e]).flatMap zE=es.flatMap zE++zE e:=by
 rw [List.flatMap_append,List.flatMap_cons,List.flatMap_nil,List.append_nil]
theorem DpH.two {H:za} {i j:Nat} {d:Dp} (h:DpH H i j d) (K:za) (d':Dp):DpH (tw (H++K) i j (dpB j d') (enB d'.en)) i j d':=by
 have hil:i<H.length:=(List.getElem?_eq_some_iff.1 h.gi).1
 have hjl:j<H.length:=(List.getElem?_eq_some_iff.1 h.gj).1
 exact ⟨ztG _ _ _ _ _ ⟨by rw [List.length_append];omega,h.ne⟩,tw_1 _ _ _ _ _ (by rw [List.length_append];omega),h.ne⟩
theorem DpH.self {H:za} {i j:Nat} {d:Dp} (h:DpH H i j d) (K:za):tw (H++K) i j (dpB j d) (enB d.en)=H++K:=by
 have hil:i<H.length:=(List.getElem?_eq_some_iff.1 h.gi).1
 have hjl:j<H.length:=(List.getElem?_eq_some_iff.1 h.gj).1
 rw [zhV _ _ _ _ _ _ hil hjl]
 unfold tw
 rw [zd0 h.gi,zd0 h.gj]
theorem zsa {d:Dp} {f:FmY} {m:Nat} (h:DpG d m) (hf:SqL f.sq):DpG (d.frame f) (m+1):=by
 obtain ⟨⟨h1,h2,h3,h4,h5,h6,h7⟩,h8⟩:=h
 have hsq:∀ {pa fu:Int},∀ e∈d.en++[fmE f pa fu],SqL e.2.1:=fun e he=>by
  rcases List.mem_append.1 he with he|he
  ·exact h1 e he
  ·rw [List.mem_singleton] at he;rw [he];exact hf
 unfold Dp.frame
 split
 ·split
  ·exact ⟨⟨h1,by omega,h3,h4,h5,h6,h7⟩,h8⟩
  ·have:=Dp.show_ok (d:={ d with en:=d.en++[fmE f d.old d.new] }) (m:=m+1) (n:=d.en.length) ⟨hsq,by simp;omega,by simp;omega,h4,by simp;omega,by simp;omega,h7⟩ (by simp;split at h8<;>omega)
   refine ⟨this,?_⟩
   simp only [Dp.show,List.length_modify,List.length_append,List.length_cons,List.length_nil]
   show d.sh+1+(if d.wt=true then (1:Int) else 0)≤_
   split at h8
   ·rename_i hw;rw [if_pos hw];omega
   ·rename_i hw;rw [if_neg hw];omega
 ·split
  ·exact ⟨⟨h1,by omega,h3,h4,h5,h6,h7⟩,h8⟩
  ·obtain ⟨⟨⟨q1,q2,q3,q4,q5,q6,q7⟩,q8⟩,q9⟩:=zez (d:={ d with en:=d.en++[fmE f d.new (-1)] }) (m:=m+1) ⟨⟨hsq,by simp;omega,by simp;omega,h4,by simp;omega,by simp;omega,h7⟩,by simp;split at h8<;>omega⟩
   have hl:=zhK { d with en:=d.en++[fmE f d.new (-1)] }
   have hs:(Dp.flush { d with en:=d.en++[fmE f d.new (-1)] }).sh=d.sh+if d.wt then 1 else 0:=zp4 _
   have hf:=zbh { d with en:=d.en++[fmE f d.new (-1)] }
   generalize Dp.flush { d with en:=d.en++[fmE f d.new (-1)] }=e at *
   simp only [List.length_append,List.length_cons,List.length_nil] at hl q9
   obtain ⟨f1,f2,f3,f4⟩:=hf
   rw [f3] at q8
   simp only [Bool.false_eq_true,if_false] at q8
   have hcn:e.sh≤d.en.length:=by rw [hs];exact h8
   refine ⟨⟨q1,q2,q3,?_,?_,?_,?_⟩,?_⟩
   ·simp only;omega
   ·simp only;omega
   ·simp only;omega
   ·intro _;simp only;omega
   ·simp only [if_true];omega
def zC (f:FmY):List PV:=.int .i64 f.f:: .int .i64 f.l::(sqc f.sq++(pic f.hd++[.bool f.rs,.int .i64 f.lk]))
theorem zbX (f:FmY) (h:SqL f.sq):(zC f).length=145:=by
 simp only [zC,List.length_cons,List.length_append,zab _ h,pic,List.length_nil]
theorem zwy (f:FmY) (h:SqL f.sq):List.take 135 (List.drop 2 (zC f))=sqc f.sq:=by
 show List.take 135 (sqc f.sq++_)=_
 exact List.take_left' (zab _ h)
theorem ztl (f:FmY) (h:SqL f.sq) (n:Nat):List.drop (137+n) (zC f)=List.drop n (pic f.hd++[.bool f.rs,.int .i64 f.lk]):=by
 have e:List.drop 137 (zC f)=pic f.hd++[.bool f.rs,.int .i64 f.lk]:=by
  show List.drop 135 (sqc f.sq++_)=_
  exact List.drop_left' (zab _ h)
 rw [←List.drop_drop,e]
theorem zwz (f:FmY) (h:SqL f.sq):List.take 6 (List.drop 137 (zC f))=pic f.hd:=by
 have:=ztl f h 0
 rw [this];rfl
theorem zld (f:FmY) (h:SqL f.sq) (n:Nat):(zC f)[137+n]? =(pic f.hd++[.bool f.rs,.int .i64 f.lk])[n]? :=by
 have:=congrArg (·[0]?) (ztl f h n)
 simpa using this
theorem zwB (f:FmY):(zC f)[0]? =some (.int .i64 f.f):=rfl
theorem zwA (f:FmY):(zC f)[1]? =some (.int .i64 f.l):=rfl
theorem zuI (f:FmY) (h:SqL f.sq):(zC f)[137]? =some (.int .i64 f.hd.ty):=zld f h 0
theorem zuJ (f:FmY) (h:SqL f.sq):(zC f)[143]? =some (.bool f.rs):=zld f h 6
theorem zuK (f:FmY) (h:SqL f.sq):(zC f)[144]? =some (.int .i64 f.lk):=zld f h 7
theorem zb5 (s:Sq):(sqc s).all PV.cell=true:=by
 simp [sqc,bs,PV.cell]
theorem zcb (f:FmY):(zC f).all PV.cell=true:=by
 simp [zC,sqc,bs,pic,PV.cell]
set_option maxHeartbeats 2000000 in
set_option maxRecDepth 100000 in
theorem zsq (d:Dp) (f:FmY) (i j:Nat) (H:za) (h:DpH H i j d) (hd:DpG d 900000) (hf:SqL f.sq):CallOk Tryz.prog 57 [.ptr i 0 0,.agg (zC f)] H (.tup []) (tw H i j (dpB j (d.frame f)) (enB (d.frame f).en)):=by
 have h':=h
 obtain ⟨hi,hj,hne⟩:=h
 have hil:i<H.length:=(List.getElem?_eq_some_iff.1 hi).1
 have hjl:j<H.length:=(List.getElem?_eq_some_iff.1 hj).1
 have hi1:∀ K,(H++K)[i]? =H[i]? :=fun K=>List.getElem?_append_left hil
 have hj1:∀ K,(H++K)[j]? =H[j]? :=fun K=>List.getElem?_append_left hjl
 unfold dpB at hi
 unfold enB at hj
 have f0:=zbX f hf
 have f1:=zwy f hf
 have f2:=zwz f hf
 have f3:=zwB f
 have f4:=zwA f
 have f5:=zuI f hf
 have f6:=zcb f
 have g1:=zab f.sq hf
 generalize hr:d.frame f=r
 unfold Dp.frame at hr
 refine CallOk.body (F0:=[(0,.ptr i 0 0),(1,.agg (zC f))]) Tryz.func57 rfl Tryz.ntmps57 Tryz.results57 rfl (by kernel_rfl) rfl ?_
 refine PW.f (fun K k=>by simp (disch:=omega) only [go_sem,↓reduceIte,reduceCtorEq,f6];exact k) ?_
 have g2:=zb5 f.sq
 have g3:∀ X,List.take 135 (sqc f.sq++X)=sqc f.sq:=fun X=>List.take_left' g1
 have g4:∀ X n,List.drop (135+n) (sqc f.sq++X)=List.drop n X:=fun X n=>by rw [←List.drop_drop,List.drop_left' g1]
 have g5:∀ X,List.drop 141 (sqc f.sq++X)=List.drop 6 X:=fun X=>g4 X 6
 have g6:(pic f.hd).length=6:=rfl
 have g7:(pic f.hd).all PV.cell=true:=rfl
 refine PW.f (fun K k=>by simp (disch:=omega) only [go_sem,↓reduceIte,reduceCtorEq,f0,f1,f2,g1,g2,g3,g5,g6,g7,List.length_append,List.append_nil];exact k) ?_
 (repeat refine PW.seq ?_);refine PW.drawi [H.length+1] [(4,[0]),(12,[0]),(23,[0])] [] [] mix (by kernel_rfl) (by simp<;>omega) fun K hK=> ?_
 simp (disch:=omega) only [go_sem,↓reduceIte,reduceCtorEq,hi1,hi,f0,f3,f4,f5]
 refine hK _ _ ?_;clear hK K
 refine PW.f (fun K k=>by simp (disch:=omega) only [go_sem,↓reduceIte,reduceCtorEq,hi1,hj1,hi,hj];exact k) ?_
 refine PW.e ?_
 have hln:=zg0 hd.ok.sq
 have hnn:=hd.ok.n
 have hsh:=hd.ok.sh
 have hlk:=hd.ok.lk
 have hcn:=hd.cnt
 have hji:∀ K B,((H++K).set j B)[i]? =H[i]? :=fun K B=>by rw [List.getElem?_set_ne (by omega)];exact hi1 K
 have hjj:∀ K B,((H++K).set j B)[j]? =some B:=fun K B=>by rw [List.getElem?_set_self (by simp;omega)]
 (repeat refine PW.seq ?_);refine PW.cond (t:=_) rfl (fun h=> ?_) (fun h=> ?_)
 ·have ht:f.hd.ty=3:=by simpa using h
  rw [if_pos ht] at hr
  suffices hrest:∀ b,(b=true↔(d.lk≠0∨d.old= -1∨d.new= -1))→PW Tryz.prog _ _ [(0,.ptr i 0 0),(3,.ptr H.length 0 0),(4,.ptr (H.length+1) 0 0),(5,.int .i64 (d.en.length:Int)),(51,.bool b)] (H++[⟨123,0,zC f⟩,⟨74,0,zE (fmE f d.new (-1))⟩]) _ by
   (repeat refine PW.seq ?_);refine PW.rg rfl fun K hK=> ?_;simp (disch:=omega) only [go_sem,↓reduceIte,reduceCtorEq,hi1,hi];(repeat' ((first|refine zj ?_ ?_|refine zn ?_ ?_|refine zN ?_ ?_|refine VOh_cond ?_ ?_|refine zM ?_ ?_|refine And.intro ?_ ?_)<;>intro h<;>(try simp only [nqb] at h)<;>simp (disch:=omega) only [go_sem,↓reduceIte,reduceCtorEq,hi1,hi,h]))
   all_goals (refine hK _ _ ?_;clear hK K)
   all_goals (refine PW.at [0,3,4,5,51] (hrest _ ?_) rfl rfl)
   all_goals (simp_all;try omega)
  intro b hb
  (repeat refine PW.seq ?_);refine PW.cond (t:=_) rfl (fun h=> ?_) (fun h=> ?_)
  ·subst h
   rw [if_pos (hb.1 rfl)] at hr
   subst hr
   refine PW.ret ⟨_,rfl,?_⟩
   have e7:=ziH H [⟨123,0,zC f⟩,⟨74,0,zE (fmE f d.new (-1))⟩] i j d hil hjl
   rw [h'.self] at e7
   exact e7
  ·subst h
   rw [if_neg (fun h=>by have:=hb.2 h;cases this)] at hr
   refine PW.skip ?_
   obtain ⟨E,hE⟩:∃ E,E=zE (fmE f d.old d.new):=⟨_,rfl⟩
   have el:(PV.int .i64 f.f::PV.int .i64 f.l::PV.int .i64 f.hd.ty::PV.int .i64 d.old::PV.int .i64 d.new::PV.int .i64 0::(sqc f.sq++pic f.hd))=E:=hE.symm
   have e1:E.length=147:=by rw [hE];exact zcc _ hf
   have e2:List.take 147 E=E:=List.take_of_length_le (by omega)
   have e3:E.all PV.cell=true:=by rw [hE];simp [zE,zb5,PV.cell,pic]
   (repeat refine PW.seq ?_);refine PW.drawi [H.length+1] [(4,[0]),(60,[0]),(61,[0]),(62,[0]),(63,[0])] [] [] mix (by kernel_rfl) (by simp<;>omega) fun K hK=> ?_
   simp (disch:=omega) only [go_sem,↓reduceIte,reduceCtorEq,hi1,hi,zE,fmE,el]
   refine hK _ _ ?_;clear hK K
   (repeat refine PW.seq ?_);refine PW.drawi [j,i] [(68,[0]),(71,[0]),(0,[1]),(64,[1]),(65,[1]),(66,[1]),(67,[1]),(72,[1]),(73,[1])] [] [] mix (by kernel_rfl) (by simp<;>omega) fun K hK=> ?_
   simp (disch:=omega) only [go_sem,↓reduceIte,reduceCtorEq,hi1,hj1,hi,hj,hji,hjj,hln,e1,e2,e3]
   refine hK _ _ ?_;clear hK K
   have hX:=h'.two [⟨123,0,zC f⟩,⟨74,0,E⟩] { d with en:=d.en++[fmE f d.old d.new] }
   have hXg:(d.en++[fmE f d.old d.new]).length=d.en.length+1:=by simp
   have hsq:∀ e∈d.en++[fmE f d.old d.new],SqL e.2.1:=fun e he=>by
    rcases List.mem_append.1 he with he|he
    ·exact hd.ok.sq e he
    ·rw [List.mem_singleton] at he;rw [he];exact hf
   have sok:=show_ok { d with en:=d.en++[fmE f d.old d.new] } d.en.length i j _ hX ⟨hsq,by simp;omega,by simp;omega,hlk,by have:=hd.ok.new;simp;omega,by have:=hd.ok.old;simp;omega,hd.ok.wt⟩ (by simp) (by show d.sh<_;omega)
   rw [zsY _ _ _ _ _ _ _ hne] at sok
   have e7:=ziH H [⟨123,0,zC f⟩,⟨74,0,E⟩] i j (Dp.show { d with en:=d.en++[fmE f d.old d.new] } d.en.length) hil hjl
   rw [hr] at e7 sok
   refine PW.at [0,5] (?_:PW _ _ _ [(0,.ptr i 0 0),(5,.int .i64 (d.en.length:Int))] (tw (H++[⟨123,0,zC f⟩,⟨74,0,E⟩]) i j (dpB j { d with en:=d.en++[fmE f d.old d.new] }) (enB (d.en++[fmE f d.old d.new]))) _) rfl ?_
   ·generalize tw (H++[⟨123,0,zC f⟩,⟨74,0,E⟩]) i j (dpB j { d with en:=d.en++[fmE f d.old d.new] }) (enB (d.en++[fmE f d.old d.new]))=X at *
    refine PW.f (fun K k=>by simp (disch:=omega) only [go_sem,↓reduceIte,reduceCtorEq];refine VCx.call (sok) rfl ?_;simp (disch:=omega) only [go_sem,↓reduceIte,reduceCtorEq];exact k) ?_
    exact PW.ret ⟨_,rfl,e7⟩
   ·unfold tw
    rw [List.set_comm _ _ hne]
    have hl9:(List.flatMap zE d.en++E).length=(d.en.length+1) * 147:=by rw [List.length_append,hln,e1];omega
    unfold dpB enB
    simp only [zmw,hXg,←hE,hl9]
 ·have ht:¬ f.hd.ty=3:=by simpa using h
  rw [if_neg ht] at hr
  refine PW.skip ?_
  suffices hrest:∀ b,(b=true↔(f.hd.ty=2∧d.new= -1))→PW Tryz.prog _ _ [(0,.ptr i 0 0),(3,.ptr H.length 0 0),(4,.ptr (H.length+1) 0 0),(5,.int .i64 (d.en.length:Int)),(87,.bool b)] (H++[⟨123,0,zC f⟩,⟨74,0,zE (fmE f d.new (-1))⟩]) _ by
   (repeat refine PW.seq ?_);refine PW.rg rfl fun K hK=> ?_;simp (disch:=omega) only [go_sem,↓reduceIte,reduceCtorEq,hi1,hi,zE,fmE];(repeat' ((first|refine zj ?_ ?_|refine zn ?_ ?_|refine zN ?_ ?_|refine VOh_cond ?_ ?_|refine zM ?_ ?_|refine And.intro ?_ ?_)<;>intro h<;>(try simp only [nqb] at h)<;>simp (disch:=omega) only [go_sem,↓reduceIte,reduceCtorEq,hi1,hi,h]))
   all_goals (refine hK _ _ ?_;clear hK K)
   all_goals (refine PW.at [0,3,4,5,87] (hrest _ ?_) rfl rfl)
   all_goals (simp_all;try omega)
  intro b hb
  (repeat refine PW.seq ?_);refine PW.cond (t:=_) rfl (fun h=> ?_) (fun h=> ?_)
  ·subst h
   rw [if_pos (hb.1 rfl)] at hr
   subst hr
   refine PW.ret ⟨_,rfl,?_⟩
   have e7:=ziH H [⟨123,0,zC f⟩,⟨74,0,zE (fmE f d.new (-1))⟩] i j d hil hjl
   rw [h'.self] at e7
   exact e7
  ·subst h
   rw [if_neg (fun h=>by have:=hb.2 h;cases this)] at hr
   refine PW.skip ?_
   obtain ⟨E,hE⟩:∃ E,E=zE (fmE f d.new (-1)):=⟨_,rfl⟩
   have e1:E.length=147:=by rw [hE];exact zcc _ hf
   have e2:List.take 147 E=E:=List.take_of_length_le (by omega)
   have e3:E.all PV.cell=true:=by rw [hE];simp [zE,zb5,PV.cell,pic]
   rw [←hE]
   (repeat refine PW.seq ?_);refine PW.drawi [j,i] [(92,[0]),(95,[0]),(0,[1]),(88,[1]),(89,[1]),(90,[1]),(91,[1]),(96,[1]),(97,[1])] [] [] mix (by kernel_rfl) (by simp<;>omega) fun K hK=> ?_
   simp (disch:=omega) only [go_sem,↓reduceIte,reduceCtorEq,hi1,hj1,hi,hj,hji,hjj,hln,e1,e2,e3]
   refine hK _ _ ?_;clear hK K
   have hX:=h'.two [⟨123,0,zC f⟩,⟨74,0,E⟩] { d with en:=d.en++[fmE f d.new (-1)] }
   have hXg:(d.en++[fmE f d.new (-1)]).length=d.en.length+1:=by simp
   have hsq:∀ e∈d.en++[fmE f d.new (-1)],SqL e.2.1:=fun e he=>by
    rcases List.mem_append.1 he with he|he
    ·exact hd.ok.sq e he
    ·rw [List.mem_singleton] at he;rw [he];exact hf
   have hG:DpG { d with en:=d.en++[fmE f d.new (-1)] } 1000000:=⟨⟨hsq,by simp;omega,by simp;omega,hlk,by have:=hd.ok.new;simp;omega,by have:=hd.ok.old;simp;omega,hd.ok.wt⟩,by simp;omega⟩
   have fok:=zgW _ i j _ hX hG
   have ff:=zbh { d with en:=d.en++[fmE f d.new (-1)] }
   rw [zsY _ _ _ _ _ _ _ hne] at fok
   refine PW.at [0,5] (?_:PW _ _ _ [(0,.ptr i 0 0),(5,.int .i64 (d.en.length:Int))] (tw (H++[⟨123,0,zC f⟩,⟨74,0,E⟩]) i j (dpB j { d with en:=d.en++[fmE f d.new (-1)] }) (enB (d.en++[fmE f d.new (-1)]))) _) rfl ?_
   ·have e7:=fun e=>ziH H [⟨123,0,zC f⟩,⟨74,0,E⟩] i j e hil hjl
    have hlk2:=(zez hG).1.ok.lk
    generalize Dp.flush { d with en:=d.en++[fmE f d.new (-1)] }=e at *
    have g0:=zvw (H++[⟨123,0,zC f⟩,⟨74,0,E⟩]) i j e (enB e.en) (by rw [List.length_append];omega) hne
    have g1':∀ B,(tw (H++[⟨123,0,zC f⟩,⟨74,0,E⟩]) i j (dpB j e) (enB e.en)).set i B=tw (H++[⟨123,0,zC f⟩,⟨74,0,E⟩]) i j B (enB e.en):=fun B=>by
     unfold tw;rw [List.set_comm _ _ (by omega:j≠i),List.set_set]
    have g2':∀ B B',(tw (H++[⟨123,0,zC f⟩,⟨74,0,E⟩]) i j B B').set i=fun B2=>tw (H++[⟨123,0,zC f⟩,⟨74,0,E⟩]) i j B2 B':=fun B B'=>by
     funext B2;unfold tw;rw [List.set_comm _ _ (by omega:j≠i),List.set_set]
    have g3':∀ B B',(tw (H++[⟨123,0,zC f⟩,⟨74,0,E⟩]) i j B B')[i]? =some B:=fun B B'=>ztG _ _ _ _ _ ⟨by rw [List.length_append];omega,hne⟩
    generalize tw (H++[⟨123,0,zC f⟩,⟨74,0,E⟩]) i j (dpB j { d with en:=d.en++[fmE f d.new (-1)] }) (enB (d.en++[fmE f d.new (-1)]))=X at *
    refine PW.f (fun K k=>by simp (disch:=omega) only [go_sem,↓reduceIte,reduceCtorEq];refine VCx.call (fok) rfl ?_;simp (disch:=omega) only [go_sem,↓reduceIte,reduceCtorEq];exact k) ?_
    refine PW.f (fun K k=>by simp (disch:=omega) only [go_sem,↓reduceIte,reduceCtorEq,g0,g2',g3'];exact k) ?_
    refine PW.f (fun K k=>by simp (disch:=omega) only [go_sem,↓reduceIte,reduceCtorEq,g3',g2'];exact k) ?_
    have hm:(if e.lk - 1>0 then e.lk - 1 else 0)=max 0 (e.lk - 1):=by split<;>omega
    subst hr
    refine ⟨_,rfl,?_⟩
    rw [hm]
    exact e7 _
   ·unfold tw
    rw [List.set_comm _ _ hne]
    have hl9:(List.flatMap zE d.en++E).length=(d.en.length+1) * 147:=by rw [List.length_append,hln,e1];omega
    unfold dpB enB
    simp only [zmw,hXg,←hE,hl9]
theorem ztD (U:List (List UInt8)) (k:Nat) (hk:k<U.length):(U.flatMap zkm)[k]? =some (.slice (bs U[k]) U[k].length false):=by
 have:=zeA zkm 1 U k 0 hk (fun _ _=>rfl) (by omega)
 rwa [Nat.mul_one,Nat.add_zero] at this
theorem zvs (U:List (List UInt8)):(U.flatMap zkm).length=U.length:=by
 rw [zaD zkm 1 U fun _ _=>rfl,Nat.mul_one]
def itL (l:List It):List PV:=l.flatMap itc
theorem zcU (l:List It) (h:∀ x∈l,SqOk x.s):(itL l).length=l.length * 148:=zaD itc 148 l fun x hx=>ziw x (h x hx)
theorem zuw (l:List It) (h:∀ x∈l,SqOk x.s) (k:Nat) (hk:k<l.length):List.take 148 (List.drop (k * 148) (itL l))=itc l[k]:=zcn itc 148 l k hk fun x hx=>ziw x (h x hx)
theorem zfQ (l:List It) (h:∀ x∈l,SqOk x.s) (k r:Nat) (hk:k<l.length) (hr:r<148):(itL l)[k * 148+r]? =(itc l[k])[r]? :=zeA itc 148 l k r hk (fun x hx=>ziw x (h x hx)) hr
theorem ze9 (n:Nat) (l:List It):∀ x∈itL l,Scoped n x:=fun x hx=>by
 obtain ⟨u,_,hx⟩:=List.mem_flatMap.1 hx
 exact zuv _ _ x hx
theorem zfP (l:List It) (h:∀ x∈l,SqOk x.s) (k r n:Nat) (hk:k<l.length) (hr:r+n≤148):List.take n (List.drop (k * 148+r) (itL l))=List.take n (List.drop r (itc l[k])):=by
 rw [←zuw l h k hk,List.drop_take,List.take_take,Nat.min_eq_left (by omega),List.drop_drop]
def zrI (x:It):Bool:= !(decide (5000<x.pad)&&decide (x.pad≤1048576))
def ltI (x:It):Bool:=(zrI x&&(decide (x.U.length≤4)&&decide (x.us.length≤8)))&&((x.U.all fun u=>decide (u.length≤400))&&(x.us.all fun u=>decide (u.2.length≤3000)))
def ltB (l:List It):Bool:=decide (l.length≤60)&&l.all ltI
theorem zcI {α:Type} (f:α→Bool) (l:List α) (j:Nat) (h:j<l.length):(l.drop j).all f=(f l[j]&&(l.drop (j+1)).all f):=by
 rw [List.drop_eq_getElem_cons h];rfl
set_option maxHeartbeats 8000000 in
set_option maxRecDepth 100000 in
theorem zmd (l:List It) (f:Bool) (H:za) (hs:∀ x∈l,SqOk x.s):CallOk Tryz.prog 10 [.slice (itL l) l.length f] H (.bool (ltB l)) H:=by
 have ln:=zcU l hs
 have fin:∀ (b:Bool) (K:za),Fin H (.bool b) H (.bool b) (H++K):=fun b K=>Fin.base (.id (.bool _))
 have fin0:∀ (b:Bool),Fin H (.bool b) H (.bool b) H:=fun b=>Fin.now
 unfold ltB
 refine CallOk.body (F0:=[(0,.slice (itL l) l.length f)]) Tryz.func10 rfl Tryz.ntmps10 Tryz.results10 rfl (by kernel_rfl) rfl ?_
 refine PW.e ?_
 refine PW.e ?_
 by_cases h60:l.length≤60
 rotate_left
 ·have d1:decide ((60:Int)<(l.length:Int))=true:=decide_eq_true (by omega)
  (repeat refine PW.seq ?_);refine PW.cond (t:=_) rfl (fun h=> ?_) (fun h=> ?_)
  rotate_left
  ·rw [d1] at h;cases h
  rw [decide_eq_false h60,Bool.false_and]
  refine PW.e ?_
  refine PW.ret ⟨.bool false,by simp (disch:=omega) only [go_sem,↓reduceIte,reduceCtorEq,zd,zg,List.mapM_cons,List.mapM_nil,Option.pure_def,Option.bind_eq_bind,Option.bind_some,Array.toList],?_⟩
  exact fin0 _
 have d1:decide ((60:Int)<(l.length:Int))=false:=decide_eq_false (by omega)
 (repeat refine PW.seq ?_);refine PW.cond (t:=_) rfl (fun h=> ?_) (fun h=> ?_)
 ·rw [d1] at h;cases h
 rw [decide_eq_true h60,Bool.true_and]
 refine PW.skip ?_
 refine PW.e ?_
 (repeat refine PW.seq ?_);refine PW.block (PW.loop ?_)
 suffices hl1:∀ j:Nat,j≤l.length→(l.drop j).all ltI=l.all ltI→PL Tryz.prog _ _ [(0,.slice (itL l) l.length f),(3,.int .i64 (j:Int))] H _ by
  exact PL.at [0,3] (hl1 0 (by omega) rfl) rfl rfl
 intro j hj hf
 induction hd:l.length - j using Nat.strongRecOn generalizing j with
 | _ d ih=>
  refine PL.round ?_;refine PW.e ?_
  (repeat refine PW.seq ?_);refine PW.cond (t:=_) rfl (fun h=> ?_) (fun h=> ?_)
  ·have hjl:j<l.length:=by have:=of_decide_eq_true h;omega
   have ip:=zfQ l hs j 147 hjl (by omega)
   have hc:=zfP l hs j 139 8 hjl (by omega)
   have hx:=hs l[j] (List.getElem_mem hjl)
   rw [zr2 _ hx] at ip
   rw [ztg _ hx] at hc
   rw [zcI ltI l j hjl] at hf
   have hnext:=fun hf=>ih (l.length - (j+1)) (by omega) (j+1) (by omega) hf rfl
   generalize l[j]=x at *
   refine PW.skip ?_;(repeat refine PW.seq ?_);refine PW.block ?_
   have c1:=zg7 x.p x.U x.us
   have c2:=zf1 x.p x.U x.us
   have c6:(cdc x.p x.U x.us)[6]? =some (usr x.U):=rfl
   have c7:=ztp x.p x.U x.us
   have c8:List.drop 8 (cdc x.p x.U x.us)=[]:=rfl
   have ul:=zvs x.U
   have ql:=znO x.us
   refine PW.f (fun K k=>by simp (disch:=omega) only [go_sem,↓reduceIte,reduceCtorEq,ln,hc,c1,c2,c8,List.append_nil];exact k) ?_
   suffices hrest:PW Tryz.prog _ _ [(0,.slice (itL l) l.length f),(3,.int .i64 (j:Int)),(4,.ptr H.length 0 0),(46,.bool (!(zrI x&&(decide (x.U.length≤4)&&decide (x.us.length≤8)))))] (H++[⟨39,0,cdc x.p x.U x.us⟩]) _ by
    unfold zrI at hrest
    by_cases p1:5000<x.pad
    ·have e1:decide (5000<x.pad)=true:=decide_eq_true p1
     by_cases p2:x.pad≤1048576
     ·have e2:decide (x.pad≤1048576)=true:=decide_eq_true p2
      rw [e1,e2] at hrest
      refine PW.f (fun K k=>by simp (disch:=omega) only [go_sem,↓reduceIte,reduceCtorEq,ln,ip,e1,e2];exact k) ?_
      exact PW.at [0,3,4,46] hrest rfl rfl
     ·have e2:decide (x.pad≤1048576)=false:=decide_eq_false p2
      rw [e1,e2] at hrest
      by_cases p3:x.U.length≤4
      ·have e3:decide ((4:Int)<(x.U.length:Int))=false:=decide_eq_false (by omega)
       have e4:decide ((8:Int)<(x.us.length:Int))= !decide (x.us.length≤8):=by rw [Bool.eq_iff_iff];simp;omega
       rw [decide_eq_true p3] at hrest
       refine PW.f (fun K k=>by simp (disch:=omega) only [go_sem,↓reduceIte,reduceCtorEq,ln,ip,e1,e2,c2,c6,usr,c7,e3,e4];exact k) ?_
       exact PW.at [0,3,4,46] hrest (by simp [kp,slot,Nat.beq]) rfl
      ·have e3:decide ((4:Int)<(x.U.length:Int))=true:=decide_eq_true (by omega)
       rw [decide_eq_false p3] at hrest
       refine PW.f (fun K k=>by simp (disch:=omega) only [go_sem,↓reduceIte,reduceCtorEq,ln,ip,e1,e2,c2,c6,usr,c7,e3];exact k) ?_
       exact PW.at [0,3,4,46] hrest (by simp [kp,slot,Nat.beq]) rfl
    ·have e1:decide (5000<x.pad)=false:=decide_eq_false p1
     rw [e1] at hrest
     by_cases p3:x.U.length≤4
     ·have e3:decide ((4:Int)<(x.U.length:Int))=false:=decide_eq_false (by omega)
      have e4:decide ((8:Int)<(x.us.length:Int))= !decide (x.us.length≤8):=by rw [Bool.eq_iff_iff];simp;omega
      rw [decide_eq_true p3] at hrest
      refine PW.f (fun K k=>by simp (disch:=omega) only [go_sem,↓reduceIte,reduceCtorEq,ln,ip,e1,c2,c6,usr,c7,e3,e4];exact k) ?_
      exact PW.at [0,3,4,46] hrest (by simp [kp,slot,Nat.beq]) rfl
     ·have e3:decide ((4:Int)<(x.U.length:Int))=true:=decide_eq_true (by omega)
      rw [decide_eq_false p3] at hrest
      refine PW.f (fun K k=>by simp (disch:=omega) only [go_sem,↓reduceIte,reduceCtorEq,ln,ip,e1,c2,c6,usr,c7,e3];exact k) ?_
      exact PW.at [0,3,4,46] hrest (by simp [kp,slot,Nat.beq]) rfl
   unfold ltI at hf
   cases hA:(zrI x&&(decide (x.U.length≤4)&&decide (x.us.length≤8))) with
   | false=>
    rw [hA,Bool.false_and,Bool.false_and] at hf
    refine PW.t ?_
    refine PW.e ?_
    refine PW.ret ⟨.bool false,by simp (disch:=omega) only [go_sem,↓reduceIte,reduceCtorEq,zd,zg,List.mapM_cons,List.mapM_nil,Option.pure_def,Option.bind_eq_bind,Option.bind_some,Array.toList],?_⟩
    rw [show (l.all ltI)=false from hf.symm]
    exact fin _ _
   | true=>
    rw [hA,Bool.true_and] at hf
    simp only [Bool.and_eq_true,decide_eq_true_eq] at hA
    obtain ⟨_,hU4,hu8⟩:=hA
    refine PW.us ?_
    refine PW.e ?_
    (repeat refine PW.seq ?_);refine PW.block (PW.loop ?_)
    suffices hl2:∀ k:Nat,k≤x.U.length→((((x.U.drop k).all fun u=>decide (u.length≤400))&&(x.us.all fun u=>decide (u.2.length≤3000)))&&(l.drop (j+1)).all ltI)=l.all ltI→PL Tryz.prog _ _ [(0,.slice (itL l) l.length f),(3,.int .i64 (j:Int)),(4,.ptr H.length 0 0),(5,.int .i64 (k:Int))] (H++[⟨39,0,cdc x.p x.U x.us⟩]) _ by
     exact PL.at [0,3,4,5] (hl2 0 (by omega) hf) rfl rfl
    clear hf
    intro k hk hf
    induction hd2:x.U.length - k using Nat.strongRecOn generalizing k with
    | _ d2 ih2=>
     refine PL.round ?_;refine PW.f (fun K k=>by simp (disch:=omega) only [go_sem,↓reduceIte,reduceCtorEq,c2,c6,usr];exact k) ?_
     (repeat refine PW.seq ?_);refine PW.cond (t:=_) rfl (fun h=> ?_) (fun h=> ?_)
     ·have hkU:k<x.U.length:=by have:=of_decide_eq_true h;omega
      have ua:=ztD x.U k hkU
      rw [zcI _ x.U k hkU] at hf
      have hn2:=fun hf=>ih2 (x.U.length - (k+1)) (by omega) (k+1) (by omega) hf rfl
      generalize x.U[k]=u at *
      refine PW.skip ?_;(repeat refine PW.seq ?_);refine PW.block ?_
      by_cases h4:u.length≤400
      ·have d4:decide ((400:Int)<(u.length:Int))=false:=decide_eq_false (by omega)
       rw [decide_eq_true h4,Bool.true_and] at hf
       refine PW.f (fun K k=>by simp (disch:=omega) only [go_sem,↓reduceIte,reduceCtorEq,c2,c6,usr,ua,ul,d4];exact k) ?_
       refine PW.us ?_
       refine PW.e ?_
       exact PL.at [0,3,4,5] (hn2 hf) rfl rfl
      ·have d4:decide ((400:Int)<(u.length:Int))=true:=decide_eq_true (by omega)
       rw [decide_eq_false h4,Bool.false_and,Bool.false_and,Bool.false_and] at hf
       refine PW.f (fun K k=>by simp (disch:=omega) only [go_sem,↓reduceIte,reduceCtorEq,c2,c6,usr,ua,ul,d4];exact k) ?_
       refine PW.t ?_
       refine PW.e ?_
       refine PW.ret ⟨.bool false,by simp (disch:=omega) only [go_sem,↓reduceIte,reduceCtorEq,zd,zg,List.mapM_cons,List.mapM_nil,Option.pure_def,Option.bind_eq_bind,Option.bind_some,Array.toList],?_⟩
       rw [←hf]
       exact fin _ _
     ·have hkU:k=x.U.length:=by have:=of_decide_eq_false h;omega
      rw [hkU,List.drop_length,List.all_nil,Bool.true_and] at hf
      refine PW.exit ?_
      clear ih2
      refine PW.e ?_
      (repeat refine PW.seq ?_);refine PW.block (PW.loop ?_)
      suffices hl3:∀ k:Nat,k≤x.us.length→(((x.us.drop k).all fun u=>decide (u.2.length≤3000))&&(l.drop (j+1)).all ltI)=l.all ltI→PL Tryz.prog _ _ [(0,.slice (itL l) l.length f),(3,.int .i64 (j:Int)),(4,.ptr H.length 0 0),(6,.int .i64 (k:Int))] (H++[⟨39,0,cdc x.p x.U x.us⟩]) _ by
       exact PL.at [0,3,4,6] (hl3 0 (by omega) hf) rfl rfl
      clear hf hkU hk h hd2
      intro k hk hf
      induction hd3:x.us.length - k using Nat.strongRecOn generalizing k with
      | _ d3 ih3=>
       refine PL.round ?_;refine PW.f (fun K k=>by simp (disch:=omega) only [go_sem,↓reduceIte,reduceCtorEq,c2,c7];exact k) ?_
       (repeat refine PW.seq ?_);refine PW.cond (t:=_) rfl (fun h=> ?_) (fun h=> ?_)
       ·have hku:k<x.us.length:=by have:=of_decide_eq_true h;omega
        have u1:=uq_1 x.us k hku
        rw [zcI _ x.us k hku] at hf
        have hn3:=fun hf=>ih3 (x.us.length - (k+1)) (by omega) (k+1) (by omega) hf rfl
        generalize x.us[k]=u at *
        refine PW.skip ?_;(repeat refine PW.seq ?_);refine PW.block ?_
        by_cases h4:u.2.length≤3000
        ·have d4:decide ((3000:Int)<(u.2.length:Int))=false:=decide_eq_false (by omega)
         rw [decide_eq_true h4,Bool.true_and] at hf
         refine PW.f (fun K k=>by simp (disch:=omega) only [go_sem,↓reduceIte,reduceCtorEq,c2,c7,u1,ql,d4];exact k) ?_
         refine PW.us ?_
         refine PW.e ?_
         exact PL.at [0,3,4,6] (hn3 hf) rfl rfl
        ·have d4:decide ((3000:Int)<(u.2.length:Int))=true:=decide_eq_true (by omega)
         rw [decide_eq_false h4,Bool.false_and,Bool.false_and] at hf
         refine PW.f (fun K k=>by simp (disch:=omega) only [go_sem,↓reduceIte,reduceCtorEq,c2,c7,u1,ql,d4];exact k) ?_
         refine PW.t ?_
         refine PW.e ?_
         refine PW.ret ⟨.bool false,by simp (disch:=omega) only [go_sem,↓reduceIte,reduceCtorEq,zd,zg,List.mapM_cons,List.mapM_nil,Option.pure_def,Option.bind_eq_bind,Option.bind_some,Array.toList],?_⟩
         rw [←hf]
         exact fin _ _
       ·have hku:k=x.us.length:=by have:=of_decide_eq_false h;omega
        rw [hku,List.drop_length,List.all_nil,Bool.true_and] at hf
        refine PW.exit ?_
        refine PW.e ?_
        refine PL.keep [0,3] ?_
        refine PL.view (Vs.trim (F1:=[(0,.slice (itL l) l.length f),(3,.int .i64 ((j+1:Nat):Int))]) (H1:=H) (fun h=>h) (Nat.le_refl _) rfl ?_) (hnext hf)
        exact ⟨.id (zo (ze9 _ _)),.id (.int _ _),trivial⟩
  ·have hjl:j=l.length:=by have:=of_decide_eq_false h;omega
   subst hjl
   rw [List.drop_length] at hf
   rw [←hf]
   refine PW.exit ?_
   refine PW.e ?_
   refine PW.ret ⟨.bool true,by simp (disch:=omega) only [go_sem,↓reduceIte,reduceCtorEq,zd,zg,List.mapM_cons,List.mapM_nil,Option.pure_def,Option.bind_eq_bind,Option.bind_some,Array.toList],?_⟩
   exact fin0 _
end Go.Proofs.YtjgmdlcjbgiekaaGreatDoor.Sc
