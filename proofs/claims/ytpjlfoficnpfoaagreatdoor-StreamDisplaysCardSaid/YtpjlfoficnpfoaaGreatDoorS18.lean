/-
  Parts of the proof, put together in one text. No condition.
-/
import Derived.Test.YtpjlfoficnpfoaaGreatDoorS17
open Bool renaming false_and → qI, true_and → qQ, eq_iff_iff → qY
open List renaming getElem?_eq_some_iff → qA, length_append → qB, drop → qC, take → qD, getElem?_append_left → qE, getElem?_append_right → qF, set_append_left → qG, getElem?_eq_getElem → qH, take_of_length_le → qJ, set_comm → qK, mem_append → qL, append_nil → qM, length_modify → qN, flatMap_cons → qO, length_cons → qP, length_nil → qR, set_set → qS, mem_cons → qT, not_mem_nil → qU, getElem?_set_self → qW, take_left' → qX, set_append_right → qZ, mem_of_getElem? → jA, drop_drop → jB, mem_singleton → jC, mem_cons_self → jD, getElem_mem → jE, drop_length → jF, drop_left' → jG, mem_cons_of_mem → jJ, getElem?_set_ne → jK
open Nat renaming add_sub_cancel_left → qV, strongRecOn → jH, beq → jI
namespace Go.Proofs.YtpjlfoficnpfoaaGreatDoor.Sc
set_option linter.all false
open Pm Ty Go.RowKit
theorem zlH{α:Type}(enc:α→List PV)(N r:Nat)(v:PV)(hr:r<N)(f:α→α):∀(l:List α) (k:Nat),k<l.length→(∀ x∈l,(enc x).length=N)→(∀ x∈l,enc (f x)=(enc x).set r v)→(l.flatMap enc).set (k * N+r) v=(l.modify k f).flatMap enc
 | [],k,hk,_,_=>by simp at hk
 | x::l,0,_,h1,h2=>by
  have e1:=h1 x jD;rw[qO,Nat.zero_mul,Nat.zero_add,qG _ _ om,List.modify_zero_cons,qO,h2 x jD]
 | x::l,k+1,hk,h1,h2=>by have e1:=h1 x jD;have ih:=zlH enc N r v hr f l k (by simpa using hk) (fun y hy=>h1 y (jJ _ hy)) (fun y hy=>h2 y (jJ _ hy));rw[qO,qZ _ _ (by rw[e1,Nat.add_mul];omega),List.modify_succ_cons,qO,←ih,e1];congr 2;rw[Nat.add_mul];omega
def zo(e:Ent):List PV:=.int .i64 e.1.f:: .int .i64 e.1.l:: .int .i64 e.1.ty:: .int .i64 e.1.pa:: .int .i64 e.1.fu:: .int .i64 e.1.sh::(sqc e.2.1++pic e.2.2)
def dpB(j:Nat)(d:Dp):Blk:=⟨113,0,[.msl j (d.en.length * 147) 0 d.en.length 147 true,.int .i64 d.old,.int .i64 d.new,.bool d.wt,.int .i64 d.lk,.int .i64 d.sh]⟩
def enB(es:List Ent):Blk:=⟨71,es.length * 147,es.flatMap zo⟩
structure DpOk(d:Dp)(m:Nat):Prop where
 sq:∀ e∈d.en,SqL e.2.1
 n:d.en.length≤m
 sh:0≤d.sh∧d.sh≤d.en.length
 lk:0≤d.lk∧d.lk≤2
 new: -1≤d.new∧d.new<d.en.length
 old: -1≤d.old∧d.old<d.en.length
 wt:d.wt=true→0≤d.new
theorem zac(e:Ent)(h:SqL e.2.1):(zo e).length=147:=by simp only[zo,qP,qB,zag _ h,pic,qR]
theorem zdO{es:List Ent}(h:∀ e∈es,SqL e.2.1):(es.flatMap zo).length=es.length * 147:=zaT zo 147 es fun e he=>zac e (h e he)
theorem zyd{es:List Ent}(h:∀ e∈es,SqL e.2.1)(n:Nat)(hn:n<es.length)(v:Int):(es.flatMap zo).set (n * 147+5) (.int .i64 v)=(es.modify n (zV v)).flatMap zo:=zlH zo 147 5 (.int .i64 v) om (zV v) es n hn (fun e he=>zac e (h e he)) fun e _=>rfl
structure DpH(H:za)(i j:Nat)(d:Dp):Prop where
 gi:H[i]? =some (dpB j d)
 gj:H[j]? =some (enB d.en)
 ne:i≠j
theorem zyS(H:za)(i j:Nat)(d:Dp)(B:Blk)(hil:i<H.length)(hne:i≠j):(tw H i j (dpB j d) B)[i]? =some ⟨113,0,[.msl j (d.en.length * 147) 0 d.en.length 147 true,.int .i64 d.old,.int .i64 d.new,.bool d.wt,.int .i64 d.lk,.int .i64 d.sh]⟩:=zwS _ _ _ _ _ ⟨hil,hne⟩
theorem show_ok(d:Dp)(n:Nat)(i j:Nat)(H:za)(h:DpH H i j d)(hd:DpOk d 1000000)(hn:n<d.en.length)(hs:d.sh<1000000):CallOk Tryz.prog 105 [.ptr i 0 0,.int .i64 (n:Int)] H (.tup []) (tw H i j (dpB j (d.show n)) (enB (d.show n).en)):=by obtain⟨hi,hj,hne⟩:=h;unfold dpB at hi;unfold enB at hj;have hil:i<H.length:=(qA.1 hi).1;have hjl:j<H.length:=(qA.1 hj).1;have hln:=zdO hd.sq;have hji:∀ B,(H.set j B)[i]? =H[i]? :=fun B=>jK om;have hsh:=hd.sh;have hset:=zyd hd.sq n hn d.sh;have hnn:=hd.n;refine CallOk.go Tryz.func105 Tryz.ntmps105 Tryz.results105 ?_;(repeat refine PW.seq ?_);refine PW.drawi [j] [(7,[0]),(13,[0]),(14,[0]),(15,[0])] [] [] mix kr (by simp<;>omega) fun K hK=> ?_;refine sqx (nq2 hi (nq2 hj (nq2 hln hset))) ?_;refine hK _ _ ?_;clear hK K;refine PW.g (nq2 hji hi) ?_;refine⟨_,rfl,.inl ⟨rfl,?_⟩⟩;unfold tw dpB enB Dp.show;rw[qK _ _ hne,Int.toNat_natCast];simp only[qN]
theorem Dp.show_ok{d:Dp}{m n:Nat}(hd:DpOk d m)(hs:d.sh<d.en.length):DpOk (d.show n) m:=by
 obtain⟨h1,h2,h3,h4,h5,h6,h7⟩:=hd;refine⟨fun e he=> ?_,?_,?_,h4,?_,?_,h7⟩
 ·simp only[Dp.show]at he;obtain⟨k,hk,rfl⟩:=List.getElem_of_mem he;rw[List.getElem_modify];rw[qN]at hk;have h0:=h1 d.en[k] (jE hk);split
  ·exact h0
  ·exact h0
 all_goals simp only[Dp.show,qN]
 ·exact h2
 ·omega
 ·exact h5
 ·exact h6
structure DpG(d:Dp)(m:Nat):Prop where
 ok:DpOk d m
 cnt:d.sh+(if d.wt then 1 else 0)≤d.en.length
theorem zsJ(d:Dp):d.flush.sh=d.sh+if d.wt then 1 else 0:=by
 unfold Dp.flush;split
 ·rfl
 ·omega
theorem ziP(d:Dp):d.flush.en.length=d.en.length:=by
 unfold Dp.flush;split
 ·simp[Dp.show]
 ·rfl
theorem zfc{d:Dp}{m:Nat}(h:DpG d m):DpG d.flush m∧d.flush.sh+0≤d.en.length:=by
 obtain⟨hd,hc⟩:=h;unfold Dp.flush;by_cases hw:d.wt=true
 ·rw[if_pos hw]at hc ⊢;have h7:=hd.wt hw;obtain⟨n,hn⟩:∃ n:Nat,d.new=(n:Int):=⟨d.new.toNat,om⟩;rw[hn];obtain⟨q1,q2,q3,q4,q5,q6,q7⟩:=Dp.show_ok (n:=n) hd om;refine⟨⟨⟨q1,q2,q3,q4,q5,q6,fun h=>by cases h⟩,?_⟩,?_⟩
  ·simp only[Dp.show,qN,Bool.false_eq_true,if_false];omega
  ·simp only[Dp.show];omega
 ·rw[if_neg hw]at hc ⊢;exact⟨⟨hd,by rw[if_neg hw];omega⟩,om⟩
theorem zhL(d:Dp)(i j:Nat)(H:za)(h:DpH H i j d)(hd:DpG d 1000000):CallOk Tryz.prog 51 [.ptr i 0 0] H (.tup []) (tw H i j (dpB j d.flush) (enB d.flush.en)):=by
 have h':=h;obtain⟨hi,hj,hne⟩:=h;have hil:i<H.length:=(qA.1 hi).1;have hjl:j<H.length:=(qA.1 hj).1;have hw:=hd.ok.wt;have hcn:=hd.cnt;have hnew:=hd.ok.new;have hnn:=hd.ok.n;unfold dpB at hi;generalize hr:d.flush=r;unfold Dp.flush at hr;refine CallOk.go Tryz.func51 Tryz.ntmps51 Tryz.results51 ?_;refine PW.g hi ?_;refine PW.c (fun h=> ?_) (fun h=> ?_)
 ·obtain⟨n,hn⟩:∃ n:Nat,d.new=(n:Int):=⟨d.new.toNat,by have:=hw h;omega⟩;rw[if_pos h]at hr hcn;have sok:=show_ok d n i j H h' hd.ok om om;have g0:=zyS H i j (d.show n) (enB (d.show n).en) hil hne;rw[hn]at hi hr;generalize d.show n=d' at *;refine PW.f (fun K k=>by simp(disch:=omega) only[go_sem,↓reduceIte,reduceCtorEq,hi];refine VCx.call (sok) rfl ?_;simp(disch:=omega) only[go_sem,↓reduceIte,reduceCtorEq];exact k) ?_;refine PW.g g0 ?_;refine⟨_,rfl,.inl ⟨rfl,?_⟩⟩;subst hr;unfold tw dpB;rw[qK _ _ hne,qS,qK _ _ (by omega:j≠i)]
 ·rw[if_neg (by rw[h];simp)]at hr;subst hr;refine PW.skip ?_;refine⟨_,rfl,.inl ⟨rfl,?_⟩⟩;unfold tw;rw[zer h'.gi,zer h'.gj]
theorem zi6(H K:za)(i j:Nat)(A B:Blk)(hi:i<H.length)(hj:j<H.length):tw (H++K) i j A B=tw H i j A B++K:=by unfold tw;rw[qG _ _ hi,qG _ _ (by rw[List.length_set];exact hj)]
theorem zsW(n j:Nat)(d:Dp)(h:j<n):∀ x∈(dpB j d).cells,Scoped n x:=fun x hx=>by
 simp only[dpB,qT,qU,or_false]at hx;rcases hx with rfl|rfl|rfl|rfl|rfl|rfl
 ·exact .msl h
 ·exact .int _ _
 ·exact .int _ _
 ·exact .bool _
 ·exact .int _ _
 ·exact .int _ _
theorem zaL(n:Nat)(es:List Ent):∀ x∈(enB es).cells,Scoped n x:=fun x hx=>by
 obtain⟨e,_,hx⟩:=List.mem_flatMap.1 hx;simp only[zo,qT,qL]at hx;rcases hx with rfl|rfl|rfl|rfl|rfl|rfl|hx|hx
 ·exact .int _ _
 ·exact .int _ _
 ·exact .int _ _
 ·exact .int _ _
 ·exact .int _ _
 ·exact .int _ _
 ·exact zbm _ _ x hx
 ·exact znV _ _ x hx
theorem zj5(H K:za)(i j:Nat)(d:Dp)(hi:i<H.length)(hj:j<H.length):Fin H (.tup []) (tw H i j (dpB j d) (enB d.en)) (.tup []) (tw (H++K) i j (dpB j d) (enB d.en)):=by rw[zi6 _ _ _ _ _ _ hi hj];exact Fin.cut rfl (by rw[zwR]) (zvY (zsW _ _ _ hj) (zaL _ _)) (.id (.tup sp))
theorem zoB(es:List Ent)(e:Ent):(es++[e]).flatMap zo=es.flatMap zo++zo e:=by rw[List.flatMap_append,qO,List.flatMap_nil,qM]
theorem DpH.two{H:za}{i j:Nat}{d:Dp}(h:DpH H i j d)(K:za)(d':Dp):DpH (tw (H++K) i j (dpB j d') (enB d'.en)) i j d':=by have hil:i<H.length:=(qA.1 h.gi).1;have hjl:j<H.length:=(qA.1 h.gj).1;exact⟨zwS _ _ _ _ _ ⟨by rw[qB];omega,h.ne⟩,tw_1 _ _ _ _ _ (by rw[qB];omega),h.ne⟩
theorem DpH.self{H:za}{i j:Nat}{d:Dp}(h:DpH H i j d)(K:za):tw (H++K) i j (dpB j d) (enB d.en)=H++K:=by have hil:i<H.length:=(qA.1 h.gi).1;have hjl:j<H.length:=(qA.1 h.gj).1;rw[zi6 _ _ _ _ _ _ hil hjl];unfold tw;rw[zer h.gi,zer h.gj]
theorem zu9{d:Dp}{f:FmY}{m:Nat}(h:DpG d m)(hf:SqL f.sq):DpG (d.frame f) (m+1):=by
 obtain⟨⟨h1,h2,h3,h4,h5,h6,h7⟩,h8⟩:=h;have hsq:∀{pa fu:Int},∀ e∈d.en++[fmE f pa fu],SqL e.2.1:=fun e he=>by
  rcases qL.1 he with he|he
  ·exact h1 e he
  ·rw[jC]at he;rw[he];exact hf
 unfold Dp.frame;split
 ·split
  ·exact⟨⟨h1,om,h3,h4,h5,h6,h7⟩,h8⟩
  ·have:=Dp.show_ok (d:={ d with en:=d.en++[fmE f d.old d.new] }) (m:=m+1) (n:=d.en.length) ⟨hsq,by simp;omega,by simp;omega,h4,by simp;omega,by simp;omega,h7⟩ (by simp;split at h8<;>omega);refine⟨this,?_⟩;simp only[Dp.show,qN,qB,qP,qR];show d.sh+1+(if d.wt=true then(1:Int)else 0)≤_;split at h8
   ·rename_i hw;rw[if_pos hw];omega
   ·rename_i hw;rw[if_neg hw];omega
 ·split
  ·exact⟨⟨h1,om,h3,h4,h5,h6,h7⟩,h8⟩
  ·obtain⟨⟨⟨q1,q2,q3,q4,q5,q6,q7⟩,q8⟩,q9⟩:=zfc (d:={ d with en:=d.en++[fmE f d.new (-1)] }) (m:=m+1) ⟨⟨hsq,by simp;omega,by simp;omega,h4,by simp;omega,by simp;omega,h7⟩,by simp;split at h8<;>omega⟩;have hl:=ziP { d with en:=d.en++[fmE f d.new (-1)] };have hs:(Dp.flush { d with en:=d.en++[fmE f d.new (-1)] }).sh=d.sh+if d.wt then 1 else 0:=zsJ _
   have hf:=zbC { d with en:=d.en++[fmE f d.new (-1)] };generalize Dp.flush { d with en:=d.en++[fmE f d.new (-1)] }=e at *;simp only[qB,qP,qR]at hl q9;obtain⟨f1,f2,f3,f4⟩:=hf;rw[f3]at q8;simp only[Bool.false_eq_true,if_false]at q8;have hcn:e.sh≤d.en.length:=by rw[hs];exact h8
   refine⟨⟨q1,q2,q3,?_,?_,?_,?_⟩,?_⟩
   ·simp only;omega
   ·simp only;omega
   ·simp only;omega
   ·intro _;simp only;omega
   ·simp only[if_true];omega
def zC(f:FmY):List PV:=.int .i64 f.f:: .int .i64 f.l::(sqc f.sq++(pic f.hd++[.bool f.rs,.int .i64 f.lk]))
theorem zch(f:FmY)(h:SqL f.sq):(zC f).length=145:=by simp only[zC,qP,qB,zag _ h,pic,qR]
theorem zzO(f:FmY)(h:SqL f.sq):qD 135 (qC 2 (zC f))=sqc f.sq:=by show qD 135 (sqc f.sq++_)=_;exact qX (zag _ h)
theorem zws(f:FmY)(h:SqL f.sq)(n:Nat):qC (137+n) (zC f)=qC n (pic f.hd++[.bool f.rs,.int .i64 f.lk]):=by
 have e:qC 137 (zC f)=pic f.hd++[.bool f.rs,.int .i64 f.lk]:=by show qC 135 (sqc f.sq++_)=_;exact jG (zag _ h)
 rw[←jB,e]
theorem zzP(f:FmY)(h:SqL f.sq):qD 6 (qC 137 (zC f))=pic f.hd:=by have:=zws f h 0;rw[this];rfl
theorem zmY(f:FmY)(h:SqL f.sq)(n:Nat):(zC f)[137+n]? =(pic f.hd++[.bool f.rs,.int .i64 f.lk])[n]? :=by have:=congrArg (·[0]?) (zws f h n);simpa using this
theorem zzR(f:FmY):(zC f)[0]? =some (.int .i64 f.f):=rfl
theorem zzQ(f:FmY):(zC f)[1]? =some (.int .i64 f.l):=rfl
theorem zx3(f:FmY)(h:SqL f.sq):(zC f)[137]? =some (.int .i64 f.hd.ty):=zmY f h 0
theorem zx4(f:FmY)(h:SqL f.sq):(zC f)[143]? =some (.bool f.rs):=zmY f h 6
theorem zx5(f:FmY)(h:SqL f.sq):(zC f)[144]? =some (.int .i64 f.lk):=zmY f h 7
theorem zbf(s:Sq):(sqc s).all PV.cell=true:=by simp[sqc,bs,PV.cell]
theorem zcu(f:FmY):(zC f).all PV.cell=true:=by simp[zC,sqc,bs,pic,PV.cell]
set_option maxHeartbeats 2000000 in
set_option maxRecDepth 100000 in
theorem zvn(d:Dp)(f:FmY)(i j:Nat)(H:za)(h:DpH H i j d)(hd:DpG d 900000)(hf:SqL f.sq):CallOk Tryz.prog 52 [.ptr i 0 0,.agg (zC f)] H (.tup []) (tw H i j (dpB j (d.frame f)) (enB (d.frame f).en)):=by
 have h':=h;obtain⟨hi,hj,hne⟩:=h;have hil:i<H.length:=(qA.1 hi).1;have hjl:j<H.length:=(qA.1 hj).1;have hi1:∀ K,(H++K)[i]? =H[i]? :=fun K=>qE hil;have hj1:∀ K,(H++K)[j]? =H[j]? :=fun K=>qE hjl;unfold dpB at hi;unfold enB at hj;have f0:=zch f hf;have f1:=zzO f hf;have f2:=zzP f hf;have f3:=zzR f;have f4:=zzQ f;have f5:=zx3 f hf;have f6:=zcu f;have g1:=zag f.sq hf;generalize hr:d.frame f=r;unfold Dp.frame at hr;refine CallOk.go Tryz.func52 Tryz.ntmps52 Tryz.results52 ?_;refine PW.g f6 ?_;have g2:=zbf f.sq;have g3:∀ X,qD 135 (sqc f.sq++X)=sqc f.sq:=fun X=>qX g1;have g4:∀ X n,qC (135+n) (sqc f.sq++X)=qC n X:=fun X n=>by rw[←jB,jG g1]
 have g5:∀ X,qC 141 (sqc f.sq++X)=qC 6 X:=fun X=>g4 X 6;have g6:(pic f.hd).length=6:=rfl;have g7:(pic f.hd).all PV.cell=true:=rfl;refine PW.f (fun K k=>by simp(disch:=omega) only[go_sem,↓reduceIte,reduceCtorEq,f0,f1,f2,g1,g2,g3,g5,g6,g7,qB,qM];exact k) ?_;(repeat refine PW.seq ?_);refine PW.drawi [H.length+1] [(4,[0]),(12,[0]),(23,[0])] [] [] mix kr (by simp<;>omega) fun K hK=> ?_;refine sqx (nq2 hi1 (nq2 hi (nq2 f0 (nq2 f3 (nq2 f4 f5))))) ?_;refine hK _ _ ?_;clear hK K;refine PW.g (nq2 hi1 (nq2 hj1 (nq2 hi hj))) ?_;refine PW.e ?_;have hln:=zdO hd.ok.sq;have hnn:=hd.ok.n;have hsh:=hd.ok.sh;have hlk:=hd.ok.lk;have hcn:=hd.cnt;have hji:∀ K B,((H++K).set j B)[i]? =H[i]? :=fun K B=>by rw[jK om];exact hi1 K
 have hjj:∀ K B,((H++K).set j B)[j]? =some B:=fun K B=>by rw[qW (by simp;omega)]
 refine PW.c (fun h=> ?_) (fun h=> ?_)
 ·have ht:f.hd.ty=3:=by simpa using h
  rw[if_pos ht]at hr;suffices hrest:∀ b,(b=true↔(d.lk≠0∨d.old= -1∨d.new= -1))→PW Tryz.prog _ _ [(0,.ptr i 0 0),(3,.ptr H.length 0 0),(4,.ptr (H.length+1) 0 0),(5,.int .i64 (d.en.length:Int)),(51,.bool b)] (H++[⟨118,0,zC f⟩,⟨71,0,zo (fmE f d.new (-1))⟩]) _ by
   (repeat refine PW.seq ?_);refine PW.rg rfl fun K hK=> ?_;simp(disch:=omega) only[go_sem,↓reduceIte,reduceCtorEq,hi1,hi];(repeat'((first|refine zh ?_ ?_|refine zk ?_ ?_|refine zU ?_ ?_|refine VOh_cond ?_ ?_|refine zT ?_ ?_|refine And.intro ?_ ?_)<;>intro h<;>(try simp only[nqb]at h)<;>simp(disch:=omega) only[go_sem,↓reduceIte,reduceCtorEq,hi1,hi,h]));all_goals(refine hK _ _ ?_;clear hK K)
   all_goals(refine PW.at [0,3,4,5,51] (hrest _ ?_) rfl rfl)
   all_goals(simp_all;try omega)
  intro b hb;refine PW.c (fun h=> ?_) (fun h=> ?_)
  ·subst h;rw[if_pos (hb.1 rfl)]at hr;subst hr;refine PW.ret ⟨_,rfl,?_⟩;have e7:=zj5 H [⟨118,0,zC f⟩,⟨71,0,zo (fmE f d.new (-1))⟩] i j d hil hjl;rw[h'.self]at e7;exact e7
  ·subst h;rw[if_neg (fun h=>by have:=hb.2 h;cases this)]at hr;refine PW.skip ?_;obtain⟨E,hE⟩:∃ E,E=zo (fmE f d.old d.new):=⟨_,rfl⟩;have el:(PV.int .i64 f.f::PV.int .i64 f.l::PV.int .i64 f.hd.ty::PV.int .i64 d.old::PV.int .i64 d.new::PV.int .i64 0::(sqc f.sq++pic f.hd))=E:=hE.symm;have e1:E.length=147:=by rw[hE];exact zac _ hf
   have e2:qD 147 E=E:=qJ om;have e3:E.all PV.cell=true:=by rw[hE];simp[zo,zbf,PV.cell,pic]
   (repeat refine PW.seq ?_);refine PW.drawi [H.length+1] [(4,[0]),(60,[0]),(61,[0]),(62,[0]),(63,[0])] [] [] mix kr (by simp<;>omega) fun K hK=> ?_;simp(disch:=omega) only[go_sem,↓reduceIte,reduceCtorEq,hi1,hi,zo,fmE,el];refine hK _ _ ?_;clear hK K;(repeat refine PW.seq ?_);refine PW.drawi [j,i] [(68,[0]),(71,[0]),(0,[1]),(64,[1]),(65,[1]),(66,[1]),(67,[1]),(72,[1]),(73,[1])] [] [] mix kr (by simp<;>omega) fun K hK=> ?_;refine sqx (nq2 hi1 (nq2 hj1 (nq2 hi (nq2 hj (nq2 hji (nq2 hjj (nq2 hln (nq2 e1 (nq2 e2 e3))))))))) ?_;refine hK _ _ ?_;clear hK K;have hX:=h'.two [⟨118,0,zC f⟩,⟨71,0,E⟩] { d with en:=d.en++[fmE f d.old d.new] };have hXg:(d.en++[fmE f d.old d.new]).length=d.en.length+1:=by simp
   have hsq:∀ e∈d.en++[fmE f d.old d.new],SqL e.2.1:=fun e he=>by
    rcases qL.1 he with he|he
    ·exact hd.ok.sq e he
    ·rw[jC]at he;rw[he];exact hf
   have sok:=show_ok { d with en:=d.en++[fmE f d.old d.new] } d.en.length i j _ hX ⟨hsq,by simp;omega,by simp;omega,hlk,by have:=hd.ok.new;simp;omega,by have:=hd.ok.old;simp;omega,hd.ok.wt⟩ sp (by show d.sh<_;omega);rw[zvX _ _ _ _ _ _ _ hne]at sok;have e7:=zj5 H [⟨118,0,zC f⟩,⟨71,0,E⟩] i j (Dp.show { d with en:=d.en++[fmE f d.old d.new] } d.en.length) hil hjl;rw[hr]at e7 sok;refine PW.at [0,5] (?_:PW _ _ _ [(0,.ptr i 0 0),(5,.int .i64 (d.en.length:Int))] (tw (H++[⟨118,0,zC f⟩,⟨71,0,E⟩]) i j (dpB j { d with en:=d.en++[fmE f d.old d.new] }) (enB (d.en++[fmE f d.old d.new]))) _) rfl ?_
   ·generalize tw (H++[⟨118,0,zC f⟩,⟨71,0,E⟩]) i j (dpB j { d with en:=d.en++[fmE f d.old d.new] }) (enB (d.en++[fmE f d.old d.new]))=X at *;refine PW.f (fun K k=>by simp(disch:=omega) only[go_sem,↓reduceIte,reduceCtorEq];refine VCx.call (sok) rfl ?_;simp(disch:=omega) only[go_sem,↓reduceIte,reduceCtorEq];exact k) ?_;exact PW.ret ⟨_,rfl,e7⟩
   ·unfold tw;rw[qK _ _ hne];have hl9:(List.flatMap zo d.en++E).length=(d.en.length+1) * 147:=by rw[qB,hln,e1];omega
    unfold dpB enB;simp only[zoB,hXg,←hE,hl9]
 ·have ht:¬ f.hd.ty=3:=by simpa using h
  rw[if_neg ht]at hr;refine PW.skip ?_;suffices hrest:∀ b,(b=true↔(f.hd.ty=2∧d.new= -1))→PW Tryz.prog _ _ [(0,.ptr i 0 0),(3,.ptr H.length 0 0),(4,.ptr (H.length+1) 0 0),(5,.int .i64 (d.en.length:Int)),(87,.bool b)] (H++[⟨118,0,zC f⟩,⟨71,0,zo (fmE f d.new (-1))⟩]) _ by
   (repeat refine PW.seq ?_);refine PW.rg rfl fun K hK=> ?_;simp(disch:=omega) only[go_sem,↓reduceIte,reduceCtorEq,hi1,hi,zo,fmE];(repeat'((first|refine zh ?_ ?_|refine zk ?_ ?_|refine zU ?_ ?_|refine VOh_cond ?_ ?_|refine zT ?_ ?_|refine And.intro ?_ ?_)<;>intro h<;>(try simp only[nqb]at h)<;>simp(disch:=omega) only[go_sem,↓reduceIte,reduceCtorEq,hi1,hi,h]));all_goals(refine hK _ _ ?_;clear hK K)
   all_goals(refine PW.at [0,3,4,5,87] (hrest _ ?_) rfl rfl)
   all_goals(simp_all;try omega)
  intro b hb;refine PW.c (fun h=> ?_) (fun h=> ?_)
  ·subst h;rw[if_pos (hb.1 rfl)]at hr;subst hr;refine PW.ret ⟨_,rfl,?_⟩;have e7:=zj5 H [⟨118,0,zC f⟩,⟨71,0,zo (fmE f d.new (-1))⟩] i j d hil hjl;rw[h'.self]at e7;exact e7
  ·subst h;rw[if_neg (fun h=>by have:=hb.2 h;cases this)]at hr;refine PW.skip ?_;obtain⟨E,hE⟩:∃ E,E=zo (fmE f d.new (-1)):=⟨_,rfl⟩;have e1:E.length=147:=by rw[hE];exact zac _ hf
   have e2:qD 147 E=E:=qJ om;have e3:E.all PV.cell=true:=by rw[hE];simp[zo,zbf,PV.cell,pic]
   rw[←hE];(repeat refine PW.seq ?_);refine PW.drawi [j,i] [(92,[0]),(95,[0]),(0,[1]),(88,[1]),(89,[1]),(90,[1]),(91,[1]),(96,[1]),(97,[1])] [] [] mix kr (by simp<;>omega) fun K hK=> ?_;refine sqx (nq2 hi1 (nq2 hj1 (nq2 hi (nq2 hj (nq2 hji (nq2 hjj (nq2 hln (nq2 e1 (nq2 e2 e3))))))))) ?_;refine hK _ _ ?_;clear hK K;have hX:=h'.two [⟨118,0,zC f⟩,⟨71,0,E⟩] { d with en:=d.en++[fmE f d.new (-1)] };have hXg:(d.en++[fmE f d.new (-1)]).length=d.en.length+1:=by simp
   have hsq:∀ e∈d.en++[fmE f d.new (-1)],SqL e.2.1:=fun e he=>by
    rcases qL.1 he with he|he
    ·exact hd.ok.sq e he
    ·rw[jC]at he;rw[he];exact hf
   have hG:DpG { d with en:=d.en++[fmE f d.new (-1)] } 1000000:=⟨⟨hsq,by simp;omega,by simp;omega,hlk,by have:=hd.ok.new;simp;omega,by have:=hd.ok.old;simp;omega,hd.ok.wt⟩,by simp;omega⟩;have fok:=zhL _ i j _ hX hG;have ff:=zbC { d with en:=d.en++[fmE f d.new (-1)] };rw[zvX _ _ _ _ _ _ _ hne]at fok;refine PW.at [0,5] (?_:PW _ _ _ [(0,.ptr i 0 0),(5,.int .i64 (d.en.length:Int))] (tw (H++[⟨118,0,zC f⟩,⟨71,0,E⟩]) i j (dpB j { d with en:=d.en++[fmE f d.new (-1)] }) (enB (d.en++[fmE f d.new (-1)]))) _) rfl ?_
   ·have e7:=fun e=>zj5 H [⟨118,0,zC f⟩,⟨71,0,E⟩] i j e hil hjl;have hlk2:=(zfc hG).1.ok.lk;generalize Dp.flush { d with en:=d.en++[fmE f d.new (-1)] }=e at *;have g0:=zyS (H++[⟨118,0,zC f⟩,⟨71,0,E⟩]) i j e (enB e.en) (by rw[qB];omega) hne;have g1':∀ B,(tw (H++[⟨118,0,zC f⟩,⟨71,0,E⟩]) i j (dpB j e) (enB e.en)).set i B=tw (H++[⟨118,0,zC f⟩,⟨71,0,E⟩]) i j B (enB e.en):=fun B=>by unfold tw;rw[qK _ _ (by omega:j≠i),qS]
    have g2':∀ B B',(tw (H++[⟨118,0,zC f⟩,⟨71,0,E⟩]) i j B B').set i=fun B2=>tw (H++[⟨118,0,zC f⟩,⟨71,0,E⟩]) i j B2 B':=fun B B'=>by funext B2;unfold tw;rw[qK _ _ (by omega:j≠i),qS]
    have g3':∀ B B',(tw (H++[⟨118,0,zC f⟩,⟨71,0,E⟩]) i j B B')[i]? =some B:=fun B B'=>zwS _ _ _ _ _ ⟨by rw[qB];omega,hne⟩;generalize tw (H++[⟨118,0,zC f⟩,⟨71,0,E⟩]) i j (dpB j { d with en:=d.en++[fmE f d.new (-1)] }) (enB (d.en++[fmE f d.new (-1)]))=X at *;refine PW.f (fun K k=>by simp(disch:=omega) only[go_sem,↓reduceIte,reduceCtorEq];refine VCx.call (fok) rfl ?_;simp(disch:=omega) only[go_sem,↓reduceIte,reduceCtorEq];exact k) ?_;refine PW.f (fun K k=>by simp(disch:=omega) only[go_sem,↓reduceIte,reduceCtorEq,g0,g2',g3'];exact k) ?_;refine PW.f (fun K k=>by simp(disch:=omega) only[go_sem,↓reduceIte,reduceCtorEq,g3',g2'];exact k) ?_;have hm:(if e.lk - 1>0 then e.lk - 1 else 0)=max 0 (e.lk - 1):=by split<;>omega
    subst hr;refine⟨_,rfl,?_⟩;rw[hm];exact e7 _
   ·unfold tw;rw[qK _ _ hne];have hl9:(List.flatMap zo d.en++E).length=(d.en.length+1) * 147:=by rw[qB,hln,e1];omega
    unfold dpB enB;simp only[zoB,hXg,←hE,hl9]
theorem zp7(U:List (List UInt8))(k:Nat)(hk:k<U.length):(U.flatMap zh5)[k]? =some (.slice (bs U[k]) U[k].length false):=by have:=zcv zh5 1 U k 0 hk (fun _ _=>rfl) om;rwa[Nat.mul_one,Nat.add_zero]at this
theorem zvW(U:List (List UInt8)):(U.flatMap zh5).length=U.length:=by rw[zaT zh5 1 U fun _ _=>rfl,Nat.mul_one]
def itL(l:List It):List PV:=l.flatMap itc
theorem zbl(l:List It)(h:∀ x∈l,SqOk x.s):(itL l).length=l.length * 148:=zaT itc 148 l fun x hx=>ze7 x (h x hx)
theorem zmR(l:List It)(h:∀ x∈l,SqOk x.s)(k:Nat)(hk:k<l.length):qD 148 (qC (k * 148) (itL l))=itc l[k]:=zbR itc 148 l k hk fun x hx=>ze7 x (h x hx)
theorem zaK(l:List It)(h:∀ x∈l,SqOk x.s)(k r:Nat)(hk:k<l.length)(hr:r<148):(itL l)[k * 148+r]? =(itc l[k])[r]? :=zcv itc 148 l k r hk (fun x hx=>ze7 x (h x hx)) hr
theorem zcL(n:Nat)(l:List It):∀ x∈itL l,Scoped n x:=fun x hx=>by obtain⟨u,_,hx⟩:=List.mem_flatMap.1 hx;exact zxN _ _ x hx
theorem ze8(l:List It)(h:∀ x∈l,SqOk x.s)(k r n:Nat)(hk:k<l.length)(hr:r+n≤148):qD n (qC (k * 148+r) (itL l))=qD n (qC r (itc l[k])):=by rw[←zmR l h k hk,List.drop_take,List.take_take,Nat.min_eq_left om,jB]
def zuH(x:It):Bool:= !(decide (5000<x.pad)&&decide (x.pad≤1048576))
def ltI(x:It):Bool:=(zuH x&&(decide (x.U.length≤4)&&decide (x.us.length≤8)))&&((x.U.all fun u=>decide (u.length≤400))&&(x.us.all fun u=>decide (u.2.length≤3000)))
def ltB(l:List It):Bool:=decide (l.length≤60)&&l.all ltI
theorem zcn{α:Type}(f:α→Bool)(l:List α)(j:Nat)(h:j<l.length):(l.drop j).all f=(f l[j]&&(l.drop (j+1)).all f):=by rw[List.drop_eq_getElem_cons h];rfl
set_option maxHeartbeats 8000000 in
set_option maxRecDepth 100000 in
theorem zn9(l:List It)(f:Bool)(H:za)(hs:∀ x∈l,SqOk x.s):CallOk Tryz.prog 8 [.slice (itL l) l.length f] H (.bool (ltB l)) H:=by
 have ln:=zbl l hs;have fin:∀(b:Bool) (K:za),Fin H (.bool b) H (.bool b) (H++K):=fun b K=>Fin.base (.id (.bool _));have fin0:∀(b:Bool),Fin H (.bool b) H (.bool b) H:=fun b=>Fin.now;unfold ltB;refine CallOk.go Tryz.func8 Tryz.ntmps8 Tryz.results8 ?_;refine PW.e ?_;refine PW.e ?_;by_cases h60:l.length≤60;rotate_left
 ·have d1:decide ((60:Int)<(l.length:Int))=true:=decide_eq_true om;refine PW.c (fun h=> ?_) (fun h=> ?_);rotate_left
  ·rw[d1]at h;cases h
  rw[decide_eq_false h60,qI];refine PW.e ?_;refine PW.v (.bool false) ?_;exact fin0 _
 have d1:decide ((60:Int)<(l.length:Int))=false:=decide_eq_false om;refine PW.c (fun h=> ?_) (fun h=> ?_)
 ·rw[d1]at h;cases h
 rw[decide_eq_true h60,qQ];refine PW.skip ?_;refine PW.e ?_;refine PW.l ?_;suffices hl1:∀ j:Nat,j≤l.length→(l.drop j).all ltI=l.all ltI→PL Tryz.prog _ _ [(0,.slice (itL l) l.length f),(3,.int .i64 (j:Int))] H _ by exact PL.at [0,3] (hl1 0 om rfl) rfl rfl
 intro j hj hf;induction hd:l.length - j using jH generalizing j with
 | _ d ih=>
  refine PL.round ?_;refine PW.e ?_;refine PW.c (fun h=> ?_) (fun h=> ?_)
  ·have hjl:j<l.length:=ot h;have ip:=zaK l hs j 147 hjl om;have hc:=ze8 l hs j 139 8 hjl om;have hx:=hs l[j] (jE hjl);rw[zjQ _ hx]at ip;rw[zoe _ hx]at hc;rw[zcn ltI l j hjl]at hf;have hnext:=fun hf=>ih (l.length - (j+1)) om (j+1) om hf rfl;generalize l[j]=x at *;refine PW.skip ?_;refine PW.b ?_;have c1:=zfk x.p x.U x.us;have c2:=zfj x.p x.U x.us;have c6:(cdc x.p x.U x.us)[6]? =some (usr x.U):=rfl;have c7:=zta x.p x.U x.us;have c8:qC 8 (cdc x.p x.U x.us)=[]:=rfl;have ul:=zvW x.U;have ql:=zi4 x.us;refine PW.f (fun K k=>by simp(disch:=omega) only[go_sem,↓reduceIte,reduceCtorEq,ln,hc,c1,c2,c8,qM];exact k) ?_;suffices hrest:PW Tryz.prog _ _ [(0,.slice (itL l) l.length f),(3,.int .i64 (j:Int)),(4,.ptr H.length 0 0),(46,.bool (!(zuH x&&(decide (x.U.length≤4)&&decide (x.us.length≤8)))))] (H++[⟨39,0,cdc x.p x.U x.us⟩]) _ by
    unfold zuH at hrest;by_cases p1:5000<x.pad
    ·have e1:decide (5000<x.pad)=true:=decide_eq_true p1;by_cases p2:x.pad≤1048576
     ·have e2:decide (x.pad≤1048576)=true:=decide_eq_true p2;rw[e1,e2]at hrest;refine PW.g (nq2 ln (nq2 ip (nq2 e1 e2))) ?_;exact PW.at [0,3,4,46] hrest rfl rfl
     ·have e2:decide (x.pad≤1048576)=false:=decide_eq_false p2;rw[e1,e2]at hrest;by_cases p3:x.U.length≤4
      ·have e3:decide ((4:Int)<(x.U.length:Int))=false:=decide_eq_false om;have e4:decide ((8:Int)<(x.us.length:Int))= !decide (x.us.length≤8):=by rw[qY];simp;omega
       rw[decide_eq_true p3]at hrest;refine PW.f (fun K k=>by simp(disch:=omega) only[go_sem,↓reduceIte,reduceCtorEq,ln,ip,e1,e2,c2,c6,usr,c7,e3,e4];exact k) ?_;exact PW.at [0,3,4,46] hrest (by simp[kp,slot,jI]) rfl
      ·have e3:decide ((4:Int)<(x.U.length:Int))=true:=decide_eq_true om;rw[decide_eq_false p3]at hrest;refine PW.f (fun K k=>by simp(disch:=omega) only[go_sem,↓reduceIte,reduceCtorEq,ln,ip,e1,e2,c2,c6,usr,c7,e3];exact k) ?_;exact PW.at [0,3,4,46] hrest (by simp[kp,slot,jI]) rfl
    ·have e1:decide (5000<x.pad)=false:=decide_eq_false p1;rw[e1]at hrest;by_cases p3:x.U.length≤4
     ·have e3:decide ((4:Int)<(x.U.length:Int))=false:=decide_eq_false om;have e4:decide ((8:Int)<(x.us.length:Int))= !decide (x.us.length≤8):=by rw[qY];simp;omega
      rw[decide_eq_true p3]at hrest;refine PW.f (fun K k=>by simp(disch:=omega) only[go_sem,↓reduceIte,reduceCtorEq,ln,ip,e1,c2,c6,usr,c7,e3,e4];exact k) ?_;exact PW.at [0,3,4,46] hrest (by simp[kp,slot,jI]) rfl
     ·have e3:decide ((4:Int)<(x.U.length:Int))=true:=decide_eq_true om;rw[decide_eq_false p3]at hrest;refine PW.f (fun K k=>by simp(disch:=omega) only[go_sem,↓reduceIte,reduceCtorEq,ln,ip,e1,c2,c6,usr,c7,e3];exact k) ?_;exact PW.at [0,3,4,46] hrest (by simp[kp,slot,jI]) rfl
   unfold ltI at hf;cases hA:(zuH x&&(decide (x.U.length≤4)&&decide (x.us.length≤8)))with
   | false=>
    rw[hA,qI,qI]at hf;refine PW.t ?_;refine PW.e ?_;refine PW.v (.bool false) ?_;rw[show(l.all ltI)=false from hf.symm];exact fin _ _
   | true=>
    rw[hA,qQ]at hf;simp only[Bool.and_eq_true,decide_eq_true_eq]at hA;obtain⟨_,hU4,hu8⟩:=hA;refine PW.us ?_;refine PW.e ?_;refine PW.l ?_;suffices hl2:∀ k:Nat,k≤x.U.length→((((x.U.drop k).all fun u=>decide (u.length≤400))&&(x.us.all fun u=>decide (u.2.length≤3000)))&&(l.drop (j+1)).all ltI)=l.all ltI→PL Tryz.prog _ _ [(0,.slice (itL l) l.length f),(3,.int .i64 (j:Int)),(4,.ptr H.length 0 0),(5,.int .i64 (k:Int))] (H++[⟨39,0,cdc x.p x.U x.us⟩]) _ by exact PL.at [0,3,4,5] (hl2 0 om hf) rfl rfl
    clear hf;intro k hk hf;induction hd2:x.U.length - k using jH generalizing k with
    | _ d2 ih2=>
     refine PL.round ?_;refine PW.f (fun K k=>by simp(disch:=omega) only[go_sem,↓reduceIte,reduceCtorEq,c2,c6,usr];exact k) ?_;refine PW.c (fun h=> ?_) (fun h=> ?_)
     ·have hkU:k<x.U.length:=ot h;have ua:=zp7 x.U k hkU;rw[zcn _ x.U k hkU]at hf;have hn2:=fun hf=>ih2 (x.U.length - (k+1)) om (k+1) om hf rfl;generalize x.U[k]=u at *;refine PW.skip ?_;refine PW.b ?_;by_cases h4:u.length≤400
      ·have d4:decide ((400:Int)<(u.length:Int))=false:=decide_eq_false om;rw[decide_eq_true h4,qQ]at hf;refine PW.f (fun K k=>by simp(disch:=omega) only[go_sem,↓reduceIte,reduceCtorEq,c2,c6,usr,ua,ul,d4];exact k) ?_;refine PW.us ?_;refine PW.e ?_;exact PL.at [0,3,4,5] (hn2 hf) rfl rfl
      ·have d4:decide ((400:Int)<(u.length:Int))=true:=decide_eq_true om;rw[decide_eq_false h4,qI,qI,qI]at hf;refine PW.f (fun K k=>by simp(disch:=omega) only[go_sem,↓reduceIte,reduceCtorEq,c2,c6,usr,ua,ul,d4];exact k) ?_;refine PW.t ?_;refine PW.e ?_;refine PW.v (.bool false) ?_;rw[←hf];exact fin _ _
     ·have hkU:k=x.U.length:=ofF h;rw[hkU,jF,List.all_nil,qQ]at hf;refine PW.exit ?_;clear ih2;refine PW.e ?_;refine PW.l ?_;suffices hl3:∀ k:Nat,k≤x.us.length→(((x.us.drop k).all fun u=>decide (u.2.length≤3000))&&(l.drop (j+1)).all ltI)=l.all ltI→PL Tryz.prog _ _ [(0,.slice (itL l) l.length f),(3,.int .i64 (j:Int)),(4,.ptr H.length 0 0),(6,.int .i64 (k:Int))] (H++[⟨39,0,cdc x.p x.U x.us⟩]) _ by exact PL.at [0,3,4,6] (hl3 0 om hf) rfl rfl
      clear hf hkU hk h hd2;intro k hk hf;induction hd3:x.us.length - k using jH generalizing k with
      | _ d3 ih3=>
       refine PL.round ?_;refine PW.g (nq2 c2 c7) ?_;refine PW.c (fun h=> ?_) (fun h=> ?_)
       ·have hku:k<x.us.length:=ot h;have u1:=uq_1 x.us k hku;rw[zcn _ x.us k hku]at hf;have hn3:=fun hf=>ih3 (x.us.length - (k+1)) om (k+1) om hf rfl;generalize x.us[k]=u at *;refine PW.skip ?_;refine PW.b ?_;by_cases h4:u.2.length≤3000
        ·have d4:decide ((3000:Int)<(u.2.length:Int))=false:=decide_eq_false om;rw[decide_eq_true h4,qQ]at hf;refine PW.g (nq2 c2 (nq2 c7 (nq2 u1 (nq2 ql d4)))) ?_;refine PW.us ?_;refine PW.e ?_;exact PL.at [0,3,4,6] (hn3 hf) rfl rfl
        ·have d4:decide ((3000:Int)<(u.2.length:Int))=true:=decide_eq_true om;rw[decide_eq_false h4,qI,qI]at hf;refine PW.g (nq2 c2 (nq2 c7 (nq2 u1 (nq2 ql d4)))) ?_;refine PW.t ?_;refine PW.e ?_;refine PW.v (.bool false) ?_;rw[←hf];exact fin _ _
       ·have hku:k=x.us.length:=ofF h;rw[hku,jF,List.all_nil,qQ]at hf;refine PW.exit ?_;refine PW.e ?_;refine PL.keep [0,3] ?_;refine PL.view (Vs.trim (F1:=[(0,.slice (itL l) l.length f),(3,.int .i64 ((j+1:Nat):Int))]) (H1:=H) (fun h=>h) (Nat.le_refl _) rfl ?_) (hnext hf);exact⟨.id (zj (zcL _ _)),.id (.int _ _),trivial⟩
  ·have hjl:j=l.length:=ofF h;subst hjl;rw[jF]at hf;rw[←hf];refine PW.exit ?_;refine PW.e ?_;refine PW.v (.bool true) ?_;exact fin0 _
theorem zoa(h:Pi)(H:za):CallOk Tryz.prog 63 [.agg (pic h)] H (.bool (zcV h)) H:=by obtain⟨ty,st,od,tf,rp,al⟩:=h;refine CallOk.body (F0:=[(0,.agg (pic ⟨ty,st,od,tf,rp,al⟩))]) Tryz.func63 rfl Tryz.ntmps63 Tryz.results63 rfl kr rfl ?_;(repeat'(first|refine PW.seq ?_|refine PW.skip ?_|refine PW.block ?_|((first|refine PW.rg rfl fun K hK=> ?_|refine PW.draw mix kr fun K hK=> ?_);simp(maxSteps:=3000000) (disch:=omega) only[go_sem,↓reduceIte,reduceCtorEq,pic])|((first|refine zh ?_ ?_|refine zk ?_ ?_|refine And.intro ?_ ?_)<;>intro h<;>(try simp only[nqb]at h)<;>simp(maxSteps:=3000000) (disch:=omega) only[go_sem,↓reduceIte,reduceCtorEq,pic,h])|(refine hK _ _ ?_;clear hK K)|(refine PW.cond (t:=_) rfl (fun h=> ?_) (fun h=> ?_)<;>(try(cases h;done))<;>(try simp only[nqb]at h))));all_goals((refine PW.ret ⟨_,rfl,?_⟩;first|refine .inl ⟨?_,rfl⟩|refine Fin.base (.id' ?_ (.bool _))|refine Fin.base (.id' ?_ (.int _ _)));(simp_all[zcV,slot,jI]<;>first|rfl|omega|(rw[qY];simp;done)|(rw[qY];simp;omega)))
set_option maxHeartbeats 4000000 in
theorem zlo(a b:Pi)(H:za):CallOk Tryz.prog 64 [.agg (pic a),.agg (pic b)] H (.bool (zb7 a b)) H:=by
 obtain⟨ty,st,od,tf,rp,al⟩:=a;obtain⟨ty',st',od',tf',rp',al'⟩:=b;refine CallOk.body (F0:=[(0,.agg (pic ⟨ty,st,od,tf,rp,al⟩)),(1,.agg (pic ⟨ty',st',od',tf',rp',al'⟩))]) Tryz.func64 rfl Tryz.ntmps64 Tryz.results64 rfl kr rfl ?_;(repeat'(first|refine PW.seq ?_|refine PW.skip ?_|refine PW.block ?_|((first|refine PW.rg rfl fun K hK=> ?_|refine PW.draw mix kr fun K hK=> ?_);simp(maxSteps:=3000000) (disch:=omega) only[go_sem,↓reduceIte,reduceCtorEq,pic])|((first|refine zh ?_ ?_|refine zk ?_ ?_|refine And.intro ?_ ?_)<;>intro h<;>(try simp only[nqb]at h)<;>simp(maxSteps:=3000000) (disch:=omega) only[go_sem,↓reduceIte,reduceCtorEq,pic,h])|(refine hK _ _ ?_;clear hK K)|(refine PW.cond (t:=_) rfl (fun h=> ?_) (fun h=> ?_)<;>(try(cases h;done))<;>(try simp only[nqb]at h))));all_goals((refine PW.ret ⟨_,rfl,?_⟩;first|refine .inl ⟨?_,rfl⟩|refine Fin.base (.id' ?_ (.bool _))|refine Fin.base (.id' ?_ (.int _ _)));simp_all[zb7,slot,jI])
 all_goals grind
def zbr(a:As):List PV:=sqc a.sq++[.bool a.kn,.int .i64 a.op,.bool a.rs,.int .i64 a.lk]
def asB(a:As):Blk:=⟨194,0,zbr a⟩
theorem zci(a:As)(h:SqL a.sq):(zbr a).length=139:=by simp only[zbr,qB,zag _ h,qP,qR]
theorem zkn(a:As)(h:SqL a.sq)(n:Nat):(zbr a)[135+n]? =[.bool a.kn,.int .i64 a.op,.bool a.rs,.int .i64 a.lk][n]? :=by unfold zbr;rw[qF (by rw[zag _ h];omega),zag _ h,qV]
theorem zto(a:As)(h:SqL a.sq):(zbr a)[135]? =some (.bool a.kn):=zkn a h 0
theorem zyv(a:As)(h:SqL a.sq):(zbr a)[136]? =some (.int .i64 a.op):=zkn a h 1
theorem zyu(a:As)(h:SqL a.sq):(zbr a)[137]? =some (.bool a.rs):=zkn a h 2
theorem zyw(a:As)(h:SqL a.sq):(zbr a)[138]? =some (.int .i64 a.lk):=zkn a h 3
theorem zng(a:As)(h:SqL a.sq):qD 135 (zbr a)=sqc a.sq:=qX (zag _ h)
theorem zgH(a:As)(h:SqL a.sq)(n:Nat)(v:PV):(zbr a).set (135+n) v=sqc a.sq++[.bool a.kn,.int .i64 a.op,.bool a.rs,.int .i64 a.lk].set n v:=by unfold zbr;rw[qZ _ _ (by rw[zag _ h];omega),zag _ h,qV]
theorem zvF(a:As)(h:SqL a.sq)(v:Bool):(zbr a).set 135 (.bool v)=zbr { a with kn:=v }:=zgH a h 0 _
theorem zkm(a:As)(h:SqL a.sq)(v:Int):(zbr a).set 136 (.int .i64 v)=zbr { a with op:=v }:=zgH a h 1 _
theorem zoN(a:As)(h:SqL a.sq)(v:Bool):(zbr a).set 137 (.bool v)=zbr { a with rs:=v }:=zgH a h 2 _
theorem zgG(a:As)(h:SqL a.sq)(v:Int):(zbr a).set 138 (.int .i64 v)=zbr { a with lk:=v }:=zgH a h 3 _
theorem ztn(n:Nat)(a:As):∀ x∈zbr a,Scoped n x:=fun x hx=>by
 simp only[zbr,qL,qT,qU,or_false]at hx;rcases hx with hx|rfl|rfl|rfl|rfl
 ·exact zbm _ _ x hx
 ·exact .bool _
 ·exact .int _ _
 ·exact .bool _
 ·exact .int _ _
def fm0:FmY:=⟨0,0,sq0,zxp,false,0⟩
theorem zs8(a:As)(i:Nat)(H:za)(h:H[i]? =some (asB a))(ha:SqL a.sq):CallOk Tryz.prog 176 [.ptr i 0 0] H (.tup []) (H.set i (asB a.clr)):=by
 have hil:i<H.length:=(qA.1 h).1;unfold asB at h;have hs:∀ B,(H.set i B)[i]? =some B:=fun B=>by simp[hil]
 have l1:=zci a ha;have l2:=zci { a with rs:=true } ha;have s1:=zoN a ha true;have s2:=zgG { a with rs:=true } ha (-1);refine CallOk.go Tryz.func176 Tryz.ntmps176 Tryz.results176 ?_;refine PW.f (fun K k=>by simp(maxSteps:=3000000) (disch:=omega) only[go_sem,↓reduceIte,reduceCtorEq,h,hs,l1,l2,s1,s2,qS];exact k) ?_;refine⟨_,rfl,.inl ⟨rfl,?_⟩⟩;rfl
theorem zom(n:Nat)(f:FmY):∀ x∈zC f,Scoped n x:=fun x hx=>by
 simp only[zC,pic,qL,qT,qU,or_false]at hx;rcases hx with rfl|rfl|hx|(rfl|rfl|rfl|rfl|rfl|rfl)|rfl|rfl
 ·exact .int _ _
 ·exact .int _ _
 ·exact zbm _ _ x hx
 ·exact .int _ _
 ·exact .int _ _
 ·exact .int _ _
 ·exact .bool _
 ·exact .bool _
 ·exact .bool _
 ·exact .bool _
 ·exact .int _ _
theorem zko(H K:za)(i:Nat)(a:As)(v:PV)(hi:i<H.length)(hv:Scoped H.length v):Fin H v (H.set i (asB a)) v (H.set i (asB a)++K):=Fin.cut rfl sp (fun h=>HSc.set h (ztn _ _)) (.id (by rw[List.length_set];exact hv))
set_option maxHeartbeats 2000000 in
set_option maxRecDepth 100000 in
theorem zvx(a:As)(f l:Int)(h:Pi)(i:Nat)(H:za)(hi:H[i]? =some (asB a))(ha:SqL a.sq):CallOk Tryz.prog 252 [.ptr i 0 0,.int .i64 f,.int .i64 l,.agg (pic h)] H (.agg (zC ⟨f,l,a.sq,h,a.rs,a.lk⟩)) (H.set i (asB { a with rs:=false,lk:= -1 })):=by
 have hil:i<H.length:=(qA.1 hi).1;unfold asB at hi;have hi1:∀ K,(H++K)[i]? =H[i]? :=fun K=>qE hil;have hs:∀ K B,((H++K).set i B)[i]? =some B:=fun K B=>by rw[qW (by simp;omega)]
 have l1:=zci a ha;have l2:=zci { a with rs:=false } ha;have s1:=zoN a ha false;have s2:=zgG { a with rs:=false } ha (-1);have t1:=zng a ha;have t2:=zyu a ha;have t3:=zyw a ha;have p1:(pic h).length=6:=rfl;have p2:(pic h).all PV.cell=true:=rfl;have p3:qD 6 (pic h)=pic h:=rfl;have q1:=zag a.sq ha;have q2:=zbf a.sq;have q3:∀ X,qD 135 (sqc a.sq++X)=sqc a.sq:=fun X=>qX q1;have q4:∀ X n,qC (135+n) (sqc a.sq++X)=qC n X:=fun X n=>by rw[←jB,jG q1]
 have q5:∀ X n,qD (135+n) (sqc a.sq++X)=sqc a.sq++qD n X:=fun X n=>by rw[List.take_append,q1,qJ om,qV]
 have q6:∀ X,qC 141 (sqc a.sq++X)=qC 6 X:=fun X=>q4 X 6;have q7:∀ X,qC 142 (sqc a.sq++X)=qC 7 X:=fun X=>q4 X 7;have q8:∀ X,qC 143 (sqc a.sq++X)=qC 8 X:=fun X=>q4 X 8;have q9:∀ X,qD 141 (sqc a.sq++X)=sqc a.sq++qD 6 X:=fun X=>q5 X 6;have q10:∀ X,qD 142 (sqc a.sq++X)=sqc a.sq++qD 7 X:=fun X=>q5 X 7;refine CallOk.go Tryz.func252 Tryz.ntmps252 Tryz.results252 ?_;refine PW.g p2 ?_;(repeat refine PW.seq ?_);refine PW.drawg mix kr fun K hK=> ?_;simp(maxSteps:=3000000) (disch:=omega) only[go_sem,↓reduceIte,reduceCtorEq,hi1,hi,l1,t1,t2,t3,p1,p2,p3,q1,q2,q3,q6,q7,q8,q9,q10,qB,pic];refine hK _ _ ?_;clear hK K;obtain⟨W,hW⟩:∃ W,W=zC ⟨f,l,a.sq,h,a.rs,a.lk⟩:=⟨_,rfl⟩;refine PW.at [0,8,9] (?_:PW _ _ _ [(0,.ptr i 0 0),(8,.ptr (H.length+1) 0 0),(9,.ptr (H.length+2) 0 0)] (H++[⟨35,0,pic h⟩,⟨118,0,zC fm0⟩,⟨118,0,W⟩]) _) rfl (by rw[hW];rfl);have w1:W.length=145:=by rw[hW];exact zch _ ha
 have w2:qD 145 W=W:=qJ om;have w3:W.all PV.cell=true:=by rw[hW];exact zcu _
 have z1:(zC fm0).length=145:=rfl;have z2:∀ X,qC 145 (zC fm0)=X↔[]=X:=fun X=>by rw[show qC 145 (zC fm0)=[]from rfl]
 have z3:qC 145 (zC fm0)=[]:=rfl;refine PW.f (fun K k=>by simp(maxSteps:=3000000) (disch:=omega) only[go_sem,↓reduceIte,reduceCtorEq,hi1,hi,hs,l1,l2,s1,s2,qS];exact k) ?_;refine PW.at [8,9] (?_:PW _ _ _ [(8,.ptr (H.length+1) 0 0),(9,.ptr (H.length+2) 0 0)] (H.set i (asB { a with rs:=false,lk:= -1 })++[⟨35,0,pic h⟩,⟨118,0,zC fm0⟩,⟨118,0,W⟩]) _) rfl (by rw[qG _ _ hil];rfl);have hsl:(H.set i (asB { a with rs:=false,lk:= -1 })).length=H.length:=by simp
 have af:=fun K=>zko H K i { a with rs:=false,lk:= -1 } (.agg (zC ⟨f,l,a.sq,h,a.rs,a.lk⟩)) hil (.agg fun j x hx=>zom _ _ x (jA hx));generalize H.set i (asB { a with rs:=false,lk:= -1 })=X at *;rw[←hsl];refine PW.f (fun K k=>by simp(maxSteps:=3000000) (disch:=omega) only[go_sem,↓reduceIte,reduceCtorEq,w1,w2,w3,z1,z3,qM];exact k) ?_;refine PW.w (.agg W) (nq2 w1 w2) ?_;rw[hW];exact af _
theorem zjR(L:List It)(hL:∀ x∈L,SqOk x.s)(k:Nat)(hk:k<L.length):qD 6 (qC (k * 148+139) (itL L))=pic L[k].p:=by rw[ze8 L hL k 139 6 hk om];exact zwm _ (hL _ (jE hk))
theorem zoh(L:List It)(k:Nat)(hk:k<L.length):hdA L (k:Int)=L[k].p:=by unfold hdA;rw[Int.toNat_natCast,qH hk]
def fmO:Option FmY→PV
 | none=>.tup [.agg (zC fm0),.bool false]
 | some f=>.tup [.agg (zC f),.bool true]
theorem zmZ(n:Nat)(r:Option FmY):Scoped n (fmO r):=by
 have h:∀ f b,Scoped n (.tup [.agg (zC f),.bool b]):=fun f b=>.tup fun j x hx=>by
  have hx:=jA hx;simp only[qT,qU,or_false]at hx;rcases hx with rfl|rfl
  ·exact .agg fun j x hx=>zom _ _ x (jA hx)
  ·exact .bool _
 cases r<;>exact h _ _
def OpR(L:List It)(n:Int):Prop:=n= -1∨∃ k:Nat,n=(k:Int)∧k<L.length
set_option maxHeartbeats 4000000 in
set_option maxRecDepth 100000 in
theorem ztm(L:List It)(fl:Bool)(k:Nat)(hk:k<L.length)(hL:∀ x∈L,SqOk x.s)(a:As)(i:Nat)(H:za)(hi:H[i]? =some (asB a))(ha:SqOk a.sq)(hop:OpR L a.op):
  CallOk Tryz.prog 175 [.ptr i 0 0,.slice (itL L) L.length fl,.int .i64 (k:Int)] H (fmO (a.pic L k L[k].p).2) (H.set i (asB (a.pic L k L[k].p).1)):=by
 have hil:i<H.length:=(qA.1 hi).1;have ha':=ha.toL;unfold asB at hi;have hi1:∀ K,(H++K)[i]? =H[i]? :=fun K=>qE hil;have hs:∀ K B,((H++K).set i B)[i]? =some B:=fun K B=>by rw[qW (by simp;omega)]
 have l1:=zci a ha';have s1:=zkm a ha' (-1);have t1:=zyv a ha';have ln:=zbl L hL;have ip:=zjR L hL k hk;have pv:=fun K=>zcQ a.sq L[k].p K ha;have cm:=fun f l (h:Pi) (X:za) (hX:X[i]? =some (asB { a with op:= -1 }))=>zvx { a with op:= -1 } f l h i X hX ha';have ld:=fun K=>zoa L[k].p K;generalize hr:a.pic L k L[k].p=r;unfold As.pic at hr;generalize L[k].p=g at *;have p1:(pic g).length=6:=rfl;have p2:(pic g).all PV.cell=true:=rfl;have p3:qD 6 (pic g)=pic g:=rfl;have p4:(pic g)[1]? =some (.int .i64 g.st):=rfl;have z1:(zC fm0).length=145:=rfl;have z3:qC 145 (zC fm0)=[]:=rfl;have z4:qD 145 (zC fm0)=zC fm0:=rfl;have z5:(zC fm0).all PV.cell=true:=rfl;have p6:qC 6 (pic g)=[]:=rfl;have af:=fun b o K=>zko H K i b (fmO o) hil (zmZ _ _);refine CallOk.go Tryz.func175 Tryz.ntmps175 Tryz.results175 ?_;refine PW.e ?_;refine PW.at [0,1,2,6,7] (?_:PW _ _ _ [(0,.ptr i 0 0),(1,.slice (itL L) L.length fl),(2,.int .i64 (k:Int)),(6,.ptr H.length 0 0),(7,.bool false)] (H++[⟨118,0,zC fm0⟩]) _) rfl rfl;refine PW.view (Vs.place 35) ?_;rw[List.append_assoc];(repeat refine PW.seq ?_);refine PW.drawi [H.length+1] [(8,[0])] [(8,0)] [] mix kr (by simp<;>omega) fun K hK=> ?_;refine sqx (nq2 hi1 (nq2 hi (nq2 t1 (nq2 ln (nq2 ip (nq2 p1 (nq2 p2 p3))))))) ?_;refine hK _ _ ?_;clear hK K;refine PW.g (nq2 hi1 (nq2 hi (nq2 hs (nq2 l1 s1)))) ?_;refine PW.at [0,1,2,6,7,8,9] (?_:PW _ _ _ [(0,.ptr i 0 0),(1,.slice (itL L) L.length fl),(2,.int .i64 (k:Int)),(6,.ptr H.length 0 0),(7,.bool false),(8,.ptr (H.length+1) 1 0),(9,.int .i64 a.op)] (H.set i (asB { a with op:= -1 })++[⟨118,0,zC fm0⟩,⟨35,1,pic g⟩]) _) rfl (by rw[qG _ _ hil];rfl);have hsl:(H.set i (asB { a with op:= -1 })).length=H.length:=by simp
 have af:=fun b o K=>zko H K i b (fmO o) hil (zmZ _ _);have hX0:(H.set i (asB { a with op:= -1 }))[i]? =some (asB { a with op:= -1 }):=by simp[hil]
 have hX2:∀ b,(H.set i (asB { a with op:= -1 })).set i (asB b)=H.set i (asB b):=fun b=>by rw[qS]
 generalize hXe:H.set i (asB { a with op:= -1 })=X at *;have hX1:∀ K,(X++K)[i]? =some (asB { a with op:= -1 }):=fun K=>by rw[qE om];exact hX0
 have hX3:∀ K b,(X++K).set i b=X.set i b++K:=fun K b=>qG _ _ om;rw[←hsl];unfold asB at hX1;have u0:=zci { a with op:= -1 } ha';have u1:=zng { a with op:= -1 } ha';have u2:=zto { a with op:= -1 } ha';dsimp only at u1 u2;suffices hrest:PW Tryz.prog _ _ [(0,.ptr i 0 0),(1,.slice (itL L) L.length fl),(2,.int .i64 (k:Int)),(6,.ptr X.length 0 0),(7,.bool false),(8,.ptr (X.length+1) 1 0),(9,.int .i64 a.op),(36,.bool (!(a.kn&&zP a.sq g)))] (X++[⟨118,0,zC fm0⟩,⟨35,1,pic g⟩]) _ by
  cases hkn:a.kn with
  | false=>
   rw[hkn]at hrest;have u3:(zbr { a with op:= -1 })[135]? =some (.bool false):=u2.trans (by rw[hkn]);(repeat refine PW.seq ?_);refine PW.drawg mix kr fun K hK=> ?_;simp(maxSteps:=3000000) (disch:=omega) only[go_sem,↓reduceIte,reduceCtorEq,hX1,u0,u1,u3];refine hK _ _ ?_;clear hK K;exact PW.at [0,1,2,6,7,8,9,36] hrest rfl rfl
  | true=>rw[hkn]at hrest;have u3:(zbr { a with op:= -1 })[135]? =some (.bool true):=u2.trans (by rw[hkn]);(repeat refine PW.seq ?_);refine PW.drawg mix kr fun K hK=> ?_;simp(maxSteps:=3000000) (disch:=omega) only[go_sem,↓reduceIte,reduceCtorEq,hX1,u0,u1,u3,p1,p2,p3];refine VCz.call (fun _=>pv _) rfl ?_;simp(maxSteps:=3000000) (disch:=omega) only[go_sem,↓reduceIte,reduceCtorEq];refine hK _ _ ?_;clear hK K;exact PW.at [0,1,2,6,7,8,9,36] hrest rfl rfl
 have hX4:∀ K b,(X++K).set i (asB b)=H.set i (asB b)++K:=fun K b=>by rw[hX3,hX2]
 have hY0:∀ b F G,(H.set i (asB b)++[F,G])[X.length]? =some F:=fun b F G=>by rw[hsl,qF sp];simp
 have hY1:∀ b F G,(H.set i (asB b)++[F,G])[X.length+1]? =some G:=fun b F G=>by rw[hsl,qF sp];simp
 have hYs:∀ b F G B,(H.set i (asB b)++[F,G]).set X.length B=H.set i (asB b)++[B,G]:=fun b F G B=>by rw[hsl,qZ _ _ sp];simp
 have hret:∀ b f v (Fx:Fr) (Y:za),slot Fx 6= .ptr X.length 0 0→slot Fx 7= .bool v→Y=H.set i (asB b)++[⟨118,0,zC f⟩,⟨35,1,pic g⟩]→fmO r.2= .tup [.agg (zC f),.bool v]→b=r.1→SqL f.sq→zpb Tryz.prog [.cell 6 118,.tmp 7] (Pm.Fin H (fmO r.2) (H.set i (asB r.1))) .ret Fx Y:=fun b f v Fx Y h6 h7 e3 e1 e2 hf=>by subst e3;have w1:=zch f hf;have w2:qD 145 (zC f)=zC f:=qJ om;refine⟨.tup [.agg (zC f),.bool v],by simp(maxSteps:=3000000) (disch:=omega) only[go_sem,↓reduceIte,reduceCtorEq,hY0,w1,w2,h6,h7,zx,zK,List.mapM_cons,List.mapM_nil,Option.pure_def,Option.bind_eq_bind,Option.bind_some],?_⟩;have:=af b r.2 [⟨118,0,zC f⟩,⟨35,1,pic g⟩];rw[e1]at this ⊢;rw[e2]at this ⊢;exact this
 have hz:SqL fm0.sq:=⟨rfl,rfl⟩;by_cases hv:(a.kn&&zP a.sq g)=false
 ·rw[if_pos hv]at hr;rw[hv];refine PW.t ?_;refine PW.g (nq2 z1 (nq2 z3 z5)) ?_;refine PW.ret (hret { a with op:= -1 } fm0 false _ _ rfl rfl ?_ ?_ ?_ hz)
  ·rw[←hXe];rfl
  ·rw[←hr];rfl
  ·rw[←hr]
 rw[if_neg hv]at hr;have hv':(a.kn&&zP a.sq g)=true:=by simpa using hv
 rw[hv'];refine PW.us ?_;refine PW.b ?_;refine PW.g (nq2 p1 p4) ?_;by_cases h3:g.st=3
 ·rw[if_pos h3]at hr;refine PW.c (fun h=> ?_) (fun h=> ?_);rotate_left
  ·simp[h3]at h
  have cm':=fun f l h K=>cm f l h (X++K) (hX1 K);dsimp only at cm';simp only[hX4]at cm';have w1:=zch ⟨(k:Int),(k:Int),a.sq,g,a.rs,a.lk⟩ ha';refine PW.f (fun K k=>by simp(maxSteps:=3000000) (disch:=omega) only[go_sem,↓reduceIte,reduceCtorEq,p1,p2,p3];refine VCx.call (cm' _ _ _ _) rfl ?_;simp(maxSteps:=3000000) (disch:=omega) only[go_sem,↓reduceIte,reduceCtorEq,hY0,hYs,z1,z3,w1,zcu,qM];exact k) ?_;refine PW.ret (hret { a with op:= -1,rs:=false,lk:= -1 } ⟨(k:Int),(k:Int),a.sq,g,a.rs,a.lk⟩ true _ _ rfl rfl ?_ ?_ ?_ ha')
  ·rfl
  ·rw[←hr];rfl
  ·rw[←hr];rfl
 rw[if_neg h3]at hr;refine PW.c (fun h=> ?_) (fun h=> ?_)
 ·simp[h3]at h
 suffices hrest:∀ b,(b=true↔(a.op≠-1∧zb7 (hdA L a.op) g=true))→PW Tryz.prog _ _ [(0,.ptr i 0 0),(1,.slice (itL L) L.length fl),(2,.int .i64 (k:Int)),(6,.ptr X.length 0 0),(7,.bool false),(8,.ptr (X.length+1) 1 0),(9,.int .i64 a.op),(47,.bool b)] (X++[⟨118,0,zC fm0⟩,⟨35,1,pic g⟩]) _ by
  rcases hop with ho|⟨k2,ho,hk2⟩
  ·have e0:(a.op== -1)=true:=by simp[ho]
   (repeat refine PW.seq ?_);refine PW.drawg mix kr fun K hK=> ?_;simp(maxSteps:=3000000) (disch:=omega) only[go_sem,↓reduceIte,reduceCtorEq,e0];refine hK _ _ ?_;clear hK K;exact PW.at [0,1,2,6,7,8,9,47] (hrest false (by simp[ho])) rfl rfl
  ·have e0:((k2:Int)== -1)=false:=by simp
   have ip2:=zjR L hL k2 hk2;rw[ho,zoh L k2 hk2]at hrest;rw[ho];generalize L[k2].p=g2 at *;have pr:=fun K=>zlo g2 g K;have y1:(pic g2).length=6:=rfl;have y2:(pic g2).all PV.cell=true:=rfl;(repeat refine PW.seq ?_);refine PW.drawg mix kr fun K hK=> ?_;simp(maxSteps:=3000000) (disch:=omega) only[go_sem,↓reduceIte,reduceCtorEq,e0,ln,ip2,p1,p2,p3,y1,y2];refine VCz.call (fun _=>pr _) rfl ?_;simp(maxSteps:=3000000) (disch:=omega) only[go_sem,↓reduceIte,reduceCtorEq];refine hK _ _ ?_;clear hK K;exact PW.at [0,1,2,6,7,8,9,47] (hrest (zb7 g2 g) sp) rfl rfl
 intro b hb;refine PW.c (fun h=> ?_) (fun h=> ?_)
 ·subst h;have ho:=hb.1 rfl;rw[if_pos ho]at hr;obtain⟨k2,ho2,hk2⟩:∃ k2:Nat,a.op=(k2:Int)∧k2<L.length:=by
   rcases hop with h|h
   ·exact absurd h ho.1
   ·exact h
  have ip2:=zjR L hL k2 hk2;rw[ho2,zoh L k2 hk2]at hr;rw[ho2];generalize L[k2].p=g2 at *;have y1:(pic g2).length=6:=rfl;have y2:(pic g2).all PV.cell=true:=rfl;have cm':=fun f l h K=>cm f l h (X++K) (hX1 K);dsimp only at cm';simp only[hX4]at cm';have w1:=zch ⟨(k2:Int),(k:Int),a.sq,g2,a.rs,a.lk⟩ ha';refine PW.f (fun K k=>by simp(maxSteps:=3000000) (disch:=omega) only[go_sem,↓reduceIte,reduceCtorEq,ln,ip2,p1,p2,p3,y1,y2];refine VCx.call (cm' _ _ _ _) rfl ?_;simp(maxSteps:=3000000) (disch:=omega) only[go_sem,↓reduceIte,reduceCtorEq,hY0,hYs,z1,z3,w1,zcu,qM];exact k) ?_;refine PW.ret (hret { a with op:= -1,rs:=false,lk:= -1 } ⟨(k2:Int),(k:Int),a.sq,g2,a.rs,a.lk⟩ true _ _ rfl rfl ?_ ?_ ?_ ha')
  ·rfl
  ·rw[←hr];rfl
  ·rw[←hr];rfl
 ·subst h;rw[if_neg (fun h=>by have:=hb.2 h;cases this)]at hr;refine PW.m (nq2 p1 (nq2 p2 p3)) ld ?_;cases hld:zcV g with
  | true=>
   rw[if_pos hld]at hr;refine PW.t ?_;have s3:=zkm { a with op:= -1 } ha' (k:Int);dsimp only at s3;refine PW.g (nq2 hX1 (nq2 u0 s3)) ?_;refine PW.at [6,7] (?_:PW _ _ _ [(6,.ptr X.length 0 0),(7,.bool false)] (H.set i (asB { a with op:=(k:Int) })++[⟨118,0,zC fm0⟩,⟨35,1,pic g⟩]) _) rfl (hX4 _ { a with op:=(k:Int) });refine PW.g (nq2 hY0 (nq2 hYs (nq2 z1 (nq2 z3 z5)))) ?_;refine PW.ret (hret { a with op:=(k:Int) } fm0 false _ _ rfl rfl ?_ ?_ ?_ hz)
   ·rfl
   ·rw[←hr];rfl
   ·rw[←hr]
  | false=>
   rw[if_neg (by rw[hld];simp)]at hr;refine PW.us ?_;refine PW.g (nq2 z1 (nq2 z3 z5)) ?_;refine PW.ret (hret { a with op:= -1 } fm0 false _ _ rfl rfl ?_ ?_ ?_ hz)
   ·rw[←hXe];rfl
   ·rw[←hr];rfl
   ·rw[←hr]
end Go.Proofs.YtpjlfoficnpfoaaGreatDoor.Sc
namespace Go.Proofs.YtpjlfoficnpfoaaGreatDoor.Pm
set_option linter.all false
open Go.RowKit
variable {P:Program} {H:za}
def Wkn(x y:PV):Prop:=∀(C:Ctx) (u:Value),VRel C x u→VRel C y u
theorem Wkn.refl(x:PV):Wkn x x:=fun _ _ h=>h
theorem Wkn.slF(xs:List PV)(n:Nat)(f:Bool):Wkn (.slice xs n f) (.slice xs n false):=fun C u h=>by
 cases h with
 | slice hl hM hc hR hcap hmax hf=>exact .slice hl hM hc hR hcap hmax (fun e=>by cases e)
 | sliceN ad full=>exact .sliceN ad false
def Wkns(xs ys:List PV):Prop:=xs.length=ys.length∧∀(j:Nat) (x y:PV),xs[j]? =some x→ys[j]? =some y→Wkn x y
theorem Wkns.nil:Wkns [] []:=⟨rfl,fun j x y h=>by simp at h⟩
theorem Wkns.cons{x y:PV}{xs ys:List PV}(h:Wkn x y)(hs:Wkns xs ys):Wkns (x::xs) (y::ys):=⟨by simp[hs.1],fun j a b ha hb=>by
 cases j with
 | zero=>
  simp only[List.getElem?_cons_zero,Option.some.injEq]at ha hb;subst ha hb;exact h
 | succ j=>
  simp only[List.getElem?_cons_succ]at ha hb;exact hs.2 j a b ha hb⟩
theorem Wkns.refl:∀ xs:List PV,Wkns xs xs
 | []=>.nil
 | x::r=>.cons (.refl x) (Wkns.refl r)
theorem Wkns.append{xs ys xs' ys':List PV}(h:Wkns xs ys)(h':Wkns xs' ys'):Wkns (xs++xs') (ys++ys'):=by
 refine⟨by simp[h.1,h'.1],fun j a b ha hb=> ?_⟩;by_cases hj:j<xs.length
 ·rw[qE hj]at ha;rw[qE (by rw[←h.1];exact hj)]at hb;exact h.2 j a b ha hb
 ·rw[qF om]at ha;rw[qF (by rw[←h.1];omega),←h.1]at hb;exact h'.2 _ a b ha hb
theorem Wkn.agg{xs ys:List PV}(h:Wkns xs ys)(hc:ys.all PV.cell=true):Wkn (.agg xs) (.agg ys):=fun C u hu=>by
 cases hu with
 | agg hl _ hR=>
  refine .agg (hl.trans h.1) (fun x hx=>List.all_eq_true.1 hc x hx) fun j y u hy hu=> ?_;have hj:j<xs.length:=by have:=(qA.1 hy).1;have:=h.1;omega
  exact h.2 j _ y (qH hj) hy C u (hR j _ u (qH hj) hu)
theorem CallOk.wk{f:FuncId}{args args':List PV}{v:PV}{H':za}(h:CallOk P f args' H v H')(hz:Wkns args args'):CallOk P f args H v H':=
 ⟨h.1,fun C us w hw hu=>h.2 C us w hw ⟨hu.1.trans hz.1,fun j y u hy hu'=>by
  have hj:j<args.length:=by have:=(qA.1 hy).1;have:=hz.1;omega
  exact hz.2 j _ y (qH hj) hy C u (hu.2 j _ u (qH hj) hu')⟩⟩
end Go.Proofs.YtpjlfoficnpfoaaGreatDoor.Pm
