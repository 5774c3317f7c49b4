/-
  Parts of the proof. No condition.
-/
import Derived.Test.YtleejngibkbjnaaGreatDoorW32
import Derived.Test.YtleejngibkbjnaaGreatDoorW34
open Go.Proofs.YtleejngibkbjnaaGreatDoor.Pm.PV renaming int → O
open Go.IntKind renaming i64 → J
open List renaming drop → qA, take → qB, length_append → qD, length_cons → qE, length_nil → qF
open Go.Proofs.Tryz
set_option linter.all false
set_option maxRecDepth 100000
set_option maxHeartbeats 32000000
namespace Go.Proofs.YtleejngibkbjnaaGreatDoor.Sc
open Pm Ty Go.RowKit
theorem ziI{α:Type}(enc:α->List PV)(N r:Nat)(v:PV)(hr:r<N)(f:α->α):∀(l:List α) (k:Nat),k<l.length->(∀ x∈l,(enc x).length=N)->(∀ x∈l,enc (f x)=(enc x).set r v)->(l.flatMap enc).set (k * N+r) v=(l.modify k f).flatMap enc
 | [],k,hk,_,_=>by simp at hk
 | x::l,0,_,h1,h2=>by
  simp_all
 | x::l,k+1,hk,h1,h2=>by have e1:=h1 x uK;have ih:=ziI enc N r v hr f l k (by simpa using hk) (λy hy=>h1 y (uM _ hy)) (λy hy=>h2 y (uM _ hy));grind
def entc(e:Ent):List PV:=O J e.1.f:: O J e.1.l:: O J e.1.ty:: O J e.1.pa:: O J e.1.fu:: O J e.1.sh::(sqc e.2.1++pic e.2.2)
def dpB(j:Nat)(d:Dp):Blk:=⟨76,0,[.msl j (d.en.length * 147) 0 d.en.length 147 true,O J d.old,O J d.new,.bool d.wt,O J d.lk,O J d.sh]⟩
def enB(es:List Ent):Blk:=⟨55,es.length * 147,es.flatMap entc⟩
structure DpOk(d:Dp)(m:Nat):Prop where
 sq:∀ e∈d.en,SqL e.2.1
 n:d.en.length<=m
 sh:0<=d.sh/\d.sh<=d.en.length
 lk:0<=d.lk/\d.lk<=2
 new: -1<=d.new/\d.new<d.en.length
 old: -1<=d.old/\d.old<d.en.length
 wt:d.wt=true->0<=d.new
theorem zcG(e:Ent)(h:SqL e.2.1):(entc e).length=147:=by grind[entc,qE,qD,zP,pic,qF]
theorem ziM{es:List Ent}(h:∀ e∈es,SqL e.2.1):(es.flatMap entc).length=es.length * 147:=zac entc 147 es λe he=>zcG e (h e he)
theorem zyT{es:List Ent}(h:∀ e∈es,SqL e.2.1)(n:Nat)(hn:n<es.length)(v:Int):(es.flatMap entc).set (n * 147+5) (O J v)=(es.modify n (zc3 v)).flatMap entc:=ziI entc 147 5 (O J v) om (zc3 v) es n hn (λe he=>zcG e (h e he)) λe _=>rfl
structure DpH(H:za)(i j:Nat)(d:Dp):Prop where
 gi:H[i]? =some (dpB j d)
 gj:H[j]? =some (enB d.en)
 ne:i≠j
theorem zzv(H:za)(i j:Nat)(d:Dp)(B:Blk)(hil:i<H.length)(hne:i≠j):(tw H i j (dpB j d) B)[i]? =some ⟨76,0,[.msl j (d.en.length * 147) 0 d.en.length 147 true,O J d.old,O J d.new,.bool d.wt,O J d.lk,O J d.sh]⟩:=zrd _ _ _ _ _ ⟨hil,hne⟩
theorem show_ok(d:Dp)(n:Nat)(i j:Nat)(H:za)(h:DpH H i j d)(hd:DpOk d 1000000)(hn:n<d.en.length)(hs:d.sh<1000000):CallOk prog 37 [.ptr i 0 0,O J (n:Int)] H (.tup []) (tw H i j (dpB j (d.show n)) (enB (d.show n).en)):=by obtain⟨hi,hj,hne⟩:=h;unfold dpB at hi;unfold enB at hj;have hil:i<H.length:=(gA.1 hi).1;have hjl:j<H.length:=(gA.1 hj).1;have hln:=ziM hd.sq;have hji:∀ B,(H.set j B)[i]? =H[i]? :=λB=>gR om;have hsh:=hd.sh;have hset:=zyT hd.sq n hn d.sh;have hnn:=hd.n;refine .go func37 ntmps37 results37 ?_;refine .y [j] [(7,[0]),(13,[0]),(14,[0]),(15,[0])] [] [] λK hK=> ?_;refine sqx (nq2 hi (nq2 hj (nq2 hln hset))) ?_;refine hK _ _ ?_;refine .g (nq2 hji hi) ?_;refine⟨_,rfl,.inl ⟨rfl,?_⟩⟩;simp_all[tw,dpB,enB,Dp.show,dQ,uV,sS]
theorem Dp.show_ok{d:Dp}{m n:Nat}(hd:DpOk d m)(hs:d.sh<d.en.length):DpOk (d.show n) m:=by
 obtain⟨h1,h2,h3,h4,h5,h6,h7⟩:=hd;refine⟨λe he=> ?_,?_,?_,h4,?_,?_,h7⟩
 .simp only[Dp.show]at he;obtain⟨k,hk,rfl⟩:=dI he;rw[List.getElem_modify];rw[sS]at hk;have h0:=h1 d.en[k] (uY hk);split
  .exact h0
  .exact h0
 all_goals grind[Dp.show,List.length_modify]
structure DpG(d:Dp)(m:Nat):Prop where
 ok:DpOk d m
 cnt:d.sh+(if d.wt then 1 else 0)<=d.en.length
theorem ztI(d:Dp):d.flush.sh=d.sh+if d.wt then 1 else 0:=by
 unfold Dp.flush;split
 .rfl
 .omega
theorem zjE(d:Dp):d.flush.en.length=d.en.length:=by grind[Dp.flush,Dp.show]
theorem zf0{d:Dp}{m:Nat}(h:DpG d m):DpG d.flush m/\d.flush.sh+0<=d.en.length:=by
 obtain⟨hd,hc⟩:=h;unfold Dp.flush;by_cases hw:d.wt=true
 .rw[gD hw]at hc |-;have h7:=hd.wt hw;obtain⟨n,hn⟩:∃ n:Nat,d.new=(n:Int):=⟨d.new.toNat,om⟩;rw[hn];obtain⟨q1,q2,q3,q4,q5,q6,q7⟩:=Dp.show_ok (n:=n) hd om;refine⟨⟨⟨q1,q2,q3,q4,q5,q6,λh=>by cases h⟩,?_⟩,?_⟩;all_goals simp_all[Dp.show,sS,wX]
 .rw[gC hw]at hc |-;exact⟨⟨hd,by rw[gC hw];omega⟩,om⟩
theorem ziH(d:Dp)(i j:Nat)(H:za)(h:DpH H i j d)(hd:DpG d 1000000):CallOk prog 19 [.ptr i 0 0] H (.tup []) (tw H i j (dpB j d.flush) (enB d.flush.en)):=by
 have h':=h;obtain⟨hi,hj,hne⟩:=h;have hil:i<H.length:=(gA.1 hi).1;have hjl:j<H.length:=(gA.1 hj).1;have hw:=hd.ok.wt;have hcn:=hd.cnt;have hnew:=hd.ok.new;have hnn:=hd.ok.n;unfold dpB at hi;generalize hr:d.flush=r;unfold Dp.flush at hr;refine .go func19 ntmps19 results19 ?_;refine .g hi ?_;refine .c (λh=> ?_) (λh=> ?_)
 .obtain⟨n,hn⟩:∃ n:Nat,d.new=(n:Int):=⟨d.new.toNat,by have:=hw h;omega⟩;rw[gD h]at hr hcn;have sok:=show_ok d n i j H h' hd.ok om om;have g0:=zzv H i j (d.show n) (enB (d.show n).en) hil hne;rw[hn]at hi hr;generalize d.show n=d' at *;refine .f (λK k=>by simp(disch:=omega) only[go_sem,hi];refine VCx.call (sok) rfl ?_;simp(disch:=omega) only[go_sem];exact k) ?_;refine .g g0 ?_;refine⟨_,rfl,.inl ⟨rfl,?_⟩⟩;grind[tw,dpB,List.set_comm,List.set_set]
 .rw[gC (by rw[h];simp)]at hr;subst hr;refine .skip ?_;refine⟨_,rfl,.inl ⟨rfl,?_⟩⟩;unfold tw;rw[zdx h'.gi,zdx h'.gj]
theorem zhR(H K:za)(i j:Nat)(A B:Blk)(hi:i<H.length)(hj:j<H.length):tw (H++K) i j A B=tw H i j A B++K:=by simp_all[tw,uL,gS]
theorem zt2(n j:Nat)(d:Dp)(h:j<n):∀ x∈(dpB j d).cells,Scoped n x:=λx hx=>by
 simp only[dpB,gM,gL,uA]at hx;rcases hx with rfl|rfl|rfl|rfl|rfl|rfl
 .exact .msl h
 .exact .int _ _
 .exact .int _ _
 .exact .bool _
 .exact .int _ _
 .exact .int _ _
theorem zdO(n:Nat)(es:List Ent):∀ x∈(enB es).cells,Scoped n x:=λx hx=>by
 obtain⟨e,_,hx⟩:=wM.1 hx;simp only[entc,gM,uF]at hx;rcases hx with rfl|rfl|rfl|rfl|rfl|rfl|hx|hx
 .exact .int _ _
 .exact .int _ _
 .exact .int _ _
 .exact .int _ _
 .exact .int _ _
 .exact .int _ _
 all_goals grind[zaf,zkx]
theorem zkX(H K:za)(i j:Nat)(d:Dp)(hi:i<H.length)(hj:j<H.length):Fin H (.tup []) (tw H i j (dpB j d) (enB d.en)) (.tup []) (tw (H++K) i j (dpB j d) (enB d.en)):=by rw[zhR _ _ _ _ _ _ hi hj];exact .cut rfl (by rw[zrc]) (zrb (zt2 _ _ _ hj) (zdO _ _)) (.id (.tup sp))
theorem zpy(es:List Ent)(e:Ent):(es++[e]).flatMap entc=es.flatMap entc++entc e:=by simp_all
theorem DpH.two{H:za}{i j:Nat}{d:Dp}(h:DpH H i j d)(K:za)(d':Dp):DpH (tw (H++K) i j (dpB j d') (enB d'.en)) i j d':=by have hil:i<H.length:=(gA.1 h.gi).1;have hjl:j<H.length:=(gA.1 h.gj).1;exact⟨zrd _ _ _ _ _ ⟨by rw[gP];omega,h.ne⟩,zxH _ _ _ _ _ (by rw[gP];omega),h.ne⟩
theorem DpH.self{H:za}{i j:Nat}{d:Dp}(h:DpH H i j d)(K:za):tw (H++K) i j (dpB j d) (enB d.en)=H++K:=by have hil:i<H.length:=(gA.1 h.gi).1;have hjl:j<H.length:=(gA.1 h.gj).1;rw[zhR _ _ _ _ _ _ hil hjl];unfold tw;rw[zdx h.gi,zdx h.gj]
theorem zvW{d:Dp}{f:FmY}{m:Nat}(h:DpG d m)(hf:SqL f.sq):DpG (d.frame f) (m+1):=by
 obtain⟨⟨h1,h2,h3,h4,h5,h6,h7⟩,h8⟩:=h;have hsq:∀{pa fu:Int},∀ e∈d.en++[fmE f pa fu],SqL e.2.1:=λe he=>by
  rcases uF.1 he with he|he
  .grind
  .rw[uX]at he;rw[he];exact hf
 unfold Dp.frame;split
 .split
  .exact⟨⟨h1,om,h3,h4,h5,h6,h7⟩,h8⟩
  .have:=Dp.show_ok (d:={ d with en:=d.en++[fmE f d.old d.new] }) (m:=m+1) (n:=d.en.length) ⟨hsq,by simp;omega,by simp;omega,h4,by simp;omega,by simp;omega,h7⟩ (by simp;split at h8<;>omega);refine⟨this,?_⟩;grind[Dp.show,List.length_modify,qD,qE,qF]
 .split
  .exact⟨⟨h1,om,h3,h4,h5,h6,h7⟩,h8⟩
  .obtain⟨⟨⟨q1,q2,q3,q4,q5,q6,q7⟩,q8⟩,q9⟩:=zf0 (d:={ d with en:=d.en++[fmE f d.new (-1)] }) (m:=m+1) ⟨⟨hsq,by simp;omega,by simp;omega,h4,by simp;omega,by simp;omega,h7⟩,by simp;split at h8<;>omega⟩;have hl:=zjE { d with en:=d.en++[fmE f d.new (-1)] };have hs:(Dp.flush { d with en:=d.en++[fmE f d.new (-1)] }).sh=d.sh+if d.wt then 1 else 0:=ztI _
   have hf:=zf1 { d with en:=d.en++[fmE f d.new (-1)] };generalize Dp.flush { d with en:=d.en++[fmE f d.new (-1)] }=e at *;simp only[gP,gZ,uS]at hl q9;obtain⟨f1,f2,f3,f4⟩:=hf;rw[f3]at q8;simp only[wX,sV]at q8;have hcn:e.sh<=d.en.length:=om;refine⟨⟨q1,q2,q3,?_,?_,?_,?_⟩,?_⟩;all_goals grind
def zD(f:FmY):List PV:=O J f.f:: O J f.l::(sqc f.sq++(pic f.hd++[.bool f.rs,O J f.lk]))
theorem zcp(f:FmY)(h:SqL f.sq):(zD f).length=145:=by grind[zD,qE,qD,zP,pic,qF]
theorem zAg(f:FmY)(h:SqL f.sq):qB 135 (qA 2 (zD f))=sqc f.sq:=by show qB 135 (sqc f.sq++_)=_;exact wZ (zP _ h)
theorem zxf(f:FmY)(h:SqL f.sq)(n:Nat):qA (137+n) (zD f)=qA n (pic f.hd++[.bool f.rs,O J f.lk]):=by
 have e:qA 137 (zD f)=pic f.hd++[.bool f.rs,O J f.lk]:=by show qA 135 (sqc f.sq++_)=_;exact dE (zP _ h)
 rw[<-dL,e]
theorem zAh(f:FmY)(h:SqL f.sq):qB 6 (qA 137 (zD f))=pic f.hd:=by have:=zxf f h 0;rw[this];rfl
theorem zn6(f:FmY)(h:SqL f.sq)(n:Nat):(zD f)[137+n]? =(pic f.hd++[.bool f.rs,O J f.lk])[n]? :=by have:=congrArg (·[0]?) (zxf f h n);simp_all
theorem zAj(f:FmY):(zD f)[0]? =some (O J f.f):=rfl
theorem zAi(f:FmY):(zD f)[1]? =some (O J f.l):=rfl
theorem zyK(f:FmY)(h:SqL f.sq):(zD f)[137]? =some (O J f.hd.ty):=zn6 f h 0
theorem zyL(f:FmY)(h:SqL f.sq):(zD f)[143]? =some (.bool f.rs):=zn6 f h 6
theorem zyM(f:FmY)(h:SqL f.sq):(zD f)[144]? =some (O J f.lk):=zn6 f h 7
theorem zbv(s:Sq):(sqc s).all PV.cell=true:=by simp[sqc,bs,PV.cell]
theorem zcF(f:FmY):(zD f).all PV.cell=true:=by simp[zD,sqc,bs,pic,PV.cell]
theorem zv9(d:Dp)(f:FmY)(i j:Nat)(H:za)(h:DpH H i j d)(hd:DpG d 900000)(hf:SqL f.sq):CallOk prog 20 [.ptr i 0 0,.agg (zD f)] H (.tup []) (tw H i j (dpB j (d.frame f)) (enB (d.frame f).en)):=by
 have h':=h;obtain⟨hi,hj,hne⟩:=h;have hil:i<H.length:=(gA.1 hi).1;have hjl:j<H.length:=(gA.1 hj).1;have hi1:∀ K,(H++K)[i]? =H[i]? :=λK=>gK hil;have hj1:∀ K,(H++K)[j]? =H[j]? :=λK=>gK hjl;unfold dpB at hi;unfold enB at hj;have f0:=zcp f hf;have f1:=zAg f hf;have f2:=zAh f hf;have f3:=zAj f;have f4:=zAi f;have f5:=zyK f hf;have f6:=zcF f;have g1:=zP f.sq hf;generalize hr:d.frame f=r;unfold Dp.frame at hr;refine .go func20 ntmps20 results20 ?_;refine .g f6 ?_;have g2:=zbv f.sq;have g3:∀ X,qB 135 (sqc f.sq++X)=sqc f.sq:=λX=>wZ g1;have g4:∀ X n,qA (135+n) (sqc f.sq++X)=qA n X:=λX n=>by rw[<-dL,dE g1]
 have g5:∀ X,qA 141 (sqc f.sq++X)=qA 6 X:=λX=>g4 X 6;have g6:(pic f.hd).length=6:=rfl;have g7:(pic f.hd).all PV.cell=true:=rfl;refine .f (λK k=>by simp(disch:=omega) only[go_sem,f0,f1,f2,g1,g2,g3,g5,g6,g7,gP,gQ];exact k) ?_;refine .y [H.length+1] [(4,[0]),(12,[0]),(23,[0])] [] [] λK hK=> ?_;refine sqx (nq2 hi1 (nq2 hi (nq2 f0 (nq2 f3 (nq2 f4 f5))))) ?_;refine hK _ _ ?_;clear hK K;refine .g (nq2 hi1 (nq2 hj1 (nq2 hi hj))) ?_;refine .e ?_;have hln:=ziM hd.ok.sq;have hnn:=hd.ok.n;have hsh:=hd.ok.sh;have hlk:=hd.ok.lk;have hcn:=hd.cnt;have hji:∀ K B,((H++K).set j B)[i]? =H[i]? :=λK B=>by grind
 have hjj:∀ K B,((H++K).set j B)[j]? =some B:=λK B=>by grind
 refine .c (λh=> ?_) (λh=> ?_)
 .have ht:f.hd.ty=3:=by simpa using h
  rw[gD ht]at hr;suffices hrest:∀ b,(b=true↔(d.lk≠0\/d.old= -1\/d.new= -1))->PW prog _ _ [(0,.ptr i 0 0),(3,.ptr H.length 0 0),(4,.ptr (H.length+1) 0 0),(5,O J (d.en.length:Int)),(51,.bool b)] (H++[⟨81,0,zD f⟩,⟨55,0,entc (fmE f d.new (-1))⟩]) _ by
   refine .x λK hK=> ?_;simp(disch:=omega) only[go_sem,hi1,hi];(repeat'((refine zg ?_ ?_)<;>intro h<;>(try simp only[nqb]at h)<;>simp(disch:=omega) only[go_sem,hi1,hi,h]));all_goals(refine hK _ _ ?_;clear hK K)
   all_goals(refine .a (hrest _ ?_))
   all_goals(simp_all;try omega)
  intro b hb;refine .c (λh=> ?_) (λh=> ?_)
  .subst h;rw[gD (hb.1 rfl)]at hr;subst hr;refine .ret ⟨_,rfl,?_⟩;have e7:=zkX H [⟨81,0,zD f⟩,⟨55,0,entc (fmE f d.new (-1))⟩] i j d hil hjl;rw[h'.self]at e7;exact e7
  .subst h;rw[gC (λh=>by have:=hb.2 h;cases this)]at hr;refine .skip ?_;obtain⟨E,hE⟩:∃ E,E=entc (fmE f d.old d.new):=⟨_,rfl⟩;have el:(PV.int .i64 f.f::PV.int .i64 f.l::PV.int .i64 f.hd.ty::PV.int .i64 d.old::PV.int .i64 d.new::PV.int .i64 0::(sqc f.sq++pic f.hd))=E:=hE.symm;have e1:E.length=147:=by rw[hE];exact zcG _ hf
   have e2:qB 147 E=E:=gH om;have e3:E.all PV.cell=true:=by rw[hE];simp[entc,zbv,PV.cell,pic]
   refine .y [H.length+1] [(4,[0]),(60,[0]),(61,[0]),(62,[0]),(63,[0])] [] [] λK hK=> ?_;refine sqx (nq2 hi1 (nq2 hi (nq2 @entc.eq_1 (nq2 @fmE.eq_1 el)))) ?_;refine hK _ _ ?_;clear hK K;refine .y [j,i] [(68,[0]),(71,[0]),(0,[1]),(64,[1]),(65,[1]),(66,[1]),(67,[1]),(72,[1]),(73,[1])] [] [] λK hK=> ?_;refine sqx (nq2 hi1 (nq2 hj1 (nq2 hi (nq2 hj (nq2 hji (nq2 hjj (nq2 hln (nq2 e1 (nq2 e2 e3))))))))) ?_;refine hK _ _ ?_;clear hK K;have hX:=h'.two [⟨81,0,zD f⟩,⟨55,0,E⟩] { d with en:=d.en++[fmE f d.old d.new] };have hXg:(d.en++[fmE f d.old d.new]).length=d.en.length+1:=by simp
   have hsq:∀ e∈d.en++[fmE f d.old d.new],SqL e.2.1:=λe he=>by
    rcases uF.1 he with he|he
    .exact hd.ok.sq e he
    .rw[uX]at he;rw[he];exact hf
   have sok:=show_ok { d with en:=d.en++[fmE f d.old d.new] } d.en.length i j _ hX ⟨hsq,by simp;omega,by simp;omega,hlk,by have:=hd.ok.new;simp;omega,by have:=hd.ok.old;simp;omega,hd.ok.wt⟩ sp (by show d.sh<_;omega);rw[zra _ _ _ _ _ _ _ hne]at sok;have e7:=zkX H [⟨81,0,zD f⟩,⟨55,0,E⟩] i j (Dp.show { d with en:=d.en++[fmE f d.old d.new] } d.en.length) hil hjl;rw[hr]at e7 sok;refine .a (?_:PW _ _ _ [(0,.ptr i 0 0),(5,O J (d.en.length:Int))] (tw (H++[⟨81,0,zD f⟩,⟨55,0,E⟩]) i j (dpB j { d with en:=d.en++[fmE f d.old d.new] }) (enB (d.en++[fmE f d.old d.new]))) _) rfl ?_
   .generalize tw (H++[⟨81,0,zD f⟩,⟨55,0,E⟩]) i j (dpB j { d with en:=d.en++[fmE f d.old d.new] }) (enB (d.en++[fmE f d.old d.new]))=X at *;refine .f (λK k=>by simp(disch:=omega) only[go_sem];refine VCx.call (sok) rfl ?_;simp(disch:=omega) only[go_sem];exact k) ?_;exact .ret ⟨_,rfl,e7⟩
   .unfold tw;rw[dQ _ _ hne];have hl9:(List.flatMap entc d.en++E).length=(d.en.length+1) * 147:=by rw[gP,hln,e1];omega
    unfold dpB enB;simp only[zpy,hXg,<-hE,hl9]
 .have ht:¬ f.hd.ty=3:=by simpa using h
  rw[gC ht]at hr;refine .skip ?_;suffices hrest:∀ b,(b=true↔(f.hd.ty=2/\d.new= -1))->PW prog _ _ [(0,.ptr i 0 0),(3,.ptr H.length 0 0),(4,.ptr (H.length+1) 0 0),(5,O J (d.en.length:Int)),(87,.bool b)] (H++[⟨81,0,zD f⟩,⟨55,0,entc (fmE f d.new (-1))⟩]) _ by
   refine .x λK hK=> ?_;simp(disch:=omega) only[go_sem,hi1,hi,entc,fmE];(repeat'((refine zg ?_ ?_)<;>intro h<;>(try simp only[nqb]at h)<;>simp(disch:=omega) only[go_sem,hi1,hi,h]));all_goals(refine hK _ _ ?_;clear hK K)
   all_goals(refine .a (hrest _ ?_))
   all_goals(simp_all;try omega)
  intro b hb;refine .c (λh=> ?_) (λh=> ?_)
  .subst h;rw[gD (hb.1 rfl)]at hr;subst hr;refine .ret ⟨_,rfl,?_⟩;have e7:=zkX H [⟨81,0,zD f⟩,⟨55,0,entc (fmE f d.new (-1))⟩] i j d hil hjl;rw[h'.self]at e7;exact e7
  .subst h;rw[gC (λh=>by have:=hb.2 h;cases this)]at hr;refine .skip ?_;obtain⟨E,hE⟩:∃ E,E=entc (fmE f d.new (-1)):=⟨_,rfl⟩;have e1:E.length=147:=by rw[hE];exact zcG _ hf
   have e2:qB 147 E=E:=gH om;have e3:E.all PV.cell=true:=by rw[hE];simp[entc,zbv,PV.cell,pic]
   rw[<-hE];refine .y [j,i] [(92,[0]),(95,[0]),(0,[1]),(88,[1]),(89,[1]),(90,[1]),(91,[1]),(96,[1]),(97,[1])] [] [] λK hK=> ?_;refine sqx (nq2 hi1 (nq2 hj1 (nq2 hi (nq2 hj (nq2 hji (nq2 hjj (nq2 hln (nq2 e1 (nq2 e2 e3))))))))) ?_;refine hK _ _ ?_;clear hK K;have hX:=h'.two [⟨81,0,zD f⟩,⟨55,0,E⟩] { d with en:=d.en++[fmE f d.new (-1)] };have hXg:(d.en++[fmE f d.new (-1)]).length=d.en.length+1:=by simp
   have hsq:∀ e∈d.en++[fmE f d.new (-1)],SqL e.2.1:=λe he=>by
    rcases uF.1 he with he|he
    .exact hd.ok.sq e he
    .rw[uX]at he;rw[he];exact hf
   have hG:DpG { d with en:=d.en++[fmE f d.new (-1)] } 1000000:=⟨⟨hsq,by simp;omega,by simp;omega,hlk,by have:=hd.ok.new;simp;omega,by have:=hd.ok.old;simp;omega,hd.ok.wt⟩,by simp;omega⟩;have fok:=ziH _ i j _ hX hG;have ff:=zf1 { d with en:=d.en++[fmE f d.new (-1)] };rw[zra _ _ _ _ _ _ _ hne]at fok;refine .a (?_:PW _ _ _ [(0,.ptr i 0 0),(5,O J (d.en.length:Int))] (tw (H++[⟨81,0,zD f⟩,⟨55,0,E⟩]) i j (dpB j { d with en:=d.en++[fmE f d.new (-1)] }) (enB (d.en++[fmE f d.new (-1)]))) _) rfl ?_
   .have e7:=λe=>zkX H [⟨81,0,zD f⟩,⟨55,0,E⟩] i j e hil hjl;have hlk2:=(zf0 hG).1.ok.lk;generalize Dp.flush { d with en:=d.en++[fmE f d.new (-1)] }=e at *;have g0:=zzv (H++[⟨81,0,zD f⟩,⟨55,0,E⟩]) i j e (enB e.en) (by rw[gP];omega) hne;have g1':∀ B,(tw (H++[⟨81,0,zD f⟩,⟨55,0,E⟩]) i j (dpB j e) (enB e.en)).set i B=tw (H++[⟨81,0,zD f⟩,⟨55,0,E⟩]) i j B (enB e.en):=λB=>by grind[tw,List.set_comm,List.set_set]
    have g2':∀ B B',(tw (H++[⟨81,0,zD f⟩,⟨55,0,E⟩]) i j B B').set i=λB2=>tw (H++[⟨81,0,zD f⟩,⟨55,0,E⟩]) i j B2 B':=λB B'=>by funext B2;unfold tw;rw[dQ _ _ (by omega:j≠i),vL]
    have g3':∀ B B',(tw (H++[⟨81,0,zD f⟩,⟨55,0,E⟩]) i j B B')[i]? =some B:=λB B'=>zrd _ _ _ _ _ ⟨by rw[gP];omega,hne⟩;generalize tw (H++[⟨81,0,zD f⟩,⟨55,0,E⟩]) i j (dpB j { d with en:=d.en++[fmE f d.new (-1)] }) (enB (d.en++[fmE f d.new (-1)]))=X at *;refine .f (λK k=>by simp(disch:=omega) only[go_sem];refine VCx.call (fok) rfl ?_;simp(disch:=omega) only[go_sem];exact k) ?_;refine .f (λK k=>by simp(disch:=omega) only[go_sem,g0,g2',g3'];exact k) ?_;refine .f (λK k=>by simp(disch:=omega) only[go_sem,g3',g2'];exact k) ?_;have hm:(if e.lk - 1>0 then e.lk - 1 else 0)=max 0 (e.lk - 1):=om;subst hr;refine⟨_,rfl,?_⟩;rw[hm];exact e7 _
   .unfold tw;rw[dQ _ _ hne];have hl9:(List.flatMap entc d.en++E).length=(d.en.length+1) * 147:=by rw[gP,hln,e1];omega
    unfold dpB enB;simp only[zpy,hXg,<-hE,hl9]
theorem zph(h:Pi)(H:za):CallOk prog 39 [.agg (pic h)] H (.bool (zbn h)) H:=by obtain⟨ty,st,od,tf,rp,al⟩:=h;refine .body (F0:=[(0,.agg (pic ⟨ty,st,od,tf,rp,al⟩))]) func39 rfl ntmps39 results39 rfl kr rfl ?_;(repeat'(first|refine .seq ?_|((refine .rg rfl λK hK=> ?_);simp(maxSteps:=9^9) (disch:=omega) only[go_sem,pic])|(refine hK _ _ ?_)));all_goals((refine .ret ⟨_,rfl,?_⟩;refine .base (.id' ?_ (.bool _)));(simp_all[zbn,slot,Nat.beq]))
theorem zmr(a b:Pi)(H:za):CallOk prog 40 [.agg (pic a),.agg (pic b)] H (.bool (za4 a b)) H:=by
 obtain⟨ty,st,od,tf,rp,al⟩:=a;obtain⟨ty',st',od',tf',rp',al'⟩:=b;refine .body (F0:=[(0,.agg (pic ⟨ty,st,od,tf,rp,al⟩)),(1,.agg (pic ⟨ty',st',od',tf',rp',al'⟩))]) func40 rfl ntmps40 results40 rfl kr rfl ?_;(repeat'(first|refine .seq ?_|((refine .rg rfl λK hK=> ?_);simp(maxSteps:=9^9) (disch:=omega) only[go_sem,pic])|((refine zg ?_ ?_)<;>intro h<;>(try simp only[nqb]at h)<;>simp(maxSteps:=9^9) (disch:=omega) only[go_sem,pic,h])|(refine hK _ _ ?_)));all_goals((refine .ret ⟨_,rfl,?_⟩;refine .base (.id' ?_ (.bool _)));simp_all[za4,slot,Nat.beq])
 grind
def zbt(a:As):List PV:=sqc a.sq++[.bool a.kn,O J a.op,.bool a.rs,O J a.lk]
def asB(a:As):Blk:=⟨113,0,zbt a⟩
theorem zcr(a:As)(h:SqL a.sq):(zbt a).length=139:=by grind[zbt,qD,zP,qE,qF]
theorem zli(a:As)(h:SqL a.sq)(n:Nat):(zbt a)[135+n]? =[.bool a.kn,O J a.op,.bool a.rs,O J a.lk][n]? :=by simp_all[zbt,gN,zP,uW]
theorem zuv(a:As)(h:SqL a.sq):(zbt a)[135]? =some (.bool a.kn):=zli a h 0
theorem zy9(a:As)(h:SqL a.sq):(zbt a)[136]? =some (O J a.op):=zli a h 1
theorem zy8(a:As)(h:SqL a.sq):(zbt a)[137]? =some (.bool a.rs):=zli a h 2
theorem zza(a:As)(h:SqL a.sq):(zbt a)[138]? =some (O J a.lk):=zli a h 3
theorem zoo(a:As)(h:SqL a.sq):qB 135 (zbt a)=sqc a.sq:=wZ (zP _ h)
theorem zhG(a:As)(h:SqL a.sq)(n:Nat)(v:PV):(zbt a).set (135+n) v=sqc a.sq++[.bool a.kn,O J a.op,.bool a.rs,O J a.lk].set n v:=by simp_all[zbt,uC,zP,uW]
theorem zwo(a:As)(h:SqL a.sq)(v:Bool):(zbt a).set 135 (.bool v)=zbt { a with kn:=v }:=zhG a h 0 _
theorem zlh(a:As)(h:SqL a.sq)(v:Int):(zbt a).set 136 (O J v)=zbt { a with op:=v }:=zhG a h 1 _
theorem zpM(a:As)(h:SqL a.sq)(v:Bool):(zbt a).set 137 (.bool v)=zbt { a with rs:=v }:=zhG a h 2 _
theorem zhF(a:As)(h:SqL a.sq)(v:Int):(zbt a).set 138 (O J v)=zbt { a with lk:=v }:=zhG a h 3 _
theorem zuu(n:Nat)(a:As):∀ x∈zbt a,Scoped n x:=λx hx=>by
 simp only[zbt,uF,gM,gL,uA]at hx;rcases hx with hx|rfl|rfl|rfl|rfl
 .exact zaf _ _ x hx
 .exact .bool _
 .exact .int _ _
 .exact .bool _
 .exact .int _ _
def fm0:FmY:=⟨0,0,sq0,zz5,false,0⟩
theorem zue(a:As)(i:Nat)(H:za)(h:H[i]? =some (asB a))(ha:SqL a.sq):CallOk prog 75 [.ptr i 0 0] H (.tup []) (H.set i (asB a.clr)):=by
 have hil:i<H.length:=(gA.1 h).1;unfold asB at h;have hs:∀ B,(H.set i B)[i]? =some B:=λB=>by simp[hil]
 have l1:=zcr a ha;have l2:=zcr { a with rs:=true } ha;have s1:=zpM a ha true;have s2:=zhF { a with rs:=true } ha (-1);refine .go func75 ntmps75 results75 ?_;refine .f (λK k=>by simp(maxSteps:=9^9) (disch:=omega) only[go_sem,h,hs,l1,l2,s1,s2,vL];exact k) ?_;refine⟨_,rfl,.inl ⟨rfl,?_⟩⟩;rfl
theorem zps(n:Nat)(f:FmY):∀ x∈zD f,Scoped n x:=λx hx=>by
 simp only[zD,pic,uF,gM,gL,uA]at hx;rcases hx with rfl|rfl|hx|(rfl|rfl|rfl|rfl|rfl|rfl)|rfl|rfl
 .exact .int _ _
 .exact .int _ _
 .exact zaf _ _ x hx
 .exact .int _ _
 .exact .int _ _
 .exact .int _ _
 .exact .bool _
 .exact .bool _
 .exact .bool _
 .exact .bool _
 .exact .int _ _
theorem zlj(H K:za)(i:Nat)(a:As)(v:PV)(hi:i<H.length)(hv:Scoped H.length v):Fin H v (H.set i (asB a)) v (H.set i (asB a)++K):=Fin.cut rfl sp (λh=>HSc.set h (zuu _ _)) (.id (by rw[gS];exact hv))
theorem zwg(a:As)(f l:Int)(h:Pi)(i:Nat)(H:za)(hi:H[i]? =some (asB a))(ha:SqL a.sq):CallOk prog 138 [.ptr i 0 0,O J f,O J l,.agg (pic h)] H (.agg (zD ⟨f,l,a.sq,h,a.rs,a.lk⟩)) (H.set i (asB { a with rs:=false,lk:= -1 })):=by
 have hil:i<H.length:=(gA.1 hi).1;unfold asB at hi;have hi1:∀ K,(H++K)[i]? =H[i]? :=λK=>gK hil;have hs:∀ K B,((H++K).set i B)[i]? =some B:=λK B=>by grind
 have l1:=zcr a ha;have l2:=zcr { a with rs:=false } ha;have s1:=zpM a ha false;have s2:=zhF { a with rs:=false } ha (-1);have t1:=zoo a ha;have t2:=zy8 a ha;have t3:=zza a ha;have p1:(pic h).length=6:=rfl;have p2:(pic h).all PV.cell=true:=rfl;have p3:qB 6 (pic h)=pic h:=rfl;have q1:=zP a.sq ha;have q2:=zbv a.sq;have q3:∀ X,qB 135 (sqc a.sq++X)=sqc a.sq:=λX=>wZ q1;have q4:∀ X n,qA (135+n) (sqc a.sq++X)=qA n X:=λX n=>by rw[<-dL,dE q1]
 have q5:∀ X n,qB (135+n) (sqc a.sq++X)=sqc a.sq++qB n X:=λX n=>by simp_all[mA,gH,uW]
 have q6:∀ X,qA 141 (sqc a.sq++X)=qA 6 X:=λX=>q4 X 6;have q7:∀ X,qA 142 (sqc a.sq++X)=qA 7 X:=λX=>q4 X 7;have q8:∀ X,qA 143 (sqc a.sq++X)=qA 8 X:=λX=>q4 X 8;have q9:∀ X,qB 141 (sqc a.sq++X)=sqc a.sq++qB 6 X:=λX=>q5 X 6;have q10:∀ X,qB 142 (sqc a.sq++X)=sqc a.sq++qB 7 X:=λX=>q5 X 7;refine .go func138 ntmps138 results138 ?_;refine .g p2 ?_;refine .dg λK hK=> ?_;simp(maxSteps:=9^9) (disch:=omega) only[go_sem,hi1,hi,l1,t1,t2,t3,p1,p2,p3,q1,q2,q3,q6,q7,q8,q9,q10,gP,pic];refine hK _ _ ?_;clear hK K;obtain⟨W,hW⟩:∃ W,W=zD ⟨f,l,a.sq,h,a.rs,a.lk⟩:=⟨_,rfl⟩;refine .a (?_:PW _ _ _ [(0,.ptr i 0 0),(8,.ptr (H.length+1) 0 0),(9,.ptr (H.length+2) 0 0)] (H++[⟨41,0,pic h⟩,⟨81,0,zD fm0⟩,⟨81,0,W⟩]) _) rfl (by rw[hW];rfl);have w1:W.length=145:=by rw[hW];exact zcp _ ha
 have w2:qB 145 W=W:=gH om;have w3:W.all PV.cell=true:=by rw[hW];exact zcF _
 have z1:(zD fm0).length=145:=rfl;have z2:∀ X,qA 145 (zD fm0)=X↔[]=X:=λX=>by rfl
 have z3:qA 145 (zD fm0)=[]:=rfl;refine .f (λK k=>by simp(maxSteps:=9^9) (disch:=omega) only[go_sem,hi1,hi,hs,l1,l2,s1,s2,vL];exact k) ?_;refine .a (?_:PW _ _ _ [(8,.ptr (H.length+1) 0 0),(9,.ptr (H.length+2) 0 0)] (H.set i (asB { a with rs:=false,lk:= -1 })++[⟨41,0,pic h⟩,⟨81,0,zD fm0⟩,⟨81,0,W⟩]) _) rfl (by rw[uL _ _ hil];rfl);have hsl:(H.set i (asB { a with rs:=false,lk:= -1 })).length=H.length:=by simp
 have af:=λK=>zlj H K i { a with rs:=false,lk:= -1 } (.agg (zD ⟨f,l,a.sq,h,a.rs,a.lk⟩)) hil (.agg λj x hx=>zps _ _ x (uE hx));generalize H.set i (asB { a with rs:=false,lk:= -1 })=X at *;rw[<-hsl];refine .f (λK k=>by simp(maxSteps:=9^9) (disch:=omega) only[go_sem,w1,w2,w3,z1,z3,gQ];exact k) ?_;refine .w (.agg W) (nq2 w1 w2) ?_;simp_all
theorem zeQ(L:List It)(hL:∀ x∈L,SqOk x.s)(k:Nat)(hk:k<L.length):qB 6 (qA (k * 148+139) (itL L))=pic L[k].p:=by simp_all[zeP,zw9,uY]
theorem zhv(L:List It)(k:Nat)(hk:k<L.length):hdA L (k:Int)=L[k].p:=by grind[hdA,Int.toNat_natCast,List.getElem?_eq_getElem]
def fmO:Option FmY->PV
 | none=>.tup [.agg (zD fm0),.bool false]
 | some f=>.tup [.agg (zD f),.bool true]
theorem zn7(n:Nat)(r:Option FmY):Scoped n (fmO r):=by
 have h:∀ f b,Scoped n (.tup [.agg (zD f),.bool b]):=λf b=>.tup λj x hx=>by
  have hx:=uE hx;simp only[gM,gL,uA]at hx;rcases hx with rfl|rfl
  .exact .agg λj x hx=>zps _ _ x (uE hx)
  .exact .bool _
 cases r<;>exact h _ _
def OpR(L:List It)(n:Int):Prop:=n= -1\/∃ k:Nat,n=(k:Int)/\k<L.length
theorem zut(L:List It)(fl:Bool)(k:Nat)(hk:k<L.length)(hL:∀ x∈L,SqOk x.s)(a:As)(i:Nat)(H:za)(hi:H[i]? =some (asB a))(ha:SqOk a.sq)(hop:OpR L a.op):
  CallOk prog 74 [.ptr i 0 0,.slice (itL L) L.length fl,O J (k:Int)] H (fmO (a.pic L k L[k].p).2) (H.set i (asB (a.pic L k L[k].p).1)):=by
 have hil:i<H.length:=(gA.1 hi).1;have ha':=ha.toL;unfold asB at hi;have hi1:∀ K,(H++K)[i]? =H[i]? :=λK=>gK hil;have hs:∀ K B,((H++K).set i B)[i]? =some B:=λK B=>by grind
 have l1:=zcr a ha';have s1:=zlh a ha' (-1);have t1:=zy9 a ha';have ln:=zbg L hL;have ip:=zeQ L hL k hk;have pv:=λK=>zdf a.sq L[k].p K ha;have cm:=λf l (h:Pi) (X:za) (hX:X[i]? =some (asB { a with op:= -1 }))=>zwg { a with op:= -1 } f l h i X hX ha';have ld:=λK=>zph L[k].p K;generalize hr:a.pic L k L[k].p=r;unfold As.pic at hr;generalize L[k].p=g at *;have p1:(pic g).length=6:=rfl;have p2:(pic g).all PV.cell=true:=rfl;have p3:qB 6 (pic g)=pic g:=rfl;have p4:(pic g)[1]? =some (O J g.st):=rfl;have z1:(zD fm0).length=145:=rfl;have z3:qA 145 (zD fm0)=[]:=rfl;have z4:qB 145 (zD fm0)=zD fm0:=rfl;have z5:(zD fm0).all PV.cell=true:=rfl;have p6:qA 6 (pic g)=[]:=rfl;have af:=λb o K=>zlj H K i b (fmO o) hil (zn7 _ _);refine .go func74 ntmps74 results74 ?_;refine .e ?_;refine .a (?_:PW _ _ _ [(0,.ptr i 0 0),(1,.slice (itL L) L.length fl),(2,O J (k:Int)),(6,.ptr H.length 0 0),(7,.bool false)] (H++[⟨81,0,zD fm0⟩]) _);refine .view (Vs.place 41) ?_;rw[gU];refine .y [H.length+1] [(8,[0])] [(8,0)] [] λK hK=> ?_;refine sqx (nq2 hi1 (nq2 hi (nq2 t1 (nq2 ln (nq2 ip (nq2 p1 (nq2 p2 p3))))))) ?_;refine hK _ _ ?_;clear hK K;refine .g (nq2 hi1 (nq2 hi (nq2 hs (nq2 l1 s1)))) ?_;refine .a (?_:PW _ _ _ [(0,.ptr i 0 0),(1,.slice (itL L) L.length fl),(2,O J (k:Int)),(6,.ptr H.length 0 0),(7,.bool false),(8,.ptr (H.length+1) 1 0),(9,O J a.op)] (H.set i (asB { a with op:= -1 })++[⟨81,0,zD fm0⟩,⟨41,1,pic g⟩]) _) rfl (by rw[uL _ _ hil];rfl);have hsl:(H.set i (asB { a with op:= -1 })).length=H.length:=by simp
 have af:=λb o K=>zlj H K i b (fmO o) hil (zn7 _ _);have hX0:(H.set i (asB { a with op:= -1 }))[i]? =some (asB { a with op:= -1 }):=by simp[hil]
 have hX2:∀ b,(H.set i (asB { a with op:= -1 })).set i (asB b)=H.set i (asB b):=λb=>by simp_all
 generalize hXe:H.set i (asB { a with op:= -1 })=X at *;have hX1:∀ K,(X++K)[i]? =some (asB { a with op:= -1 }):=λK=>by grind
 have hX3:∀ K b,(X++K).set i b=X.set i b++K:=λK b=>uL _ _ om;rw[<-hsl];unfold asB at hX1;have u0:=zcr { a with op:= -1 } ha';have u1:=zoo { a with op:= -1 } ha';have u2:=zuv { a with op:= -1 } ha';dsimp only at u1 u2;suffices hrest:PW prog _ _ [(0,.ptr i 0 0),(1,.slice (itL L) L.length fl),(2,O J (k:Int)),(6,.ptr X.length 0 0),(7,.bool false),(8,.ptr (X.length+1) 1 0),(9,O J a.op),(36,.bool (!(a.kn&&zB a.sq g)))] (X++[⟨81,0,zD fm0⟩,⟨41,1,pic g⟩]) _ by
  cases hkn:a.kn with
  | false=>
   rw[hkn]at hrest;have u3:(zbt { a with op:= -1 })[135]? =some (.bool false):=u2.trans (by rw[hkn]);refine .dg λK hK=> ?_;simp(maxSteps:=9^9) (disch:=omega) only[go_sem,hX1,u0,u1,u3];refine hK _ _ ?_;clear hK K;exact .a hrest
  | true=>rw[hkn]at hrest;have u3:(zbt { a with op:= -1 })[135]? =some (.bool true):=u2.trans (by rw[hkn]);refine .dg λK hK=> ?_;simp(maxSteps:=9^9) (disch:=omega) only[go_sem,hX1,u0,u1,u3,p1,p2,p3];refine VCz.call (λ_=>pv _) rfl ?_;simp(maxSteps:=9^9) (disch:=omega) only[go_sem];refine hK _ _ ?_;clear hK K;exact .a hrest
 have hX4:∀ K b,(X++K).set i (asB b)=H.set i (asB b)++K:=λK b=>by rw[hX3,hX2]
 have hY0:∀ b F G,(H.set i (asB b)++[F,G])[X.length]? =some F:=λb F G=>by simp_all
 have hY1:∀ b F G,(H.set i (asB b)++[F,G])[X.length+1]? =some G:=λb F G=>by simp_all
 have hYs:∀ b F G B,(H.set i (asB b)++[F,G]).set X.length B=H.set i (asB b)++[B,G]:=λb F G B=>by simp_all
 have hret:∀ b f v (Fx:Fr) (Y:za),slot Fx 6= .ptr X.length 0 0->slot Fx 7= .bool v->Y=H.set i (asB b)++[⟨81,0,zD f⟩,⟨41,1,pic g⟩]->fmO r.2= .tup [.agg (zD f),.bool v]->b=r.1->SqL f.sq->zqe prog [.cell 6 81,.tmp 7] (Pm.Fin H (fmO r.2) (H.set i (asB r.1))) .ret Fx Y:=λb f v Fx Y h6 h7 e3 e1 e2 hf=>by subst e3;have w1:=zcp f hf;have w2:qB 145 (zD f)=zD f:=gH om;refine⟨.tup [.agg (zD f),.bool v],by simp(maxSteps:=9^9) (disch:=omega) only[go_sem,hY0,w1,w2,h6,h7,zw,zJ,uR,vA,uN,uD,uO],?_⟩;have:=af b r.2 [⟨81,0,zD f⟩,⟨41,1,pic g⟩];rw[e1]at this |-;rw[e2]at this |-;exact this
 have hz:SqL fm0.sq:=⟨rfl,rfl⟩;by_cases hv:(a.kn&&zB a.sq g)=false
 .rw[gD hv]at hr;rw[hv];refine .t (.g (nq2 z1 (nq2 z3 z5)) ?_);refine .ret (hret { a with op:= -1 } fm0 false _ _ rfl rfl ?_ ?_ ?_ hz)
  .rw[<-hXe];rfl
  .rw[<-hr];rfl
  .rw[<-hr]
 rw[gC hv]at hr;have hv':(a.kn&&zB a.sq g)=true:=by simp_all
 rw[hv'];refine .us (.b ?_);refine .g (nq2 p1 p4) ?_;by_cases h3:g.st=3
 .rw[gD h3]at hr;refine .c (λh=> ?_) (λh=> ?_);rotate_left
  .simp[h3]at h
  have cm':=λf l h K=>cm f l h (X++K) (hX1 K);dsimp only at cm';simp only[hX4]at cm';have w1:=zcp ⟨(k:Int),(k:Int),a.sq,g,a.rs,a.lk⟩ ha';refine .f (λK k=>by simp(maxSteps:=9^9) (disch:=omega) only[go_sem,p1,p2,p3];refine VCx.call (cm' _ _ _ _) rfl ?_;simp(maxSteps:=9^9) (disch:=omega) only[go_sem,hY0,hYs,z1,z3,w1,zcF,gQ];exact k) ?_;refine .ret (hret { a with op:= -1,rs:=false,lk:= -1 } ⟨(k:Int),(k:Int),a.sq,g,a.rs,a.lk⟩ true _ _ rfl rfl ?_ ?_ ?_ ha')
  .rfl
  .rw[<-hr];rfl
  .rw[<-hr];rfl
 rw[gC h3]at hr;refine .c (λh=> ?_) (λh=> ?_)
 .simp[h3]at h
 suffices hrest:∀ b,(b=true↔(a.op≠-1/\za4 (hdA L a.op) g=true))->PW prog _ _ [(0,.ptr i 0 0),(1,.slice (itL L) L.length fl),(2,O J (k:Int)),(6,.ptr X.length 0 0),(7,.bool false),(8,.ptr (X.length+1) 1 0),(9,O J a.op),(47,.bool b)] (X++[⟨81,0,zD fm0⟩,⟨41,1,pic g⟩]) _ by
  rcases hop with ho|⟨k2,ho,hk2⟩
  .have e0:(a.op== -1)=true:=by simp[ho]
   refine .dg λK hK=> ?_;simp(maxSteps:=9^9) (disch:=omega) only[go_sem,e0];refine hK _ _ ?_;clear hK K;exact .a (hrest false (by simp[ho]))
  .have e0:((k2:Int)== -1)=false:=by simp
   have ip2:=zeQ L hL k2 hk2;rw[ho,zhv L k2 hk2]at hrest;rw[ho];generalize L[k2].p=g2 at *;have pr:=λK=>zmr g2 g K;have y1:(pic g2).length=6:=rfl;have y2:(pic g2).all PV.cell=true:=rfl;refine .dg λK hK=> ?_;simp(maxSteps:=9^9) (disch:=omega) only[go_sem,e0,ln,ip2,p1,p2,p3,y1,y2];refine VCz.call (λ_=>pr _) rfl ?_;simp(maxSteps:=9^9) (disch:=omega) only[go_sem];refine hK _ _ ?_;clear hK K;exact .a (hrest (za4 g2 g) sp)
 intro b hb;refine .c (λh=> ?_) (λh=> ?_)
 .subst h;have ho:=hb.1 rfl;rw[gD ho]at hr;obtain⟨k2,ho2,hk2⟩:∃ k2:Nat,a.op=(k2:Int)/\k2<L.length:=by rcases hop with h|h;all_goals omega
  have ip2:=zeQ L hL k2 hk2;rw[ho2,zhv L k2 hk2]at hr;rw[ho2];generalize L[k2].p=g2 at *;have y1:(pic g2).length=6:=rfl;have y2:(pic g2).all PV.cell=true:=rfl;have cm':=λf l h K=>cm f l h (X++K) (hX1 K);dsimp only at cm';simp only[hX4]at cm';have w1:=zcp ⟨(k2:Int),(k:Int),a.sq,g2,a.rs,a.lk⟩ ha';refine .f (λK k=>by simp(maxSteps:=9^9) (disch:=omega) only[go_sem,ln,ip2,p1,p2,p3,y1,y2];refine VCx.call (cm' _ _ _ _) rfl ?_;simp(maxSteps:=9^9) (disch:=omega) only[go_sem,hY0,hYs,z1,z3,w1,zcF,gQ];exact k) ?_;refine .ret (hret { a with op:= -1,rs:=false,lk:= -1 } ⟨(k2:Int),(k:Int),a.sq,g2,a.rs,a.lk⟩ true _ _ rfl rfl ?_ ?_ ?_ ha')
  .rfl
  .rw[<-hr];rfl
  .rw[<-hr];rfl
 .subst h;rw[gC (λh=>by have:=hb.2 h;cases this)]at hr;refine .m (nq2 p1 (nq2 p2 p3)) ld ?_;cases hld:zbn g with
  | true=>
   rw[gD hld]at hr;refine .t ?_;have s3:=zlh { a with op:= -1 } ha' (k:Int);dsimp only at s3;refine .g (nq2 hX1 (nq2 u0 s3)) ?_;refine .a (?_:PW _ _ _ [(6,.ptr X.length 0 0),(7,.bool false)] (H.set i (asB { a with op:=(k:Int) })++[⟨81,0,zD fm0⟩,⟨41,1,pic g⟩]) _) rfl (hX4 _ { a with op:=(k:Int) });refine .g (nq2 hY0 (nq2 hYs (nq2 z1 (nq2 z3 z5)))) ?_;refine .ret (hret { a with op:=(k:Int) } fm0 false _ _ rfl rfl ?_ ?_ ?_ hz)
   .rfl
   .rw[<-hr];rfl
   .rw[<-hr]
  | false=>
   rw[gC (by rw[hld];simp)]at hr;refine .us (.g (nq2 z1 (nq2 z3 z5)) ?_);refine .ret (hret { a with op:= -1 } fm0 false _ _ rfl rfl ?_ ?_ ?_ hz)
   .rw[<-hXe];rfl
   .rw[<-hr];rfl
   .rw[<-hr]
end Go.Proofs.YtleejngibkbjnaaGreatDoor.Sc
