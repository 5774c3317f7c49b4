/-
  Parts of the proof, put together in one text. No condition.
-/
import Derived.Test.YtpjlfoficnpfoaaGreatDoorV17
open List renaming length_append → qA, take_of_length_le → qB, getElem?_append_left → qC, append_assoc → qD, take → qE, length_cons → qF, not_mem_nil → qH, append_nil → qI, mem_cons → qK, getElem?_append_right → qM, getElem?_eq_some_iff → qN, set_append_left → qO
open Nat renaming reduceAdd → qG, strongRecOn → qJ, div_eq_of_lt → qL, zero_le → qP
namespace Go.Proofs.YtpjlfoficnpfoaaGreatDoor.Sc
set_option linter.all false
open Pm Ty Go.RowKit
def hdr(q:List UInt8):Pi:=⟨(vl q 10 2:Int),(vl q 12 2:Int),(vl q 0 10:Int),(vl q 14 1:Int)==1,(vl q 15 1:Int)==1,(vl q 16 1:Int)==1⟩
end Go.Proofs.YtpjlfoficnpfoaaGreatDoor.Sc
namespace Go.Proofs.YtpjlfoficnpfoaaGreatDoor.S3
set_option linter.all false
open Pm Ty Sc Go.RowKit
set_option maxRecDepth 100000
theorem zu2(z c:Int)(H:za)(hz:0≤z)(hz2:z≤1000000000):CallOk Tryz.prog 161 [.int .i64 z,.int .u8 c] H (.int .i64 (if c=0 then z+1 else 0)) H:=by
 refine CallOk.body (F0:=[(0,.int .i64 z),(1,.int .u8 c)]) Tryz.func161 rfl Tryz.ntmps161 Tryz.results161 rfl kr rfl ?_;refine PW.seq ?_;refine PW.e ?_;refine PW.seq (PW.seq ?_);refine PW.e ?_;refine PW.cond (t:=_) rfl (fun h=> ?_) (fun h=> ?_)
 ·have hc:c=0:=by simpa using h
  refine PW.seq ?_;refine PW.e ?_;exact PW.ret ⟨_,rfl,.inl ⟨by rw[if_pos hc];rfl,rfl⟩⟩
 ·have hc:¬ c=0:=by simpa using h
  refine PW.skip ?_;refine PW.seq ?_;refine PW.e ?_;exact PW.ret ⟨_,rfl,.inl ⟨by rw[if_neg hc];rfl,rfl⟩⟩
def zer(p:List UInt8):Bool:=decide (0<p.length)&&(byt p (p.length - 1)==0)
theorem zrb(p:List UInt8)(full:Bool)(H:za)(hl:p.length≤1000000):CallOk Tryz.prog 160 [.slice (bs p) p.length full] H (.bool (zer p)) H:=by
 refine CallOk.body (F0:=[(0,.slice (bs p) p.length full)]) Tryz.func160 rfl Tryz.ntmps160 Tryz.results160 rfl kr rfl ?_;refine PW.seq ?_;refine PW.e ?_;refine PW.seq (PW.rg1 [2] [(2,.bool (zer p))] H rfl ?_ (PW.ret ⟨_,rfl,.inl ⟨rfl,rfl⟩⟩));by_cases h:0<p.length
 ·simp(disch:=omega) only[go_sem,↓reduceIte,reduceCtorEq,zc,zK];simp[zer,h]
 ·simp(disch:=omega) only[go_sem,↓reduceIte,reduceCtorEq,zc,zK];simp[zer,h]
def code(p:List UInt8)(j:Nat):Bool:=byt p j==0&&byt p (j+1)==0&&byt p (j+2)==1&&byt p (j+3) !=0
def zb2(s:List UInt8×Nat)(c:UInt8):List UInt8×Nat:=if s.2=2∧c.toNat<4 then(s.1++[3]++[c],if c.toNat=0 then 1 else 0)else(s.1++[c],if c.toNat=0 then s.2+1 else 0)
def zbc(p:List UInt8):List UInt8×Nat:=p.foldl zb2 ([],0)
def esc(p:List UInt8):List UInt8:=(zbc p).1
theorem zec(p:List UInt8)(c:UInt8):zbc (p++[c])=zb2 (zbc p) c:=by simp[zbc]
theorem zdS(s:List UInt8×Nat)(c:UInt8)(h1:s.2=2)(h2:c.toNat<4):zb2 s c=(s.1++[3]++[c],if c.toNat=0 then 0+1 else 0):=by unfold zb2;rw[if_pos ⟨h1,h2⟩]
theorem zeB(s:List UInt8×Nat)(c:UInt8)(h:¬(s.2=2∧c.toNat<4)):zb2 s c=(s.1++[c],if c.toNat=0 then s.2+1 else 0):=by unfold zb2;rw[if_neg h]
theorem zeS{motive:List UInt8→Prop}(nil:motive [])(snoc:∀ p c,motive p→motive (p++[c]))(p:List UInt8):motive p:=by
 have h:∀ q:List UInt8,motive q.reverse:=fun q=>by
  induction q with
  | nil=>exact nil
  | cons c q ih=>rw[List.reverse_cons];exact snoc _ _ ih
 have:=h p.reverse;rwa[List.reverse_reverse]at this
theorem zjE(p:List UInt8):(zbc p).2≤2∧(zbc p).1.length≤2 * p.length:=by
 induction p using zeS with
 | nil=>simp[zbc]
 | snoc p c ih=>
  rw[zec];unfold zb2;by_cases h1:(zbc p).2=2
  ·by_cases h2:c.toNat<4
   ·rw[if_pos ⟨h1,h2⟩];refine⟨by split<;>simp,by simp;omega⟩
   ·rw[if_neg (fun h=>h2 h.2)];refine⟨by rw[if_neg om];simp,by simp;omega⟩
  ·rw[if_neg (fun h=>h1 h.1)];refine⟨by split<;>simp<;>omega,by simp;omega⟩
def zag(p:List UInt8):List UInt8×Int:=if zer p then([],3)else(esc p,0)
def bv(p:List UInt8):PV:=.slice (bs p) p.length false
theorem ziC(p:List UInt8)(full:Bool)(H:za)(hl:p.length≤1000000):CallOk Tryz.prog 159 [.slice (bs p) p.length full] H (.tup [bv (zag p).1,.int .i64 (zag p).2]) H:=by
 refine CallOk.body (F0:=[(0,.slice (bs p) p.length full)]) Tryz.func159 rfl Tryz.ntmps159 Tryz.results159 rfl kr rfl ?_;refine PW.seq ?_;refine PW.e ?_;refine PW.seq (PW.seq ?_);refine PW.f (fun K k=>by simp(disch:=omega) only[go_sem,↓reduceIte,reduceCtorEq];refine VCx.call (zrb p full H hl) rfl ?_;simp(disch:=omega) only[go_sem,↓reduceIte,reduceCtorEq];exact k) ?_;(repeat refine PW.seq ?_);refine PW.cond (t:=_) rfl (fun h=> ?_) (fun h=> ?_)
 ·have he:zag p=([],3):=by rw[zag,if_pos h]
  rw[he];refine PW.seq ?_;refine PW.e ?_;exact PW.ret ⟨_,rfl,Fin.give (Kept.refl H) (Frz.tup2 (Frz.slice (zbd [])) ((Still.int _ _).frz _ _))⟩
 have he:zag p=(esc p,0):=by rw[zag,if_neg (by simp[h])]
 rw[he];refine PW.skip (PW.seq ?_);refine PW.f (fun K k=>by simp(disch:=omega) only[go_sem,↓reduceIte,reduceCtorEq,zc];exact k) ?_;refine PW.seq ?_;refine PW.e ?_;refine PW.seq (PW.seq ?_);refine PW.e ?_;refine PW.block (PW.loop ?_);suffices hloop:∀(k:Nat) (v:PV) (H1:za),k≤p.length→Acc H.length 5 1 H1 v (bs (zbc (p.take k)).1) (zbc (p.take k)).1.length→Kept H.length H H1→
   PL Tryz.prog _ _ [(0,.slice (bs p) p.length full),(4,v),(5,.int .i64 ((zbc (p.take k)).2:Int)),(12,.slice (bs p) p.length full),(13,.int .i64 (p.length:Int)),(14,.int .i64 (k:Int))] H1 _ by
  exact PL.keep [0,4,5,12,13,14] (hloop 0 _ H (qP _) (Acc.nil _ _ _ _) (Kept.refl H))
 intro k v H1 hk hacc hkept;induction hm:p.length - k using qJ generalizing k v H1 with
 | _ n ih=>
  have hbd:=zjE (p.take k);have hlk:(p.take k).length=k:=by simp;omega
  refine PL.round (PW.seq ?_);refine PW.e ?_;refine PW.seq ?_;(repeat refine PW.seq ?_);refine PW.cond (t:=_) rfl (fun h=> ?_) (fun h=> ?_)
  ·have h4:k<p.length:=ot h;have hby:=zf4 p k;refine PW.skip (PW.seq (PW.block (PW.seq ?_)));refine PW.f (fun K k=>by simp(disch:=omega) only[go_sem,↓reduceIte,reduceCtorEq,zc,zK];exact k) ?_;have hc:byt p k=((p.getD k 0).toNat:Int):=rfl;refine PW.join [0,4,5,7,12,13,14] (fun F' H'=>∃ v1 out1 z1,F'=[(0,.slice (bs p) p.length full),(4,v1),(5,.int .i64 (z1:Nat)),(7,.int .u8 (byt p k)),(12,.slice (bs p) p.length full),(13,.int .i64 (p.length:Int)),(14,.int .i64 (k:Int))]∧
    Acc H.length 5 1 H' v1 (bs out1) out1.length∧Kept H.length H H'∧out1.length≤2 * k+1∧z1≤2∧(out1++[p.getD k 0],if(p.getD k 0).toNat=0 then z1+1 else 0)=zb2 (zbc (p.take k)) (p.getD k 0)) ?_ ?_
   ·refine PW.seq (PW.rg1 [0,4,5,7,12,13,14,23] [(0,.slice (bs p) p.length full),(4,v),(5,.int .i64 ((zbc (p.take k)).2:Int)),(7,.int .u8 (byt p k)),(12,.slice (bs p) p.length full),(13,.int .i64 (p.length:Int)),(14,.int .i64 (k:Int)),(23,.bool (decide ((zbc (p.take k)).2=2∧byt p k<4)))] H1 rfl ?_ ?_)
    ·by_cases h2:(zbc (p.take k)).2=2
     ·simp(disch:=omega) only[go_sem,↓reduceIte,reduceCtorEq];try simp[h2]
     ·simp(disch:=omega) only[go_sem,↓reduceIte,reduceCtorEq];try simp[h2]
    (repeat refine PW.seq ?_);refine PW.cond (t:=_) rfl (fun h=> ?_) (fun h=> ?_)
    ·have h5:=of_decide_eq_true h;obtain⟨v2,H2,hap,hacc2,hg2,ho2⟩:=hacc.append (P:=Tryz.prog) (t:=31) (tx:=31) (x:=.slice [.int .u8 3] 1 true) (news:=bs [3]) (m:=1) Tryz.underlying31 (show szT Tryz.prog 5=some 1 from by kernel_rfl) (show byT Tryz.prog 5=some 1 from by kernel_rfl) (show zd Tryz.prog 5=some (([.int .u8 0]:List PV))from by kernel_rfl) (by decide) rfl
      (by simp[zaA,Tryz.underlying31,zac,bs]) rfl om om hkept.1
     refine PW.seq ?_;refine PW.f (fun K k=>by simp(disch:=omega) only[go_sem,↓reduceIte,reduceCtorEq,zc2,hap];exact k) ?_;refine PW.e ?_;exact⟨v2,(zbc (p.take k)).1++[3],0,rfl,by rw[zz,qA];exact hacc2,hkept.grew hg2 (fun j hj=>(hacc.own_ge j hj).1),by simp;omega,om,by rw[zdS _ _ h5.1 om]⟩
    ·have h5:=of_decide_eq_false h;exact PW.skip ⟨v,(zbc (p.take k)).1,(zbc (p.take k)).2,rfl,hacc,hkept,om,om,by rw[zeB _ _ (fun hh=>h5 ⟨hh.1,om⟩)]⟩
   ·rintro F' H' ⟨v1,out1,z1,rfl,hacc1,hkept1,hl1,hz1,hstep⟩;obtain⟨v2,H2,hap,hacc2,hg2,ho2⟩:=hacc1.append (P:=Tryz.prog) (t:=31) (tx:=31) (x:=.slice [.int .u8 (byt p k)] 1 true) (news:=bs [p.getD k 0]) (m:=1) Tryz.underlying31 (show szT Tryz.prog 5=some 1 from by kernel_rfl) (show byT Tryz.prog 5=some 1 from by kernel_rfl) (show zd Tryz.prog 5=some (([.int .u8 0]:List PV))from by kernel_rfl) (by decide) rfl
     (by simp[zaA,Tryz.underlying31,zac,bs,byt]) rfl om om hkept1.1
    refine PW.seq ?_;refine PW.f (fun K k=>by simp(disch:=omega) only[go_sem,↓reduceIte,reduceCtorEq,zc2,hap];exact k) ?_;refine PW.f (fun K kk=>by simp(disch:=omega) only[go_sem,↓reduceIte,reduceCtorEq];refine VCx.call (zu2 (z1:Int) (byt p k) H2 om om) rfl ?_;simp(disch:=omega) only[go_sem,↓reduceIte,reduceCtorEq];exact kk) ?_;refine PW.e ?_;have e1:p.take (k+1)=p.take k++[p.getD k 0]:=zdw p k h4;have e2:zbc (p.take (k+1))=(out1++[p.getD k 0],if(p.getD k 0).toNat=0 then z1+1 else 0):=by rw[e1,zec,hstep]
    have e3:(if byt p k=0 then(z1:Int)+1 else 0)=((if(p.getD k 0).toNat=0 then z1+1 else 0:Nat):Int):=by
     rw[hc];by_cases h0:(p.getD k 0).toNat=0
     ·rw[if_pos om,if_pos h0];rfl
     ·rw[if_neg om,if_neg h0];rfl
    rw[e3];refine PL.keep [0,4,5,12,13,14] ?_;have hi:=ih (p.length - (k+1)) om (k+1) v2 H2 om (by rw[e2,zz,qA];exact hacc2) (hkept1.grew hg2 (fun j hj=>(hacc1.own_ge j hj).1)) rfl;rw[e2]at hi;exact hi
  ·have h4:k=p.length:=ofF h;subst h4;rw[List.take_length]at hacc;refine PW.exit (PW.seq ?_);refine PW.e ?_;exact PW.ret ⟨_,rfl,Fin.give hkept (Frz.tup2 (Frz.acc hacc (zbd _)) ((Still.int _ _).frz _ _))⟩
def tz(l:List UInt8):Nat:=(l.reverse.takeWhile (· =0)).length
theorem zeI(l:List UInt8)(c:UInt8):tz (l++[c])=if c.toNat=0 then tz l+1 else 0:=by
 unfold tz;rw[List.reverse_append,List.reverse_singleton,List.singleton_append,List.takeWhile_cons];by_cases h:c=0
 ·subst h;simp
 ·have:¬ c.toNat=0:=fun e=>h (UInt8.toNat_inj.1 (by simpa using e));simp[h,this]
theorem zuw(p:List UInt8):tz (zbc p).1=(zbc p).2:=by
 induction p using zeS with
 | nil=>rfl
 | snoc p c ih=>
  rw[zec];by_cases h:(zbc p).2=2∧c.toNat<4
  ·rw[zdS _ _ h.1 h.2,zeI,zeI];simp
  ·rw[zeB _ _ h,zeI,ih]
theorem zuv(l:List UInt8):2≤tz l↔2≤l.length∧byt l (l.length - 1)=0∧byt l (l.length - 2)=0:=by
 induction l using zeS with
 | nil=>simp[tz]
 | snoc l a _=>
  rw[zeI];have e1:byt (l++[a]) ((l++[a]).length - 1)=(a.toNat:Int):=by simp[byt]
  by_cases ha:a.toNat=0
  ·rw[if_pos ha,e1];induction l using zeS with
   | nil=>simp[tz]
   | snoc l b _=>
    have e2:byt (l++[b]++[a]) ((l++[b]++[a]).length - 2)=(b.toNat:Int):=by simp[byt]
    rw[zeI,e2];by_cases hb:b.toNat=0
    ·rw[if_pos hb];simp;omega
    ·rw[if_neg hb];simp;omega
  ·rw[if_neg ha,e1];simp;omega
theorem zmh(p:List UInt8)(full:Bool)(H:za)(hl:p.length≤1000000):CallOk Tryz.prog 189 [.slice (bs p) p.length full] H (.tup [bv (zag p).1,.int .i64 (zag p).2]) H:=by
 refine CallOk.body (F0:=[(0,.slice (bs p) p.length full)]) Tryz.func189 rfl Tryz.ntmps189 Tryz.results189 rfl kr rfl ?_;refine PW.seq ?_;refine PW.e ?_;refine PW.seq (PW.seq (PW.rg1 [0,18] [(0,.slice (bs p) p.length full),(18,.bool (zer p))] H rfl ?_ ?_))
 ·by_cases h:0<p.length
  ·simp(disch:=omega) only[go_sem,↓reduceIte,reduceCtorEq,zc,zK];simp[zer,h]
  ·simp(disch:=omega) only[go_sem,↓reduceIte,reduceCtorEq,zc,zK];simp[zer,h]
 (repeat refine PW.seq ?_);refine PW.cond (t:=_) rfl (fun h=> ?_) (fun h=> ?_)
 ·have he:zag p=([],3):=by rw[zag,if_pos h]
  rw[he];refine PW.seq ?_;refine PW.e ?_;exact PW.ret ⟨_,rfl,Fin.give (Kept.refl H) (Frz.tup2 (Frz.slice (zbd [])) ((Still.int _ _).frz _ _))⟩
 have he:zag p=(esc p,0):=by rw[zag,if_neg (by simp[h])]
 rw[he];refine PW.skip (PW.seq ?_);refine PW.e ?_;refine PW.seq (PW.seq ?_);refine PW.e ?_;refine PW.block (PW.loop ?_);suffices hloop:∀(k:Nat) (v:PV) (H1:za),k≤p.length→Acc H.length 5 1 H1 v (bs (zbc (p.take k)).1) (zbc (p.take k)).1.length→Kept H.length H H1→
   PL Tryz.prog _ _ [(0,.slice (bs p) p.length full),(4,v),(5,.int .i64 (k:Int))] H1 _ by
  exact PL.keep [0,4,5] (hloop 0 _ H (qP _) (Acc.nil _ _ _ _) (Kept.refl H))
 intro k v H1 hk hacc hkept;induction hm:p.length - k using qJ generalizing k v H1 with
 | _ n ih=>
  have hbd:=zjE (p.take k);have hlk:(p.take k).length=k:=by simp;omega
  refine PL.round (PW.seq (PW.seq ?_));refine PW.e ?_;(repeat refine PW.seq ?_);refine PW.cond (t:=_) rfl (fun h=> ?_) (fun h=> ?_)
  ·have h4:k<p.length:=ot h;have hby:=zf4 p k;have hc:byt p k=((p.getD k 0).toNat:Int):=rfl;have hlen:=hacc.len (P:=Tryz.prog) Tryz.underlying31;refine PW.skip (PW.seq (PW.block (PW.seq ?_)));refine PW.f (fun K k=>by simp(disch:=omega) only[go_sem,↓reduceIte,reduceCtorEq,pappend,↓hlen];exact k) ?_;refine PW.join [0,4,5] (fun F' H'=>∃ v1 out1,F'=[(0,.slice (bs p) p.length full),(4,v1),(5,.int .i64 (k:Int))]∧
    Acc H.length 5 1 H' v1 (bs out1) out1.length∧Kept H.length H H'∧out1.length≤2 * k+1∧out1++[p.getD k 0]=(zb2 (zbc (p.take k)) (p.getD k 0)).1) ?_ ?_
   ·refine PW.seq (PW.rg1 [0,4,5,51] [(0,.slice (bs p) p.length full),(4,v),(5,.int .i64 (k:Int)),(51,.bool (decide ((zbc (p.take k)).2=2∧byt p k<4)))] H1 rfl ?_ ?_)
    ·have ht:=zuv (zbc (p.take k)).1;rw[zuw]at ht;generalize (zbc (p.take k)).1=out at *;generalize (zbc (p.take k)).2=z at *;have hd:decide (z=2∧byt p k<4)=(decide (byt p k<4)&&decide (2≤out.length)&&(byt out (out.length - 1)==0)&&(byt out (out.length - 2)==0)):=by rw[Bool.eq_iff_iff];simp;omega
     rw[hd];by_cases h1:byt p k<4
     ·by_cases h2:2≤out.length
      ·rcases hacc.2 with rfl|⟨id,ver,hid,rfl,hkk⟩;all_goals by_cases h3:byt out (out.length - 1)=0
       ·simp(disch:=omega) only[go_sem,↓reduceIte,reduceCtorEq,zc,zK];all_goals simp[h1,h2,h3]
       ·simp(disch:=omega) only[go_sem,↓reduceIte,reduceCtorEq,zc,zK];all_goals simp[h1,h2,h3]
       ·simp(disch:=omega) only[go_sem,↓reduceIte,reduceCtorEq,zc,zK,hkk];all_goals simp[h1,h2,h3]
       ·simp(disch:=omega) only[go_sem,↓reduceIte,reduceCtorEq,zc,zK,hkk];all_goals simp[h1,h2,h3]
      ·simp(disch:=omega) only[go_sem,↓reduceIte,reduceCtorEq,zc,zK];try simp[h1,h2]
     ·simp(disch:=omega) only[go_sem,↓reduceIte,reduceCtorEq,zc,zK];try simp[h1]
    (repeat refine PW.seq ?_);refine PW.cond (t:=_) rfl (fun h=> ?_) (fun h=> ?_)
    ·have h5:=of_decide_eq_true h;obtain⟨v2,H2,hap,hacc2,hg2,ho2⟩:=hacc.append (P:=Tryz.prog) (t:=31) (tx:=31) (x:=.slice [.int .u8 3] 1 true) (news:=bs [3]) (m:=1) Tryz.underlying31 (show szT Tryz.prog 5=some 1 from by kernel_rfl) (show byT Tryz.prog 5=some 1 from by kernel_rfl) (show zd Tryz.prog 5=some (([.int .u8 0]:List PV))from by kernel_rfl) (by decide) rfl
      (by simp[zaA,Tryz.underlying31,zac,bs]) rfl om om hkept.1
     refine PW.f (fun K k=>by simp(disch:=omega) only[go_sem,↓reduceIte,reduceCtorEq,zc2,hap];exact k) ?_;exact⟨v2,(zbc (p.take k)).1++[3],rfl,by rw[zz,qA];exact hacc2,hkept.grew hg2 (fun j hj=>(hacc.own_ge j hj).1),by simp;omega,by rw[zdS _ _ h5.1 om]⟩
    ·have h5:=of_decide_eq_false h;exact PW.skip ⟨v,(zbc (p.take k)).1,rfl,hacc,hkept,om,by rw[zeB _ _ (fun hh=>h5 ⟨hh.1,om⟩)]⟩
   ·rintro F' H' ⟨v1,out1,rfl,hacc1,hkept1,hl1,hstep⟩;obtain⟨v2,H2,hap,hacc2,hg2,ho2⟩:=hacc1.append (P:=Tryz.prog) (t:=31) (tx:=31) (x:=.slice [.int .u8 (byt p k)] 1 true) (news:=bs [p.getD k 0]) (m:=1) Tryz.underlying31 (show szT Tryz.prog 5=some 1 from by kernel_rfl) (show byT Tryz.prog 5=some 1 from by kernel_rfl) (show zd Tryz.prog 5=some (([.int .u8 0]:List PV))from by kernel_rfl) (by decide) rfl
     (by simp[zaA,Tryz.underlying31,zac,bs,byt]) rfl om om hkept1.1
    refine PW.f (fun K k=>by simp(disch:=omega) only[go_sem,↓reduceIte,reduceCtorEq,zc2,hap,zc,zK];exact k) ?_;refine PW.e ?_;have e1:p.take (k+1)=p.take k++[p.getD k 0]:=zdw p k h4;have e2:(zbc (p.take (k+1))).1=out1++[p.getD k 0]:=by rw[e1,zec,hstep]
    refine PL.keep [0,4,5] ?_;exact ih (p.length - (k+1)) om (k+1) v2 H2 om (by rw[e2,zz,qA];exact hacc2) (hkept1.grew hg2 (fun j hj=>(hacc1.own_ge j hj).1)) rfl
  ·have h4:k=p.length:=ofF h;subst h4;rw[List.take_length]at hacc;refine PW.exit (PW.seq ?_);refine PW.e ?_;exact PW.ret ⟨_,rfl,Fin.give hkept (Frz.tup2 (Frz.acc hacc (zbd _)) ((Still.int _ _).frz _ _))⟩
def zT(t:Int)(p:List UInt8):List UInt8×Int:=if t<1∨255<t then([],1)else if(zag p).2=0 then([0,0,1,UInt8.ofNat t.toNat]++(zag p).1,0)else([],(zag p).2)
theorem zfh(p:List UInt8):(zag p).1.length≤2 * p.length:=by
 unfold zag;split
 ·simp
 ·exact(zjE p).2
theorem zix(t:Int)(p:List UInt8)(full:Bool)(H:za)(hl:p.length≤1000000):
  CallOk Tryz.prog 92 [.agg [.int .i64 t,.slice (bs p) p.length full]] H (.tup [bv (zT t p).1,.int .i64 (zT t p).2]) H:=by
 refine CallOk.body (F0:=[(0,.agg [.int .i64 t,.slice (bs p) p.length full])]) Tryz.func92 rfl Tryz.ntmps92 Tryz.results92 rfl kr rfl ?_;refine PW.seq ?_;refine PW.e ?_;refine PW.seq (PW.seq (PW.rg1 [1,13] [(1,.ptr H.length 0 0),(13,.bool (decide (t<1∨255<t)))] (H++[⟨58,0,[.int .i64 t,.slice (bs p) p.length full]⟩]) rfl ?_ ?_))
 ·by_cases h:t<1
  ·simp(disch:=omega) only[go_sem,↓reduceIte,reduceCtorEq];all_goals simp[h]
  ·simp(disch:=omega) only[go_sem,↓reduceIte,reduceCtorEq];all_goals simp[h]
 (repeat refine PW.seq ?_);refine PW.cond (t:=_) rfl (fun h=> ?_) (fun h=> ?_)
 ·have h1:=of_decide_eq_true h;have he:zT t p=([],1):=by rw[zT,if_pos h1]
  rw[he];refine PW.seq ?_;refine PW.e ?_;exact PW.ret ⟨_,rfl,Fin.give (Kept.more H _) (Frz.tup2 (Frz.slice (zbd [])) ((Still.int _ _).frz _ _))⟩
 have h1:=of_decide_eq_false h;refine PW.skip (PW.seq ?_);refine PW.f (fun K k=>by simp(disch:=omega) only[go_sem,↓reduceIte,reduceCtorEq];refine VCx.call (ziC p full _ hl) rfl ?_;simp(disch:=omega) only[go_sem,↓reduceIte,reduceCtorEq];exact k) ?_;refine PW.seq (PW.seq ?_);refine PW.e ?_;(repeat refine PW.seq ?_);refine PW.cond (t:=_) rfl (fun h=> ?_) (fun h=> ?_)
 ·have h2:¬(zag p).2=0:=by simpa using h
  have he:zT t p=([],(zag p).2):=by rw[zT,if_neg h1,if_neg h2]
  rw[he];refine PW.seq ?_;refine PW.e ?_;exact PW.ret ⟨_,rfl,Fin.give (Kept.more H _) (Frz.tup2 (Frz.slice (zbd [])) ((Still.int _ _).frz _ _))⟩
 have h2:(zag p).2=0:=by simpa using h
 have he:zT t p=([0,0,1,UInt8.ofNat t.toNat]++(zag p).1,0):=by rw[zT,if_neg h1,if_pos h2]
 rw[he];have hlen:=zfh p;have hacc:Acc H.length 5 1 (H++[⟨58,0,[.int .i64 t,.slice (bs p) p.length full]⟩]) (.slice (bs [0,0,1,UInt8.ofNat t.toNat]) 4 true) (bs [0,0,1,UInt8.ofNat t.toNat]) 4:=⟨rfl,.inl rfl⟩;have hcell:bs [0,0,1,UInt8.ofNat t.toNat]=[.int .u8 0,.int .u8 0,.int .u8 1,.int .u8 t]:=by simp[bs];omega
 obtain⟨v2,H2,hap,hacc2,hg2,ho2⟩:=hacc.append (P:=Tryz.prog) (t:=31) (tx:=31) (x:=bv (zag p).1) (news:=bs (zag p).1) (m:=(zag p).1.length) Tryz.underlying31 (show szT Tryz.prog 5=some 1 from by kernel_rfl) (show byT Tryz.prog 5=some 1 from by kernel_rfl) (show zd Tryz.prog 5=some (([.int .u8 0]:List PV))from by kernel_rfl) (by decide) rfl
  (by simp[zaA,Tryz.underlying31,zac,bv,zc]) (by simp[zc]) om om sp
 rw[hcell]at hap;refine PW.skip (PW.seq ?_);refine PW.f (fun K k=>by simp(disch:=omega) only[go_sem,↓reduceIte,reduceCtorEq,zc2,hap];exact k) ?_;have hb:bv ([0,0,1,UInt8.ofNat t.toNat]++(zag p).1)= .slice (bs ([0,0,1,UInt8.ofNat t.toNat]++(zag p).1)) (4+(zag p).1.length) false:=by simp[bv];omega
 exact PW.ret ⟨_,rfl,Fin.give ((Kept.more H _).grew hg2 (fun j hj=>(hacc.own_ge j hj).1)) (Frz.tup2 (by
  have:=Frz.acc hacc2 (by rw[←zz];exact zbd _);rw[←zz]at this;rw[hb];exact this) ((Still.int _ _).frz _ _))⟩
theorem zhF(t:Int)(p:List UInt8)(full:Bool)(H:za)(hl:p.length≤1000000):
  CallOk Tryz.prog 114 [.agg [.int .i64 t,.slice (bs p) p.length full]] H (.tup [bv (zT t p).1,.int .i64 (zT t p).2]) H:=by
 refine CallOk.body (F0:=[(0,.agg [.int .i64 t,.slice (bs p) p.length full])]) Tryz.func114 rfl Tryz.ntmps114 Tryz.results114 rfl kr rfl ?_;refine PW.seq ?_;refine PW.e ?_;refine PW.seq (PW.seq (PW.rg1 [1,13] [(1,.ptr H.length 0 0),(13,.bool (decide (t<1∨255<t)))] (H++[⟨58,0,[.int .i64 t,.slice (bs p) p.length full]⟩]) rfl ?_ ?_))
 ·by_cases h:t<1
  ·simp(disch:=omega) only[go_sem,↓reduceIte,reduceCtorEq];all_goals simp[h]
  ·simp(disch:=omega) only[go_sem,↓reduceIte,reduceCtorEq];all_goals simp[h]
 (repeat refine PW.seq ?_);refine PW.cond (t:=_) rfl (fun h=> ?_) (fun h=> ?_)
 ·have h1:=of_decide_eq_true h;have he:zT t p=([],1):=by rw[zT,if_pos h1]
  rw[he];refine PW.seq ?_;refine PW.e ?_;exact PW.ret ⟨_,rfl,Fin.give (Kept.more H _) (Frz.tup2 (Frz.slice (zbd [])) ((Still.int _ _).frz _ _))⟩
 have h1:=of_decide_eq_false h;refine PW.skip (PW.seq ?_);refine PW.f (fun K k=>by simp(disch:=omega) only[go_sem,↓reduceIte,reduceCtorEq];refine VCx.call (zmh p full _ hl) rfl ?_;simp(disch:=omega) only[go_sem,↓reduceIte,reduceCtorEq];exact k) ?_;refine PW.seq (PW.seq ?_);refine PW.e ?_;(repeat refine PW.seq ?_);refine PW.cond (t:=_) rfl (fun h=> ?_) (fun h=> ?_)
 ·have h2:¬(zag p).2=0:=by simpa using h
  have he:zT t p=([],(zag p).2):=by rw[zT,if_neg h1,if_neg h2]
  rw[he];refine PW.seq ?_;refine PW.e ?_;exact PW.ret ⟨_,rfl,Fin.give (Kept.more H _) (Frz.tup2 (Frz.slice (zbd [])) ((Still.int _ _).frz _ _))⟩
 have h2:(zag p).2=0:=by simpa using h
 have he:zT t p=([0,0,1,UInt8.ofNat t.toNat]++(zag p).1,0):=by rw[zT,if_neg h1,if_pos h2]
 rw[he];have hlen:=zfh p;have hacc:Acc H.length 5 1 (H++[⟨58,0,[.int .i64 t,.slice (bs p) p.length full]⟩]) (.slice (bs [0,0,1,UInt8.ofNat t.toNat]) 4 true) (bs [0,0,1,UInt8.ofNat t.toNat]) 4:=⟨rfl,.inl rfl⟩;have hcell:bs [0,0,1,UInt8.ofNat t.toNat]=[.int .u8 0,.int .u8 0,.int .u8 1,.int .u8 t]:=by simp[bs];omega
 obtain⟨v2,H2,hap,hacc2,hg2,ho2⟩:=hacc.append (P:=Tryz.prog) (t:=31) (tx:=31) (x:=bv (zag p).1) (news:=bs (zag p).1) (m:=(zag p).1.length) Tryz.underlying31 (show szT Tryz.prog 5=some 1 from by kernel_rfl) (show byT Tryz.prog 5=some 1 from by kernel_rfl) (show zd Tryz.prog 5=some (([.int .u8 0]:List PV))from by kernel_rfl) (by decide) rfl
  (by simp[zaA,Tryz.underlying31,zac,bv,zc]) (by simp[zc]) om om sp
 rw[hcell]at hap;refine PW.skip (PW.seq ?_);refine PW.f (fun K k=>by simp(disch:=omega) only[go_sem,↓reduceIte,reduceCtorEq,zc2,hap];exact k) ?_;have hb:bv ([0,0,1,UInt8.ofNat t.toNat]++(zag p).1)= .slice (bs ([0,0,1,UInt8.ofNat t.toNat]++(zag p).1)) (4+(zag p).1.length) false:=by simp[bv];omega
 exact PW.ret ⟨_,rfl,Fin.give ((Kept.more H _).grew hg2 (fun j hj=>(hacc.own_ge j hj).1)) (Frz.tup2 (by
  have:=Frz.acc hacc2 (by rw[←zz];exact zbd _);rw[←zz]at this;rw[hb];exact this) ((Still.int _ _).frz _ _))⟩
end Go.Proofs.YtpjlfoficnpfoaaGreatDoor.S3
namespace Go.Proofs.YtpjlfoficnpfoaaGreatDoor.Sc
set_option linter.all false
open Pm Ty Go.RowKit
def scn:List Nat:=[0,1,8,16,9,2,3,10,17,24,32,25,18,11,4,5,12,19,26,33,40,48,41,34,27,20,13,6,7,14,21,28,35,42,49,56,57,50,43,36,29,22,15,23,30,37,44,51,58,59,52,45,38,31,39,46,53,60,61,54,47,55,62,63]
def scV:List PV:=scn.map fun n:Nat=>PV.int .i64 (n:Int)
def dIn:List UInt8:=[8,16,19,22,26,27,29,34,16,16,22,24,27,29,34,37,19,22,26,27,29,34,34,38,22,22,26,27,29,34,37,40,22,26,27,29,32,35,40,48,26,27,29,32,35,40,48,58,26,27,29,34,38,46,56,69,27,29,35,38,46,56,69,83]
def dIt:List UInt8:=List.replicate 64 16
theorem zgr:∀ x∈([]:List PV),Scoped 0 x:=fun x hx=>by cases hx
theorem zkT(b:Bool):∀ x∈[PV.bool b],Scoped 0 x:=fun x hx=>by rw[List.mem_singleton]at hx;rw[hx];exact .bool _
theorem zvP(H:za):CallOk Tryz.prog 156 [] H (.agg (bs dIn)) H:=CallOk.evalV 1000 kr zgr
theorem zvN(H:za):CallOk Tryz.prog 157 [] H (.agg (bs dIt)) H:=CallOk.evalV 100000 kr zgr
theorem ztd(H:za):CallOk Tryz.prog 267 [] H (.agg (bs dIn)) H:=CallOk.evalV 1000 kr zgr
theorem ztc(H:za):CallOk Tryz.prog 268 [] H (.agg (bs dIt)) H:=CallOk.evalV 100000 kr zgr
theorem zpC(H:za):CallOk Tryz.prog 234 [.bool false] H (.agg scV) H:=CallOk.evalV 1000000 kr (zkT _)
theorem zsn(H:za):CallOk Tryz.prog 241 [.bool false] H (.agg scV) H:=CallOk.evalV 1000000 kr (zkT _)
def sk(p:Nat):Nat:=scn.getD p 0
theorem znm:dIn.length=64:=rfl
theorem znl:dIt.length=64:=rfl
theorem zsm:scn.length=64:=rfl
theorem zmJ(p:Nat)(h:p<64):sk p<64:=by
 have:∀ p<64,sk p<64:=by decide+kernel
 exact this p h
def mxe(m:List UInt8):Nat→List Bool
 | 0=>[]
 | p+1=>mxe m p++zj (m.getD (sk p) 0).toNat 8
theorem zgs(m:List UInt8):∀ p,(mxe m p).length=p * 8
 | 0=>rfl
 | p+1=>by rw[mxe,qA,zgs m p,zm];omega
def mxb(m u:List UInt8):List Bool:=if m=u then[false]else true::mxe m 64
theorem zd3(m u:List UInt8):(mxb m u).length≤513:=by
 unfold mxb;split
 ·simp
 ·rw[qF,zgs];omega
def zg4(s:Sq):List Bool:=zj (s.w / 16).toNat 8++(zj (s.h / 16).toNat 8++(zj s.num.toNat 32++(zj s.den.toNat 32++([s.il]++(zj s.br.toNat 32++(zj s.bf.toNat 32++(mxb s.ia dIn++mxb s.ie dIt)))))))
def zeX(s:Sq):Int×List UInt8×Int:=if za6 s then(179,pk (zg4 s++[true]),0)else(0,[],1)
def zbr(c b:Bool)(t:Int):List Bool:=[c,b]++zj t.toNat 24
def zeY(c b:Bool)(t:Int):Int×List UInt8×Int:=if 0≤t∧t<16777216 then(184,pk (zbr c b t++[true]),0)else(0,[],1)
def nm(st:Bool)(q:List UInt8)(n:Nat)(x:Nat×Nat)(k:Nat):Nat×Nat×Nat:=if x.2≠0 then(0,x)else if x.1+k≤n then(vl q x.1 k,x.1+k,0)else(0,x.1,if st then 4 else 0)
theorem ztW{st:Bool}{q:List UInt8}{n:Nat}{x:Nat×Nat}{k:Nat}(h:x.1≤n):(nm st q n x k).2.1≤n:=by
 unfold nm;split
 ·exact h
 ·split
  ·assumption
  ·exact h
def AtB(q:List UInt8)(a:Nat)(l:List Bool):Prop:=∀ i,i<l.length→zN q (a+i)=bn l i
theorem AtB.left{q:List UInt8}{a:Nat}{l m:List Bool}(h:AtB q a (l++m)):AtB q a l:=fun i hi=>by rw[h i (by rw[qA];omega),znp _ _ _ hi]
theorem AtB.right{q:List UInt8}{a:Nat}{l m:List Bool}(h:AtB q a (l++m)):AtB q (a+l.length) m:=fun i hi=>by rw[Nat.add_assoc,h (l.length+i) (by rw[qA];omega),zli _ _ _ om,show l.length+i - l.length=i from om]
theorem AtB.vl{q:List UInt8}{a V n:Nat}(h:AtB q a (zj V n))(hV:V<2^n):vl q a n=V:=zup _ _ _ _ hV fun i hi=>by rw[h i (by rw[zm];exact hi),zrt V n i hi]
theorem AtB.nm{st:Bool}{q:List UInt8}{a n V k:Nat}{l:List Bool}(h:AtB q a (zj V k++l))(hV:V<2^k)(hn:a+(zj V k++l).length≤n):nm st q n (a,0) k=(V,a+k,0)∧AtB q (a+k) l∧a+k+l.length≤n:=by
 rw[qA,zm]at hn;refine⟨?_,?_,om⟩
 ·unfold Sc.nm;rw[if_neg sp,if_pos (by show a+k≤n;omega),h.left.vl hV]
 ·have:=h.right;rwa[zm]at this
theorem zw8(p q:List UInt8)(h:p.length=64)(h':q.length=64):(if szT Tryz.prog 5=some 1∧(bs p).length=64∧(bs q).length=64 then zeg (.int .u8) (bs p) (bs q)else none)=some (p==q):=by rw[←znd];exact eqU p q h h'
theorem eqB(p q:List UInt8)(h:p.length=64)(h':q.length=64):zeg (.int .u8) (bs p) (bs q)=some (p==q):=by have:=zw8 p q h h';rwa[if_pos ⟨by kernel_rfl,by rw[zc];exact h,by rw[zc];exact h'⟩]at this
theorem zkc{H K:za}{i j:Nat}{A B:Blk}(hi:i<H.length)(hj:j<H.length):two (H++K) i j A B=two H i j A B++K:=by unfold two;rw[qO _ _ hi,qO _ _ (by rw[List.length_set];exact hj)]
theorem zuy{H:za}{i j:Nat}{A B:Blk}(hA:∀ x∈A.cells,Scoped H.length x)(hB:∀ x∈B.cells,Scoped H.length x)(h:HSc H):HSc (two H i j A B):=HSc.set (HSc.set h hA) (by rw[List.length_set];exact hB)
theorem zwd{n j:Nat}(l:List Bool)(h:j<n):∀ x∈(wA j l).cells,Scoped n x:=fun x hx=>by
 simp only[wA,qK,qH,or_false]at hx;rcases hx with rfl|rfl
 ·exact .msl h
 ·exact .int _ _
theorem zwc(n:Nat)(l:List Bool):∀ x∈(wB l).cells,Scoped n x:=fun x hx=>zo _ _ x hx
theorem zka(H:za)(i j:Nat)(A B A' B':Blk)(h:i≠j):two (two H i j A B) i j A' B'=two H i j A' B':=by unfold two;rw[List.set_comm _ _ (Ne.symm h),List.set_set,List.set_set]
theorem zpE(p:Nat)(h:p<64):scV[p]? =some (.int .i64 (sk p:Int)):=by unfold scV sk;rw[List.getElem?_map,List.getD,List.getElem?_eq_getElem (by rw[zsm];exact h)];rfl
theorem zhi(i j:Nat)(l:List Bool)(b:Bool)(H:za)(hA:H[i]? =some (wA j l))(hB:H[j]? =some (wB l))(hne:i≠j)(hl:l.length≤1000000000):
  CallOk Tryz.prog 154 [.ptr i 0 0,.bool b] H (.tup []) (two H i j (wA j (l++[b])) (wB (l++[b]))):=by
 have hv:=zoN b;refine CallOk.go Tryz.func154 Tryz.ntmps154 Tryz.results154 ?_;refine PW.e ?_;refine PW.e ?_;cases b with
 | true=>
  have hp:=zfF i j l 1 1 H hA hB hne om (by decide) hl;simp only[if_true]at hv;rw[hv]at hp;refine PW.t ?_;refine PW.e ?_;refine PW.f (fun K k=>by simp(disch:=omega) only[go_sem,↓reduceIte,reduceCtorEq];refine VCx.call (hp) rfl ?_;simp(disch:=omega) only[go_sem,↓reduceIte,reduceCtorEq];exact k) ?_;exact Exists.intro _ (And.intro rfl Fin.now)
 | false=>have hp:=zfF i j l 0 1 H hA hB hne om (by decide) hl;simp only[Bool.false_eq_true,if_false]at hv;rw[hv]at hp;refine PW.us ?_;refine PW.f (fun K k=>by simp(disch:=omega) only[go_sem,↓reduceIte,reduceCtorEq];refine VCx.call (hp) rfl ?_;simp(disch:=omega) only[go_sem,↓reduceIte,reduceCtorEq];exact k) ?_;exact Exists.intro _ (And.intro rfl Fin.now)
set_option maxHeartbeats 4000000 in
theorem zsz(i j:Nat)(l:List Bool)(m u:List UInt8)(H:za)(hA:H[i]? =some (wA j l))(hB:H[j]? =some (wB l))(hne:i≠j)(hl:l.length≤1000000)(hm:m.length=64)(hu:u.length=64):
  CallOk Tryz.prog 155 [.ptr i 0 0,.agg (bs m),.agg (bs u)] H (.tup []) (two H i j (wA j (l++mxb m u)) (wB (l++mxb m u))):=by
 have hi:=(qN.1 hA).1;have hj:=(qN.1 hB).1;have e1:=eqB m u hm hu;have am:(bs m).all PV.cell=true:=by simp[bs,PV.cell]
 have au:(bs u).all PV.cell=true:=by simp[bs,PV.cell]
 have lm:(bs m).length=64:=by rw[zc];exact hm
 have lu:(bs u).length=64:=by rw[zc];exact hu
 have tm:qE 64 (bs m)=bs m:=qB om;have tu:qE 64 (bs u)=bs u:=qB om;have fin:∀ L K,Fin H (.tup []) (two H i j (wA j L) (wB L)) (.tup []) (two H i j (wA j L) (wB L)++K):=fun L K=>Fin.cut rfl (by rw[zaF]) (zuy (zwd _ hj) (zwc _ _)) (.id (.tup sp));refine CallOk.go Tryz.func155 Tryz.ntmps155 Tryz.results155 ?_;refine PW.g (nq2 am au) ?_;obtain⟨K,hK0⟩:∃ K:za,K=[⟨27,0,bs m⟩,⟨27,0,bs u⟩]:=⟨_,rfl⟩;have gA:∀ L,(two H i j (wA j L) (wB L)++K)[i]? =some (wA j L):=fun L=>by rw[qC (by rw[zaF];exact hi)];exact zeK _ _ _ _ _ ⟨hi,hne⟩
 have gB:∀ L,(two H i j (wA j L) (wB L)++K)[j]? =some (wB L):=fun L=>by rw[qC (by rw[zaF];exact hj)];exact zeJ _ _ _ _ _ hj
 have pf:∀ L b,L.length≤1000000000→CallOk Tryz.prog 154 [.ptr i 0 0,.bool b] (two H i j (wA j L) (wB L)++K) (.tup []) (two H i j (wA j (L++[b])) (wB (L++[b]))++K):=fun L b hL=>by have:=zhi i j L b _ (gA L) (gB L) hne hL;rw[zkc (by rw[zaF];exact hi) (by rw[zaF];exact hj),zka _ _ _ _ _ _ _ hne]at this;exact this
 have pt:∀(L:List Bool) (V n:Nat),n≤32→V / 2^n=0→L.length≤1000000000→CallOk Tryz.prog 153 [.ptr i 0 0,.int .u32 (V:Int),.int .i64 (n:Int)] (two H i j (wA j L) (wB L)++K) (.int .i64 0) (two H i j (wA j (L++zj V n)) (wB (L++zj V n))++K):=fun L V n hn hV hL=>by have:=zfF i j L V n _ (gA L) (gB L) hne hn hV hL;rw[zkc (by rw[zaF];exact hi) (by rw[zaF];exact hj),zka _ _ _ _ _ _ _ hne]at this;exact this
 have g4:∀ L,(two H i j (wA j L) (wB L)++K)[H.length]? =some ⟨27,0,bs m⟩:=fun L=>by rw[qM (by rw[zaF];omega),zaF,Nat.sub_self,hK0];rfl
 have g5:∀ L,(two H i j (wA j L) (wB L)++K)[H.length+1]? =some ⟨27,0,bs u⟩:=fun L=>by rw[qM (by rw[zaF];omega),zaF,show H.length+1 - H.length=1 from om,hK0];rfl
 refine PW.at [0,4,5] (F1:=[(0,.ptr i 0 0),(4,.ptr H.length 0 0),(5,.ptr (H.length+1) 0 0)]) (H1:=two H i j (wA j l) (wB l)++K) ?_ rfl (by rw[zkb hA hB,hK0]);have p1:=pf l (!(m==u)) om;(repeat refine PW.seq ?_);refine PW.rg rfl fun K hK=> ?_;simp(disch:=omega) only[go_sem,↓reduceIte,reduceCtorEq,g4,g5,lm,lu,tm,tu,e1];refine VCx.call (p1) rfl ?_;simp(disch:=omega) only[go_sem,↓reduceIte,reduceCtorEq];refine hK _ _ ?_;clear hK K;refine PW.g (nq2 g4 (nq2 g5 (nq2 lm (nq2 lu (nq2 tm (nq2 tu e1)))))) ?_;have bg:∀ p,p<64→(bs m)[sk p]? =some (.int .u8 ((m.getD (sk p) 0).toNat:Int)):=fun p hp=>by rw[zK _ _ (by rw[hm];exact zmJ p hp)];rfl
 cases he:(m==u)with
 | true=>
  have hmu:mxb m u=[!(m==u)]:=by unfold mxb;rw[if_pos (by simpa using he),he];rfl
  refine PW.t ?_;refine PW.ret ⟨_,rfl,?_⟩;rw[hmu,he];exact fin _ K
 | false=>
  have hmu:mxb m u=true::mxe m 64:=by unfold mxb;rw[if_neg (by simpa using he)]
  refine PW.us ?_;refine PW.k zsn ?_;refine PW.l ?_;suffices hloop:∀ k:Nat,k≤64→PL Tryz.prog _ _ [(0,.ptr i 0 0),(4,.ptr H.length 0 0),(16,.agg scV),(17,.int .i64 (k:Int))] (two H i j (wA j (l++(true::mxe m k))) (wB (l++(true::mxe m k)))++K) _ by exact PL.at [0,4,16,17] (hloop 0 om) rfl rfl
  have sl:scV.length=64:=rfl;clear p1 pf e1;intro k hk;induction hd:64 - k using qJ generalizing k with
  | _ n ih=>
   refine PL.round ?_;refine PW.e ?_;refine PW.c (fun h=> ?_) (fun h=> ?_)
   ·have h4:k<64:=ot h;have s1:=zpE k h4;have b1:=bg k h4;have b2:=zmJ k h4;have hv:(m.getD (sk k) 0).toNat<256:=UInt8.toNat_lt _;have p1:=pt (l++(true::mxe m k)) (m.getD (sk k) 0).toNat 8 om (qL hv) (by rw[qA,qF,zgs];omega);have hnext:=ih (64 - (k+1)) om (k+1) om rfl;rw[mxe,show l++true::(mxe m k++zj (m.getD (sk k) 0).toNat 8)=l++(true::mxe m k)++zj (m.getD (sk k) 0).toNat 8 by simp]at hnext;have g6:=g4 (l++(true::mxe m k));generalize (m.getD (sk k) 0).toNat=V at *;generalize l++(true::mxe m k)=L at *;generalize sk k=q at *;generalize l++true::mxe m 64=L2 at *;refine PW.skip ?_;refine PW.b ?_;refine PW.g (nq2 s1 sl) ?_;refine PW.f (fun K k=>by simp(disch:=omega) only[go_sem,↓reduceIte,reduceCtorEq,g6,lm,b1];refine VCx.call (p1) rfl ?_;simp(disch:=omega) only[go_sem,↓reduceIte,reduceCtorEq];exact k) ?_;refine PW.e ?_;exact PL.at [0,4,16,17] hnext rfl rfl
   ·have h4:k=64:=ofF h;subst h4;refine PW.exit ?_;refine Exists.intro _ (And.intro rfl ?_);rw[hmu];exact fin _ K
theorem zig(s:Sq):(sqc s).all PV.cell=true:=by simp[sqc,bs,PV.cell]
theorem zoL{s:Sq}(h:za6 s=true):(16≤s.w∧s.w≤64)∧(16≤s.h∧s.h≤64)∧(1≤s.num∧s.num≤1048576)∧(1≤s.den∧s.den≤65536)∧(1≤s.br∧s.br≤16777216)∧(1≤s.bf∧s.bf≤8388608):=by have h0:=zoK h;simp only[za6,vrt,vbr,Bool.and_eq_true,decide_eq_true_eq]at h;obtain⟨_,⟨⟨⟨h1,h2⟩,h3⟩,h4⟩,⟨⟨⟨h5,h6⟩,h7⟩,h8⟩,_⟩:=h;have:=zfE h1;omega
def sHU(H:za)(s:Sq)(L:List Bool):za:=H++[⟨29,0,sqc s⟩,⟨58,0,[.int .i64 0,.slice [] 0 true]⟩,wA (H.length+3) L,wB L]
theorem ziQ(H:za)(s:Sq)(L M:List Bool):two (sHU H s L) (H.length+2) (H.length+3) (wA (H.length+3) M) (wB M)=sHU H s M:=by unfold two sHU;simp only[aps,List.set_cons_succ,List.set_cons_zero]
theorem zi1(H:za)(s:Sq)(L:List Bool):(sHU H s L)[H.length]? =some ⟨29,0,sqc s⟩:=hp0 _ _ _
theorem sH_1(H:za)(s:Sq)(L:List Bool):(sHU H s L)[H.length+1]? =some ⟨58,0,[.int .i64 0,.slice [] 0 true]⟩:=hp1 _ _ _ _
theorem zpG(H:za)(s:Sq)(L:List Bool):(sHU H s L)[H.length+2]? =some (wA (H.length+3) L):=hp2 _ _ _ _ _
theorem zpF(H:za)(s:Sq)(L:List Bool):(sHU H s L)[H.length+3]? =some (wB L):=hp3 _ _ _ _ _ _
theorem sH_l(H:za)(s:Sq)(L:List Bool):(sHU H s L).length=H.length+4:=by simp[sHU]
set_option maxHeartbeats 4000000 in
theorem zss(s:Sq)(H:za)(hs:SqOk s):CallOk Tryz.prog 89 [.agg (sqc s)] H (.tup [uv (zeX s).1 (zeX s).2.1,.int .i64 (zeX s).2.2]) H:=by
 have hvo:=fun K=>zgn s K hs;have hcl:=zig s;have hln:(bs s.ia++bs s.ie).length=128:=by simp[zc,hs.ia,hs.ie]
 have htk:=zfx s.ia s.ie hs.ia hs.ie;have tia:=zeR s.ia s.ie hs.ia;have tie:=zeQ s.ia s.ie hs.ia;have tk:=zei s.ie hs.ie;have lia:(bs s.ia).length=64:=by rw[zc];exact hs.ia
 have lie:(bs s.ie).length=64:=by rw[zc];exact hs.ie
 generalize hr:zeX s=r;unfold zeX at hr;refine CallOk.go Tryz.func89 Tryz.ntmps89 Tryz.results89 ?_;refine PW.g hcl ?_;cases hv:za6 s with
 | false=>
  rw[hv,if_neg (by decide)]at hr;rw[hv]at hvo;(repeat refine PW.seq ?_);refine PW.rg rfl fun K hK=> ?_;simp(disch:=omega) only[go_sem,↓reduceIte,reduceCtorEq,sqc,hln,htk];refine VCx.call (hvo _) rfl ?_;simp(disch:=omega) only[go_sem,↓reduceIte,reduceCtorEq];refine hK _ _ ?_;clear hK K;refine PW.t ?_;refine PW.e ?_;refine PW.v (.tup [.agg [.int .i64 0,.slice [] 0 true],.int .i64 1]) ?_;rw[←hr];exact Fin.base (Fz.tupC ⟨Fz.aggC ⟨.id (.int _ _),.slice rfl (fun j x y hx=>by simp at hx) (fun e=>by cases e),trivial⟩,.id (.int _ _),trivial⟩)
 | true=>
  rw[hv,if_pos rfl]at hr;rw[hv]at hvo;obtain⟨v1,v2,v3,v4,v5,v6⟩:=zoL hv;(repeat refine PW.seq ?_);refine PW.rg rfl fun K hK=> ?_;simp(disch:=omega) only[go_sem,↓reduceIte,reduceCtorEq,sqc,hln,htk];refine VCx.call (hvo _) rfl ?_;simp(disch:=omega) only[go_sem,↓reduceIte,reduceCtorEq];refine hK _ _ ?_;clear hK K;refine PW.us ?_;refine PW.k zjo ?_;refine PW.view (Vs.ghostH (id:=H.length+2) (j:=0) 5 1 (hp2 _ _ _ _ _) rfl) ?_;refine PW.at [1,2,4] (F1:=[(1,.ptr H.length 0 0),(2,.ptr (H.length+1) 0 0),(4,.ptr (H.length+2) 0 0)]) (H1:=sHU H s []) ?_ rfl (by unfold sHU;rw[wA0,wB0];simp[hs2,sqc]);have hw:s.w.tdiv 16=((s.w / 16).toNat:Int):=by rw[za7 _ _ om];omega
  have hh:s.h.tdiv 16=((s.h / 16).toNat:Int):=by rw[za7 _ _ om];omega
  have hwb:(s.w / 16).toNat≤4:=om;have hhb:(s.h / 16).toNat≤4:=om;have en:s.num=(s.num.toNat:Int):=om;have ed:s.den=(s.den.toNat:Int):=om;have er:s.br=(s.br.toNat:Int):=om;have ef:s.bf=(s.bf.toNat:Int):=om;have p1:∀(L:List Bool) (V n:Nat),n≤32→V<2^n→L.length≤1000000→CallOk Tryz.prog 153 [.ptr (H.length+2) 0 0,.int .u32 (V:Int),.int .i64 (n:Int)] (sHU H s L) (.int .i64 0) (sHU H s (L++zj V n)):=fun L V n hn hV hL=>by have:=zfF (H.length+2) (H.length+3) L V n (sHU H s L) (zpG H s L) (zpF H s L) om hn (qL hV) om;rwa[ziQ]at this
  have p2:∀(L:List Bool) (b:Bool),L.length≤1000000→CallOk Tryz.prog 154 [.ptr (H.length+2) 0 0,.bool b] (sHU H s L) (.tup []) (sHU H s (L++[b])):=fun L b hL=>by have:=zhi (H.length+2) (H.length+3) L b (sHU H s L) (zpG H s L) (zpF H s L) om om;rwa[ziQ]at this
  have p3:∀(L:List Bool) (m u:List UInt8),m.length=64→u.length=64→L.length≤100000→∀(K:za),K[H.length+2]? =some (wA (H.length+3) L)→K[H.length+3]? =some (wB L)→CallOk Tryz.prog 155 [.ptr (H.length+2) 0 0,.agg (bs m),.agg (bs u)] K (.tup []) (two K (H.length+2) (H.length+3) (wA (H.length+3) (L++mxb m u)) (wB (L++mxb m u))):=fun L m u hm hu hL K k1 k2=>zsz (H.length+2) (H.length+3) L m u K k1 k2 om om hm hu;have p4:∀(L:List Bool),L.length≤1000000→CallOk Tryz.prog 158 [.ptr (H.length+2) 0 0] (sHU H s L) (.slice (bs (pk (L++[true]))) (pk (L++[true])).length false) (sHU H s L):=fun L hL=>zey (H.length+2) (H.length+3) L (sHU H s L) (zpG H s L) (zpF H s L) om;have q1:=p1 [] (s.w / 16).toNat 8 om om sp;refine PW.f (fun K k=>by simp(disch:=omega) only[go_sem,↓reduceIte,reduceCtorEq,zi1,sqc,hw];refine VCx.call (q1) rfl ?_;simp(disch:=omega) only[go_sem,↓reduceIte,reduceCtorEq];exact k) ?_;obtain⟨L1,h1⟩:∃ L,L=zj (s.w / 16).toNat 8:=⟨_,rfl⟩;have n1:L1.length=8:=by rw[h1];simp[zm]
  rw[←h1];have q2:=p1 L1 (s.h / 16).toNat 8 om om om;refine PW.f (fun K k=>by simp(disch:=omega) only[go_sem,↓reduceIte,reduceCtorEq,zi1,sqc,hh];refine VCx.call (q2) rfl ?_;simp(disch:=omega) only[go_sem,↓reduceIte,reduceCtorEq];exact k) ?_;obtain⟨L2,h2⟩:∃ L,L=L1++zj (s.h / 16).toNat 8:=⟨_,rfl⟩;have n2:L2.length=16:=by rw[h2];simp[zm,n1]
  rw[←h2];have q3:=p1 L2 s.num.toNat 32 om om om;rw[←en]at q3;refine PW.f (fun K k=>by simp(disch:=omega) only[go_sem,↓reduceIte,reduceCtorEq,zi1,sqc];refine VCx.call (q3) rfl ?_;simp(disch:=omega) only[go_sem,↓reduceIte,reduceCtorEq];exact k) ?_;obtain⟨L3,h3⟩:∃ L,L=L2++zj s.num.toNat 32:=⟨_,rfl⟩;have n3:L3.length=48:=by rw[h3];simp[zm,n2]
  rw[←h3];have q4:=p1 L3 s.den.toNat 32 om om om;rw[←ed]at q4;refine PW.f (fun K k=>by simp(disch:=omega) only[go_sem,↓reduceIte,reduceCtorEq,zi1,sqc];refine VCx.call (q4) rfl ?_;simp(disch:=omega) only[go_sem,↓reduceIte,reduceCtorEq];exact k) ?_;obtain⟨L4,h4⟩:∃ L,L=L3++zj s.den.toNat 32:=⟨_,rfl⟩;have n4:L4.length=80:=by rw[h4];simp[zm,n3]
  rw[←h4];have q5:=p2 L4 s.il om;refine PW.f (fun K k=>by simp(disch:=omega) only[go_sem,↓reduceIte,reduceCtorEq,zi1,sqc];refine VCx.call (q5) rfl ?_;simp(disch:=omega) only[go_sem,↓reduceIte,reduceCtorEq];exact k) ?_;obtain⟨L5,h5⟩:∃ L,L=L4++[s.il]:=⟨_,rfl⟩;have n5:L5.length=81:=by rw[h5];simp[n4]
  rw[←h5];have q6:=p1 L5 s.br.toNat 32 om om om;rw[←er]at q6;refine PW.f (fun K k=>by simp(disch:=omega) only[go_sem,↓reduceIte,reduceCtorEq,zi1,sqc];refine VCx.call (q6) rfl ?_;simp(disch:=omega) only[go_sem,↓reduceIte,reduceCtorEq];exact k) ?_;obtain⟨L6,h6⟩:∃ L,L=L5++zj s.br.toNat 32:=⟨_,rfl⟩;have n6:L6.length=113:=by rw[h6];simp[zm,n5]
  rw[←h6];have q7:=p1 L6 s.bf.toNat 32 om om om;rw[←ef]at q7;refine PW.f (fun K k=>by simp(disch:=omega) only[go_sem,↓reduceIte,reduceCtorEq,zi1,sqc];refine VCx.call (q7) rfl ?_;simp(disch:=omega) only[go_sem,↓reduceIte,reduceCtorEq];exact k) ?_;obtain⟨L7,h7⟩:∃ L,L=L6++zj s.bf.toNat 32:=⟨_,rfl⟩;have n7:L7.length=145:=by rw[h7];simp[zm,n6]
  rw[←h7];clear q1 q2 q3 q4 q5 q6 q7 p1 p2;have x8:=zd3 s.ia dIn;have x9:=zd3 s.ie dIt;(repeat refine PW.seq ?_);refine PW.drawi [H.length+2,H.length+3] [(4,[0,1]),(48,[0,1])] [] [51] mix kr (by simp<;>omega) fun K hK=> ?_;simp(disch:=omega) only[go_sem,↓reduceIte,reduceCtorEq,zi1,sqc,tia,qA,lia,lie];refine VCj.read (fun _ _=>zvP _) rfl ?_;simp(disch:=omega) only[go_sem,↓reduceIte,reduceCtorEq];refine VCj.wrT (i:=H.length+2) (j:=H.length+3) (zpG H s L7) (zpF H s L7) om (p3 L7 s.ia dIn hs.ia znm om) (by simp(disch:=omega) only[go_sem,↓reduceIte,reduceCtorEq]) (by simp(disch:=omega) only[go_sem,↓reduceIte,reduceCtorEq]) (by simp(disch:=omega) only[go_sem,↓reduceIte,reduceCtorEq]) (by simp(disch:=omega) only[go_sem,↓reduceIte,reduceCtorEq]) rfl ?_;simp(disch:=omega) only[go_sem,↓reduceIte,reduceCtorEq,ziQ];refine hK _ _ ?_;clear hK K;obtain⟨L8,h8⟩:∃ L,L=L7++mxb s.ia dIn:=⟨_,rfl⟩;have n8:L8.length≤145+513:=by rw[h8,qA];omega
  rw[←h8];(repeat refine PW.seq ?_);refine PW.drawi [H.length+2,H.length+3] [(4,[0,1]),(53,[0,1])] [] [56] mix kr (by simp<;>omega) fun K hK=> ?_;simp(disch:=omega) only[go_sem,↓reduceIte,reduceCtorEq,zi1,sqc,tie,tk,qA,lia,lie];refine VCj.read (fun _ _=>zvN _) rfl ?_;simp(disch:=omega) only[go_sem,↓reduceIte,reduceCtorEq];refine VCj.wrT (i:=H.length+2) (j:=H.length+3) (zpG H s L8) (zpF H s L8) om (p3 L8 s.ie dIt hs.ie znl om) (by simp(disch:=omega) only[go_sem,↓reduceIte,reduceCtorEq]) (by simp(disch:=omega) only[go_sem,↓reduceIte,reduceCtorEq]) (by simp(disch:=omega) only[go_sem,↓reduceIte,reduceCtorEq]) (by simp(disch:=omega) only[go_sem,↓reduceIte,reduceCtorEq]) rfl ?_;simp(disch:=omega) only[go_sem,↓reduceIte,reduceCtorEq,ziQ];refine hK _ _ ?_;clear hK K;obtain⟨L9,h9⟩:∃ L,L=L8++mxb s.ie dIt:=⟨_,rfl⟩;have n9:L9.length≤145+513+513:=by rw[h9,qA];omega
  rw[←h9];have hL:zg4 s=L9:=by rw[h9,h8,h7,h6,h5,h4,h3,h2,h1];simp[zg4]
  have q9:=p4 L9 om;(repeat refine PW.seq ?_);refine PW.rg rfl fun K hK=> ?_;simp(disch:=omega) only[go_sem,↓reduceIte,reduceCtorEq];refine VCx.call (q9) rfl ?_;simp(disch:=omega) only[go_sem,↓reduceIte,reduceCtorEq,sH_1,sH_l];refine hK _ _ ?_;clear hK K;generalize hP:pk (L9++[true])=P at *;have hE:(sHU H s L9).set (H.length+1) ⟨58,0,[.int .i64 179,.slice (bs P) P.length false]⟩=H++[⟨29,0,sqc s⟩,⟨58,0,[.int .i64 179,.slice (bs P) P.length false]⟩,wA (H.length+3) L9,wB L9]:=hs1 _ _ _ _ _;refine PW.eq rfl hE ?_;refine PW.v (.tup [.agg [.int .i64 179,.slice (bs P) P.length false],.int .i64 0]) ?_;rw[←hr,hL,hP];exact Fin.base (.id (zbt _ _ _ _))
def gH(H:za)(X:List PV)(L:List Bool):za:=H++[⟨41,0,X⟩,⟨58,0,[.int .i64 0,.slice [] 0 true]⟩,wA (H.length+3) L,wB L]
theorem zoU(H:za)(X:List PV)(L M:List Bool):two (gH H X L) (H.length+2) (H.length+3) (wA (H.length+3) M) (wB M)=gH H X M:=by unfold two gH;simp only[aps,List.set_cons_succ,List.set_cons_zero]
theorem gH_0(H:za)(X:List PV)(L:List Bool):(gH H X L)[H.length]? =some ⟨41,0,X⟩:=hp0 _ _ _
theorem gH_1(H:za)(X:List PV)(L:List Bool):(gH H X L)[H.length+1]? =some ⟨58,0,[.int .i64 0,.slice [] 0 true]⟩:=hp1 _ _ _ _
theorem zvC(H:za)(X:List PV)(L:List Bool):(gH H X L)[H.length+2]? =some (wA (H.length+3) L):=hp2 _ _ _ _ _
theorem zvB(H:za)(X:List PV)(L:List Bool):(gH H X L)[H.length+3]? =some (wB L):=hp3 _ _ _ _ _ _
set_option maxHeartbeats 4000000 in
theorem zst(c b:Bool)(t:Int)(H:za)(ht:zfP t):CallOk Tryz.prog 90 [.agg [.bool c,.bool b,.int .i64 t]] H (.tup [uv (zeY c b t).1 (zeY c b t).2.1,.int .i64 (zeY c b t).2.2]) H:=by
 generalize hr:zeY c b t=r;unfold zeY at hr;refine CallOk.go Tryz.func90 Tryz.ntmps90 Tryz.results90 ?_;refine PW.e ?_;by_cases hc:0≤t∧t<16777216;rotate_left
 ·rw[if_neg hc]at hr;suffices hrest:PW Tryz.prog _ _ [(1,.ptr H.length 0 0),(2,.ptr (H.length+1) 0 0),(12,.bool true)] (H++[⟨41,0,[.bool c,.bool b,.int .i64 t]⟩,⟨58,0,[.int .i64 0,.slice [] 0 true]⟩]) _ by
   by_cases h0:t<0
   ·have d0:decide (t<0)=true:=decide_eq_true h0;refine PW.g d0 ?_;exact PW.at [1,2,12] hrest rfl rfl
   ·have d0:decide (t<0)=false:=decide_eq_false h0;have d1:decide (16777216≤t)=true:=decide_eq_true om;refine PW.g (nq2 d0 d1) ?_;exact PW.at [1,2,12] hrest rfl rfl
  refine PW.t ?_;refine PW.e ?_;refine PW.v (.tup [.agg [.int .i64 0,.slice [] 0 true],.int .i64 1]) ?_;rw[←hr];exact Fin.base (Fz.tupC ⟨Fz.aggC ⟨.id (.int _ _),.slice rfl (fun j x y hx=>by simp at hx) (fun e=>by cases e),trivial⟩,.id (.int _ _),trivial⟩)
 rw[if_pos hc]at hr;have d0:decide (t<0)=false:=decide_eq_false om;have d1:decide (16777216≤t)=false:=decide_eq_false om;refine PW.g (nq2 d0 d1) ?_;refine PW.us ?_;refine PW.k zjo ?_;refine PW.view (Vs.ghostH (id:=H.length+2) (j:=0) 5 1 (hp2 _ _ _ _ _) rfl) ?_;obtain⟨X,hX⟩:∃ X,X=[PV.bool c,.bool b,.int .i64 t]:=⟨_,rfl⟩;refine PW.at [1,2,4] (F1:=[(1,.ptr H.length 0 0),(2,.ptr (H.length+1) 0 0),(4,.ptr (H.length+2) 0 0)]) (H1:=gH H X []) ?_ rfl (by unfold gH;rw[wA0,wB0,hX];simp[hs2]);have p1:∀(L:List Bool) (V n:Nat),n≤32→V<2^n→L.length≤1000000→CallOk Tryz.prog 153 [.ptr (H.length+2) 0 0,.int .u32 (V:Int),.int .i64 (n:Int)] (gH H X L) (.int .i64 0) (gH H X (L++zj V n)):=fun L V n hn hV hL=>by have:=zfF (H.length+2) (H.length+3) L V n (gH H X L) (zvC H X L) (zvB H X L) om hn (qL hV) om;rwa[zoU]at this
 have p2:∀(L:List Bool) (b:Bool),L.length≤1000000→CallOk Tryz.prog 154 [.ptr (H.length+2) 0 0,.bool b] (gH H X L) (.tup []) (gH H X (L++[b])):=fun L b hL=>by have:=zhi (H.length+2) (H.length+3) L b (gH H X L) (zvC H X L) (zvB H X L) om om;rwa[zoU]at this
 have g0:∀ L,(gH H X L)[H.length]? =some ⟨41,0,[.bool c,.bool b,.int .i64 t]⟩:=fun L=>by rw[gH_0,hX]
 have q1:=p2 [] c sp;refine PW.f (fun K k=>by simp(disch:=omega) only[go_sem,↓reduceIte,reduceCtorEq,g0];refine VCx.call (q1) rfl ?_;simp(disch:=omega) only[go_sem,↓reduceIte,reduceCtorEq];exact k) ?_;have q2:=p2 [c] b sp;refine PW.f (fun K k=>by simp(disch:=omega) only[go_sem,↓reduceIte,reduceCtorEq,g0];refine VCx.call (q2) rfl ?_;simp(disch:=omega) only[go_sem,↓reduceIte,reduceCtorEq];exact k) ?_;have q3:=p1 [c,b] t.toNat 24 om om sp;have et:t=(t.toNat:Int):=om;rw[←et]at q3;refine PW.f (fun K k=>by simp(disch:=omega) only[go_sem,↓reduceIte,reduceCtorEq,g0];refine VCx.call (q3) rfl ?_;simp(disch:=omega) only[go_sem,↓reduceIte,reduceCtorEq];exact k) ?_;have hgb:zbr c b t=c::b::zj t.toNat 24:=rfl;have hgl:(zbr c b t).length=26:=by simp[zbr,zm]
 rw[←hgb];have q9:=zey (H.length+2) (H.length+3) (zbr c b t) (gH H X (zbr c b t)) (zvC H X _) (zvB H X _) om;refine PW.f (fun K k=>by simp(disch:=omega) only[go_sem,↓reduceIte,reduceCtorEq];refine VCx.call (q9) rfl ?_;simp(disch:=omega) only[go_sem,↓reduceIte,reduceCtorEq,gH_1];exact k) ?_;generalize hP:pk (zbr c b t++[true])=P at *;have hE:(gH H X (zbr c b t)).set (H.length+1) ⟨58,0,[.int .i64 184,.slice (bs P) P.length false]⟩=H++[⟨41,0,X⟩,⟨58,0,[.int .i64 184,.slice (bs P) P.length false]⟩,wA (H.length+3) (zbr c b t),wB (zbr c b t)]:=hs1 _ _ _ _ _;refine PW.eq rfl hE ?_;refine PW.v (.tup [.agg [.int .i64 184,.slice (bs P) P.length false],.int .i64 0]) ?_;rw[←hr];exact Fin.base (.id (zbt _ _ _ _))
theorem zhL(b:Bool)(H:za):CallOk Tryz.prog 265 [.bool b] H (.int .u8 (b.toNat:Int)) H:=by refine CallOk.go Tryz.func265 Tryz.ntmps265 Tryz.results265 ?_;cases b<;>(repeat'(first|refine PW.seq ?_|refine PW.skip ?_|refine PW.block ?_|((first|refine PW.rg rfl fun K hK=> ?_|refine PW.draw mix kr fun K hK=> ?_);simp(disch:=omega) only[go_sem,↓reduceIte,reduceCtorEq])|((first|refine zh ?_ ?_|refine ze ?_ ?_|refine And.intro ?_ ?_)<;>intro h<;>(try simp only[nqb]at h)<;>simp(disch:=omega) only[go_sem,↓reduceIte,reduceCtorEq,h])|(refine hK _ _ ?_;clear hK K)|(refine PW.cond (t:=_) rfl (fun h=> ?_) (fun h=> ?_)<;>(try(cases h;done))<;>(try simp only[nqb]at h))));all_goals((refine PW.ret ⟨_,rfl,?_⟩;first|refine .inl ⟨?_,rfl⟩|refine Fin.base (.id' ?_ (.bool _))|refine Fin.base (.id' ?_ (.int _ _)));rfl)
theorem zb6(L:List Bool):(bs (zb L)).length=L.length:=by rw[zc,zP]
theorem zee(L M:List Bool):bs (zb (L++M))=bs (zb L)++bs (zb M):=by rw[zcx,zz]
def xH(H:za)(m u:List UInt8)(L:List Bool):za:=H++[⟨27,0,bs m⟩,⟨27,0,bs u⟩,⟨5,L.length,bs (zb L)⟩,⟨146,0,scV⟩]
theorem zoD(H:za)(m u:List UInt8)(L:List Bool):(xH H m u L).length=H.length+4:=by simp[xH]
theorem zwa(H:za)(m u:List UInt8)(L:List Bool)(h:HSc H):HSc (xH H m u L):=zhC (fun b hb x hx=>by
 simp only[qK,qH,or_false]at hb;simp only[qF,List.length_nil];rcases hb with rfl|rfl|rfl|rfl
 ·exact zo _ _ x hx
 ·exact zo _ _ x hx
 ·exact zo _ _ x hx
 ·simp only[scV,List.mem_map]at hx;obtain⟨n,_,rfl⟩:=hx;exact .int _ _) h
set_option maxHeartbeats 4000000 in
theorem zhA(m u:List UInt8)(H:za)(hm:m.length=64)(hu:u.length=64):
  CallOk Tryz.prog 266 [.agg (bs m),.agg (bs u)] H (.slice (bs (zb (mxb m u))) (mxb m u).length false) H:=by
 have e1:=eqB m u hm hu;have am:(bs m).all PV.cell=true:=by simp[bs,PV.cell]
 have au:(bs u).all PV.cell=true:=by simp[bs,PV.cell]
 have lm:(bs m).length=64:=by rw[zc];exact hm
 have lu:(bs u).length=64:=by rw[zc];exact hu
 have tm:qE 64 (bs m)=bs m:=qB om;have tu:qE 64 (bs u)=bs u:=qB om;have sl:scV.length=64:=rfl;have sc':scV.all PV.cell=true:=by decide+kernel
 have sd:List.drop 64 scV=[]:=rfl;have bg:∀ p,p<64→(bs m)[sk p]? =some (.int .u8 ((m.getD (sk p) 0).toNat:Int)):=fun p hp=>by rw[zK _ _ (by rw[hm];exact zmJ p hp)];rfl
 refine CallOk.go Tryz.func266 Tryz.ntmps266 Tryz.results266 ?_;refine PW.g (nq2 am au) ?_;refine PW.g (nq2 lm (nq2 lu (nq2 tm (nq2 tu e1)))) ?_;cases he:(m==u)with
 | true=>
  have hmu:mxb m u=[false]:=by unfold mxb;rw[if_pos (by simpa using he)]
  refine PW.t ?_;refine PW.e ?_;refine PW.v (.slice [.int .u8 0] 1 true) ?_;rw[hmu];exact Fin.base (Fz.sliceC ⟨.id (.int _ _),trivial⟩ (fun e=>by cases e))
 | false=>
  have hmu:mxb m u=true::mxe m 64:=by unfold mxb;rw[if_neg (by simpa using he)]
  refine PW.us ?_;(repeat refine PW.seq ?_);refine PW.view (Vs.place 5) ?_;refine PW.eq rfl (show _=H++[⟨27,0,bs m⟩,⟨27,0,bs u⟩,⟨5,0,[]⟩]from qD _ _ _) ?_;(repeat refine PW.seq ?_);refine PW.seqi [H.length+2] [(12,0)] rfl fun K hK=> ?_;simp(disch:=omega) only[go_sem,↓reduceIte,reduceCtorEq];refine hK _ _ ?_;clear hK K;refine PW.f (fun K k=>by simp(disch:=omega) only[go_sem,↓reduceIte,reduceCtorEq,sc'];refine VCx.call (zpC _) rfl ?_;simp(disch:=omega) only[go_sem,↓reduceIte,reduceCtorEq,sc'];exact k) ?_;refine PW.e ?_;have fin:∀ L:List Bool,Fin H (.slice (bs (zb L)) L.length false) H (.msl (H.length+2) L.length 0 L.length 1 true) (xH H m u L):=fun L=>Fin.base (Fz.mslC (e:=5) (xs:=bs (zb L)) om (hp2 _ _ _ _ _) (by rw[zb6,Nat.mul_one]) (FzC.refl (zo _ _)));have g0:∀ L K,(xH H m u L++K)[H.length]? =some ⟨27,0,bs m⟩:=fun L K=>by rw[qC (by rw[zoD];omega)];exact hp0 _ _ _
  have g2:∀ L K,(xH H m u L++K)[H.length+2]? =some ⟨5,L.length,bs (zb L)⟩:=fun L K=>by rw[qC (by rw[zoD];omega)];exact hp2 _ _ _ _ _
  have g3:∀ L K,(xH H m u L++K)[H.length+3]? =some ⟨146,0,scV⟩:=fun L K=>by rw[qC (by rw[zoD];omega)];exact hp3 _ _ _ _ _ _
  have s2:∀ L K X,(xH H m u L++K).set (H.length+2) X=(H++[⟨27,0,bs m⟩,⟨27,0,bs u⟩,X,⟨146,0,scV⟩])++K:=fun L K X=>by unfold xH;rw[qD,aps,qD];rfl
  refine PW.l ?_;suffices hloop:∀(k:Nat) (L:List Bool),k≤64→L=true::mxe m k→PL Tryz.prog _ _ [(2,.ptr H.length 0 0),(5,.msl (H.length+2) L.length 0 L.length 1 true),(6,.ptr (H.length+3) 0 0),(7,.int .i64 (k:Int))] (xH H m u L) _ by exact PL.at [2,5,6,7] (hloop 0 [true] om rfl) rfl (by unfold xH;rfl)
  intro k L hk hL;induction hd:64 - k using qJ generalizing k L with
  | _ n ih=>
   refine PL.round ?_;refine PW.e ?_;refine PW.c (fun h=> ?_) (fun h=> ?_)
   ·have h4:k<64:=ot h;have s1:=zpE k h4;have b1:=bg k h4;have b2:=zmJ k h4;have hLl:L.length=1+k * 8:=by rw[hL,qF,zgs];omega
    have hv:(m.getD (sk k) 0).toNat<256:=UInt8.toNat_lt _;have hnext:=ih (64 - (k+1)) om (k+1) (L++zj (m.getD (sk k) 0).toNat 8) om (by rw[hL,mxe,List.cons_append]) rfl;clear hL;have zL:=zb6 L;have g0':=g0 L [];have g3':=g3 L [];rw[qI]at g0' g3';generalize (m.getD (sk k) 0).toNat=V at *;generalize sk k=q at *;have vl8:=zm V 8;have z8:=zb6 (zj V 8);have t8:qE 8 (bs (zb (zj V 8)))=bs (zb (zj V 8)):=qB om;refine PW.skip ?_;refine PW.b ?_;refine PW.f (fun K k=>by simp(disch:=omega) only[go_sem,↓reduceIte,reduceCtorEq,g0',g3',lm,b1,s1,sl];refine VCx.call (zaN V 8 _ om) rfl ?_;simp(disch:=omega) only[go_sem,↓reduceIte,reduceCtorEq,g2,zL,z8,vl8,t8,s2,qA];exact k) ?_;refine PW.e ?_;have ap:=zee L (zj V 8);have apl:(L++zj V 8).length=L.length+8:=by rw[qA,vl8]
    refine PL.keep [7,2,5,6] ?_;refine PL.view (Vs.trim (F1:=[(2,.ptr H.length 0 0),(5,.msl (H.length+2) (L++zj V 8).length 0 (L++zj V 8).length 1 true),(6,.ptr (H.length+3) 0 0),(7,.int .i64 ((k+1:Nat):Int))]) (H1:=xH H m u (L++zj V 8)) (zwa H m u _) (by show H.length≤_;rw[zoD];omega) (by unfold xH;rw[ap,apl];exact(qD _ [_,_,_,_] [_]).symm) ?_) hnext;rw[zoD,apl];exact⟨.id (.ptr om),.id (.msl om),.id (.ptr om),.id (.int _ _),trivial⟩
   ·have h4:k=64:=ofF h;subst h4;refine PW.exit ?_;refine PW.e ?_;rw[←hmu]at hL;subst hL;exact PW.ret ⟨_,rfl,fin _⟩
def rH(H:za)(s:Sq)(L:List Bool):za:=H++[⟨29,0,sqc s⟩,⟨58,0,[.int .i64 0,.slice [] 0 true]⟩,⟨5,L.length,bs (zb L)⟩]
theorem zu7(H:za)(s:Sq)(L:List Bool):(rH H s L).length=H.length+3:=by simp[rH]
theorem zwM(H:za)(s:Sq)(L:List Bool)(h:HSc H):HSc (rH H s L):=zhC (fun b hb x hx=>by
 simp only[qK,qH,or_false]at hb;simp only[qF,List.length_nil];rcases hb with rfl|rfl|rfl
 ·exact zV _ _ x hx
 ·simp only[qK,qH,or_false]at hx;rcases hx with rfl|rfl
  ·exact .int _ _
  ·exact zl (fun y hy=>by cases hy)
 ·exact zo _ _ x hx) h
theorem zky(H:za)(s:Sq)(L:List Bool):(rH H s L)[H.length]? =some ⟨29,0,sqc s⟩:=hp0 _ _ _
theorem zkx(H:za)(s:Sq)(L:List Bool)(K:za):(rH H s L++K)[H.length+2]? =some ⟨5,L.length,bs (zb L)⟩:=by rw[qC (by rw[zu7];omega)];exact hp2 _ _ _ _ _
theorem zkw(H:za)(s:Sq)(L:List Bool)(K:za)(X:Blk):(rH H s L++K).set (H.length+2) X=(H++[⟨29,0,sqc s⟩,⟨58,0,[.int .i64 0,.slice [] 0 true]⟩,X])++K:=by unfold rH;rw[qD,aps,qD];rfl
def rF(H:za)(L:List Bool):Fr:=[(1,.ptr H.length 0 0),(2,.ptr (H.length+1) 0 0),(4,.msl (H.length+2) L.length 0 L.length 1 true)]
theorem zeV{P:Program}{N:Nat}{H:za}{s:Sq}{L M:List Bool}{c:Code}{F:Fr}{X:Blk}{n:Nat}{Q:Exit→Fr→za→Prop}(hn:n=L.length+M.length)(hF:kp [1,2,4] F=[(1,.ptr H.length 0 0),(2,.ptr (H.length+1) 0 0),(4,.msl (H.length+2) n 0 n 1 true)])
  (h:PW P ⟨N,H⟩ c (rF H (L++M)) (rH H s (L++M)) Q):PW P ⟨N,H⟩ c F (H++[⟨29,0,sqc s⟩,⟨58,0,[.int .i64 0,.slice [] 0 true]⟩,⟨5,n,bs (zb L)++bs (zb M)⟩,X]) Q:=by
 subst hn;refine PW.keep [1,2,4] ?_;rw[hF];refine PW.view (Vs.trim (F1:=rF H (L++M)) (H1:=rH H s (L++M)) (K:=[X]) (zwM H s _) (by show H.length≤_;rw[zu7];omega) (by unfold rH;rw[zee,qA];exact(qD _ [_,_,_] [_]).symm) ?_) h;rw[zu7,rF,qA];exact⟨.id (.ptr om),.id (.ptr om),.id (.msl om),trivial⟩
theorem zha{P:Program}{N:Nat}{H:za}{s:Sq}{L M:List Bool}{c:Code}{F:Fr}{n:Nat}{C:List PV}{Q:Exit→Fr→za→Prop}(hn:n=L.length+M.length)(hC:bs (zb M)=C)(hF:kp [1,2,4] F=[(1,.ptr H.length 0 0),(2,.ptr (H.length+1) 0 0),(4,.msl (H.length+2) n 0 n 1 true)])
  (h:PW P ⟨N,H⟩ c (rF H (L++M)) (rH H s (L++M)) Q):PW P ⟨N,H⟩ c F (H++[⟨29,0,sqc s⟩,⟨58,0,[.int .i64 0,.slice [] 0 true]⟩,⟨5,n,bs (zb L)++C⟩]) Q:=by
 subst hn hC;exact PW.at [1,2,4] h (by rw[hF,rF,qA]) (by unfold rH;rw[zee,qA])
theorem zm2(m u:List UInt8):0<(mxb m u).length:=by unfold mxb;split<;>simp
theorem zuh(b:Bool):bs (zb [b])=[.int .u8 (b.toNat:Int)]:=by cases b<;>rfl
set_option maxHeartbeats 4000000 in
theorem zpS(s:Sq)(H:za)(hs:SqOk s):CallOk Tryz.prog 186 [.agg (sqc s)] H (.tup [uv (zeX s).1 (zeX s).2.1,.int .i64 (zeX s).2.2]) H:=by
 have hvo:=fun K=>zeH s K hs;have hcl:=zig s;have hln:(bs s.ia++bs s.ie).length=128:=by simp[zc,hs.ia,hs.ie]
 have htk:=zfx s.ia s.ie hs.ia hs.ie;have tia:=zeR s.ia s.ie hs.ia;have tie:=zeQ s.ia s.ie hs.ia;have tk:=zei s.ie hs.ie;have lia:(bs s.ia).length=64:=by rw[zc];exact hs.ia
 have lie:(bs s.ie).length=64:=by rw[zc];exact hs.ie
 generalize hr:zeX s=r;unfold zeX at hr;refine CallOk.go Tryz.func186 Tryz.ntmps186 Tryz.results186 ?_;refine PW.g hcl ?_;cases hv:za6 s with
 | false=>
  rw[hv,if_neg (by decide)]at hr;rw[hv]at hvo;(repeat refine PW.seq ?_);refine PW.rg rfl fun K hK=> ?_;simp(disch:=omega) only[go_sem,↓reduceIte,reduceCtorEq,sqc,hln,htk];refine VCx.call (hvo _) rfl ?_;simp(disch:=omega) only[go_sem,↓reduceIte,reduceCtorEq];refine hK _ _ ?_;clear hK K;refine PW.t ?_;refine PW.e ?_;refine PW.v (.tup [.agg [.int .i64 0,.slice [] 0 true],.int .i64 1]) ?_;rw[←hr];exact Fin.base (Fz.tupC ⟨Fz.aggC ⟨.id (.int _ _),.slice rfl (fun j x y hx=>by simp at hx) (fun e=>by cases e),trivial⟩,.id (.int _ _),trivial⟩)
 | true=>
  rw[hv,if_pos rfl]at hr;rw[hv]at hvo;obtain⟨v1,v2,v3,v4,v5,v6⟩:=zoL hv;(repeat refine PW.seq ?_);refine PW.rg rfl fun K hK=> ?_;simp(disch:=omega) only[go_sem,↓reduceIte,reduceCtorEq,sqc,hln,htk];refine VCx.call (hvo _) rfl ?_;simp(disch:=omega) only[go_sem,↓reduceIte,reduceCtorEq];refine hK _ _ ?_;clear hK K;refine PW.us ?_;have hw:s.w.tdiv 16=((s.w / 16).toNat:Int):=by rw[za7 _ _ om];omega
  have hh:s.h.tdiv 16=((s.h / 16).toNat:Int):=by rw[za7 _ _ om];omega
  have hwb:(s.w / 16).toNat≤4:=om;have hhb:(s.h / 16).toNat≤4:=om;have en:s.num=(s.num.toNat:Int):=om;have ed:s.den=(s.den.toNat:Int):=om;have er:s.br=(s.br.toNat:Int):=om;have ef:s.bf=(s.bf.toNat:Int):=om;have q1:=fun K=>zaN (s.w / 16).toNat 8 K om;obtain⟨L1,h1⟩:∃ L,L=zj (s.w / 16).toNat 8:=⟨_,rfl⟩;have n1:L1.length=8:=by rw[h1];simp[zm]
  have z1:=zb6 L1;rw[n1]at z1;rw[←h1]at q1;refine PW.f (fun K k=>by simp(disch:=omega) only[go_sem,↓reduceIte,reduceCtorEq,sqc,hw];refine VCx.call (q1 _) rfl ?_;simp(disch:=omega) only[go_sem,↓reduceIte,reduceCtorEq,z1];exact k) ?_;refine PW.at [1,2,4] (F1:=rF H L1) (H1:=rH H s L1) ?_ (by unfold rF;rw[n1];rfl) (by unfold rH;rw[n1];rfl);have q2:=fun K=>zaN (s.h / 16).toNat 8 K om;obtain⟨M2,hM2⟩:∃ L,L=zj (s.h / 16).toNat 8:=⟨_,rfl⟩;have k2:M2.length=8:=by rw[hM2];simp[zm]
  have z2:=zb6 M2;have y2:=zb6 L1;rw[←hM2]at q2;have t2:qE 8 (bs (zb M2))=bs (zb M2):=qB om;rw[k2]at z2;refine PW.f (fun K k=>by simp(disch:=omega) only[go_sem,↓reduceIte,reduceCtorEq,rF,zky,sqc,hh];refine VCx.call (q2 _) rfl ?_;simp(disch:=omega) only[go_sem,↓reduceIte,reduceCtorEq,zkx,z2,y2,t2,zkw,n1,qA,qG];exact k) ?_;refine zeV (s:=s) (L:=L1) (M:=M2) om (by rfl) ?_;obtain⟨L2,h2⟩:∃ L,L=L1++M2:=⟨_,rfl⟩;have n2:L2.length=16:=by rw[h2,qA];omega
  rw[←h2];have q3:=fun K=>zaN s.num.toNat 32 K om;obtain⟨M3,hM3⟩:∃ L,L=zj s.num.toNat 32:=⟨_,rfl⟩;have k3:M3.length=32:=by rw[hM3];simp[zm]
  have z3:=zb6 M3;have y3:=zb6 L2;rw[←hM3]at q3;rw[←en]at q3;have t3:qE 32 (bs (zb M3))=bs (zb M3):=qB om;rw[k3]at z3;refine PW.f (fun K k=>by simp(disch:=omega) only[go_sem,↓reduceIte,reduceCtorEq,rF,zky,sqc];refine VCx.call (q3 _) rfl ?_;simp(disch:=omega) only[go_sem,↓reduceIte,reduceCtorEq,zkx,z3,y3,t3,zkw,n2,qA,qG];exact k) ?_;refine zeV (s:=s) (L:=L2) (M:=M3) om (by rfl) ?_;obtain⟨L3,h3⟩:∃ L,L=L2++M3:=⟨_,rfl⟩;have n3:L3.length=48:=by rw[h3,qA];omega
  rw[←h3];have q4:=fun K=>zaN s.den.toNat 32 K om;obtain⟨M4,hM4⟩:∃ L,L=zj s.den.toNat 32:=⟨_,rfl⟩;have k4:M4.length=32:=by rw[hM4];simp[zm]
  have z4:=zb6 M4;have y4:=zb6 L3;rw[←hM4]at q4;rw[←ed]at q4;have t4:qE 32 (bs (zb M4))=bs (zb M4):=qB om;rw[k4]at z4;refine PW.f (fun K k=>by simp(disch:=omega) only[go_sem,↓reduceIte,reduceCtorEq,rF,zky,sqc];refine VCx.call (q4 _) rfl ?_;simp(disch:=omega) only[go_sem,↓reduceIte,reduceCtorEq,zkx,z4,y4,t4,zkw,n3,qA,qG];exact k) ?_;refine zeV (s:=s) (L:=L3) (M:=M4) om (by rfl) ?_;obtain⟨L4,h4⟩:∃ L,L=L3++M4:=⟨_,rfl⟩;have n4:L4.length=80:=by rw[h4,qA];omega
  rw[←h4];have f5:=fun K=>zhL s.il K;have y5:=zb6 L4;have g5:=zkx H s L4 [];have i5:=zkw H s L4 [];simp only[qI]at g5 i5;refine PW.f (fun K k=>by simp(disch:=omega) only[go_sem,↓reduceIte,reduceCtorEq,rF,zky,sqc];refine VCx.call (f5 _) rfl ?_;simp(disch:=omega) only[go_sem,↓reduceIte,reduceCtorEq,g5,y5,i5,n4,qA,qG];exact k) ?_;refine zha (s:=s) (L:=L4) (M:=[s.il]) (by simp[n4]) (zuh _) (by rfl) ?_;obtain⟨L5,h5⟩:∃ L,L=L4++[s.il]:=⟨_,rfl⟩;have n5:L5.length=81:=by rw[h5,qA,n4];rfl
  rw[←h5];have q6:=fun K=>zaN s.br.toNat 32 K om;obtain⟨M6,hM6⟩:∃ L,L=zj s.br.toNat 32:=⟨_,rfl⟩;have k6:M6.length=32:=by rw[hM6];simp[zm]
  have z6:=zb6 M6;have y6:=zb6 L5;rw[←hM6]at q6;rw[←er]at q6;have t6:qE 32 (bs (zb M6))=bs (zb M6):=qB om;rw[k6]at z6;refine PW.f (fun K k=>by simp(disch:=omega) only[go_sem,↓reduceIte,reduceCtorEq,rF,zky,sqc];refine VCx.call (q6 _) rfl ?_;simp(disch:=omega) only[go_sem,↓reduceIte,reduceCtorEq,zkx,z6,y6,t6,zkw,n5,qA,qG];exact k) ?_;refine zeV (s:=s) (L:=L5) (M:=M6) om (by rfl) ?_;obtain⟨L6,h6⟩:∃ L,L=L5++M6:=⟨_,rfl⟩;have n6:L6.length=113:=by rw[h6,qA];omega
  rw[←h6];have q7:=fun K=>zaN s.bf.toNat 32 K om;obtain⟨M7,hM7⟩:∃ L,L=zj s.bf.toNat 32:=⟨_,rfl⟩;have k7:M7.length=32:=by rw[hM7];simp[zm]
  have z7:=zb6 M7;have y7:=zb6 L6;rw[←hM7]at q7;rw[←ef]at q7;have t7:qE 32 (bs (zb M7))=bs (zb M7):=qB om;rw[k7]at z7;refine PW.f (fun K k=>by simp(disch:=omega) only[go_sem,↓reduceIte,reduceCtorEq,rF,zky,sqc];refine VCx.call (q7 _) rfl ?_;simp(disch:=omega) only[go_sem,↓reduceIte,reduceCtorEq,zkx,z7,y7,t7,zkw,n6,qA,qG];exact k) ?_;refine zeV (s:=s) (L:=L6) (M:=M7) om (by rfl) ?_;obtain⟨L7,h7⟩:∃ L,L=L6++M7:=⟨_,rfl⟩;have n7:L7.length=145:=by rw[h7,qA];omega
  rw[←h7];have y8:=zb6 L7;have x8:=zd3 s.ia dIn;have x8':=zm2 s.ia dIn;have w8:=fun K=>zhA s.ia dIn K hs.ia znm;have z8:=zb6 (mxb s.ia dIn);have t8:qE (mxb s.ia dIn).length (bs (zb (mxb s.ia dIn)))=bs (zb (mxb s.ia dIn)):=qB om;have g8:=zkx H s L7 [];have i8:=zkw H s L7 [];simp only[qI]at g8 i8;obtain⟨M8,hM8⟩:∃ L,L=mxb s.ia dIn:=⟨_,rfl⟩;rw[←hM8]at x8 x8' w8 z8 t8;(repeat refine PW.seq ?_);refine PW.drawi [H.length+2] [(4,[0]),(53,[0]),(58,[0])] [] [56,57] mix kr (by simp<;>omega) fun K hK=> ?_;simp(disch:=omega) only[go_sem,↓reduceIte,reduceCtorEq,rF,zky,sqc,tia,qA,lia,lie];refine VCj.read (fun _ _=>ztd _) rfl ?_;simp(disch:=omega) only[go_sem,↓reduceIte,reduceCtorEq];refine VCj.read (fun _ _=>w8 _) rfl ?_;simp(disch:=omega) only[go_sem,↓reduceIte,reduceCtorEq,g8,y8,z8,t8,i8,qA];refine hK _ _ ?_;clear hK K;refine zha (s:=s) (L:=L7) (M:=M8) rfl rfl (by rfl) ?_;obtain⟨L8,h8⟩:∃ L,L=L7++M8:=⟨_,rfl⟩;have n8:L8.length≤145+513 * 1:=by rw[h8,qA];omega
  rw[←h8];have y9:=zb6 L8;have x9:=zd3 s.ie dIt;have x9':=zm2 s.ie dIt;have w9:=fun K=>zhA s.ie dIt K hs.ie znl;have z9:=zb6 (mxb s.ie dIt);have t9:qE (mxb s.ie dIt).length (bs (zb (mxb s.ie dIt)))=bs (zb (mxb s.ie dIt)):=qB om;have g9:=zkx H s L8 [];have i9:=zkw H s L8 [];simp only[qI]at g9 i9;obtain⟨M9,hM9⟩:∃ L,L=mxb s.ie dIt:=⟨_,rfl⟩;rw[←hM9]at x9 x9' w9 z9 t9;(repeat refine PW.seq ?_);refine PW.drawi [H.length+2] [(4,[0]),(59,[0]),(64,[0])] [] [62,63] mix kr (by simp<;>omega) fun K hK=> ?_;simp(disch:=omega) only[go_sem,↓reduceIte,reduceCtorEq,rF,zky,sqc,tie,tk,qA,lia,lie];refine VCj.read (fun _ _=>ztc _) rfl ?_;simp(disch:=omega) only[go_sem,↓reduceIte,reduceCtorEq];refine VCj.read (fun _ _=>w9 _) rfl ?_;simp(disch:=omega) only[go_sem,↓reduceIte,reduceCtorEq,g9,y9,z9,t9,i9,qA];refine hK _ _ ?_;clear hK K;refine zha (s:=s) (L:=L8) (M:=M9) rfl rfl (by rfl) ?_;obtain⟨L9,h9⟩:∃ L,L=L8++M9:=⟨_,rfl⟩;have n9:L9.length≤145+513 * 2:=by rw[h9,qA];omega
  rw[←h9];have hL:zg4 s=L9:=by rw[h9,h8,h7,h6,h5,h4,h3,h2,h1,hM2,hM3,hM4,hM6,hM7,hM8,hM9];simp[zg4]
  have hp:CallOk Tryz.prog 269 [.msl (H.length+2) L9.length 0 L9.length 1 true] (rH H s L9)
    (.slice (bs (pk (L9++[true]))) (pk (L9++[true])).length false) (H++[⟨29,0,sqc s⟩,⟨58,0,[.int .i64 0,.slice [] 0 true]⟩,⟨5,L9.length+1,[]⟩]):=by
   refine CallOk.frz1 (args':=[.slice (bs (zb L9)) L9.length false]) (id:=H.length+2) (k:=⟨5,L9.length,bs (zb L9)⟩) (hp2 _ _ _ _ _) ?_ ⟨.inr ⟨L9.length,1,true,rfl,by rw[zb6,Nat.mul_one],rfl⟩,trivial⟩;unfold rH;rw[hs2];exact zdH L9 false _ om
  refine PW.f (fun K k=>by simp(disch:=omega) only[go_sem,↓reduceIte,reduceCtorEq,rF];refine VCx.call (hp) rfl ?_;simp(disch:=omega) only[go_sem,↓reduceIte,reduceCtorEq];exact k) ?_;generalize hP:pk (L9++[true])=P at *;refine PW.v (.tup [.agg [.int .i64 179,.slice (bs P) P.length false],.int .i64 0]) ?_;rw[←hr,hL,hP];exact Fin.base (.id (zbt _ _ _ _))
set_option maxHeartbeats 4000000 in
theorem zpT(c b:Bool)(t:Int)(H:za)(ht:zfP t):CallOk Tryz.prog 187 [.agg [.bool c,.bool b,.int .i64 t]] H (.tup [uv (zeY c b t).1 (zeY c b t).2.1,.int .i64 (zeY c b t).2.2]) H:=by
 generalize hr:zeY c b t=r;unfold zeY at hr;refine CallOk.go Tryz.func187 Tryz.ntmps187 Tryz.results187 ?_;refine PW.e ?_;by_cases hc:0≤t∧t<16777216;rotate_left
 ·rw[if_neg hc]at hr;suffices hrest:PW Tryz.prog _ _ [(1,.ptr H.length 0 0),(2,.ptr (H.length+1) 0 0),(12,.bool true)] (H++[⟨41,0,[.bool c,.bool b,.int .i64 t]⟩,⟨58,0,[.int .i64 0,.slice [] 0 true]⟩]) _ by
   by_cases h0:t<0
   ·have d0:decide (t<0)=true:=decide_eq_true h0;refine PW.g d0 ?_;exact PW.at [1,2,12] hrest rfl rfl
   ·have d0:decide (t<0)=false:=decide_eq_false h0;have d1:decide (16777216≤t)=true:=decide_eq_true om;refine PW.g (nq2 d0 d1) ?_;exact PW.at [1,2,12] hrest rfl rfl
  refine PW.t ?_;refine PW.e ?_;refine PW.v (.tup [.agg [.int .i64 0,.slice [] 0 true],.int .i64 1]) ?_;rw[←hr];exact Fin.base (Fz.tupC ⟨Fz.aggC ⟨.id (.int _ _),.slice rfl (fun j x y hx=>by simp at hx) (fun e=>by cases e),trivial⟩,.id (.int _ _),trivial⟩)
 rw[if_pos hc]at hr;have d0:decide (t<0)=false:=decide_eq_false om;have d1:decide (16777216≤t)=false:=decide_eq_false om;refine PW.g (nq2 d0 d1) ?_;refine PW.us ?_;have et:t=(t.toNat:Int):=om;have bo:=fun K=>zaN t.toNat 24 K om;have mo:=fun M=>zb6 M;have hM:(zbr c b t).length=26:=by simp[zbr,zm]
 obtain⟨M,hM'⟩:∃ L,L=zj t.toNat 24:=⟨_,rfl⟩;have k1:M.length=24:=by rw[hM'];simp[zm]
 have z1:=zb6 M;have t1:qE 24 (bs (zb M))=bs (zb M):=qB om;rw[←hM',←et]at bo;rw[k1]at z1;have fc:=fun K=>zhL c K;have fb:=fun K=>zhL b K;have uc:=zfn c;have ub:=zfn b;have bf:=fun K=>(bo K).base (v:=.slice (bs (zb M)) 24 false) (Fz.mslC (e:=5) (xs:=bs (zb M)) (Nat.le_refl _) sp om (FzC.refl (zo _ _)));(repeat refine PW.seq ?_);refine PW.view (Vs.place 5) ?_;refine PW.eq rfl (show _=H++[⟨41,0,[.bool c,.bool b,.int .i64 t]⟩,⟨58,0,[.int .i64 0,.slice [] 0 true]⟩,⟨5,0,[]⟩]from qD _ _ _) ?_;(repeat refine PW.seq ?_);refine PW.drawi [H.length+2] [(25,[0]),(4,[0])] [(25,0)] [16,19,24] mix kr (by simp<;>omega) fun K hK=> ?_;refine sqz ?_;refine VCj.read (fun _ _=>fc _) rfl ?_;simp(disch:=omega) only[go_sem,↓reduceIte,reduceCtorEq];refine VCj.read (fun _ _=>fb _) rfl ?_;simp(disch:=omega) only[go_sem,↓reduceIte,reduceCtorEq];refine VCj.read (fun _ _=>bf _) rfl ?_;simp(disch:=omega) only[go_sem,↓reduceIte,reduceCtorEq,z1];refine hK _ _ ?_;clear hK K;have hcb:PV.int .u8 (c.toNat:Int)::PV.int .u8 (b.toNat:Int)::bs (zb M)=bs (zb (zbr c b t)):=by rw[zbr,zee,←hM'];cases c<;>cases b<;>rfl
 rw[hcb];have zg:=zb6 (zbr c b t);generalize zbr c b t=L at *;have hp:CallOk Tryz.prog 269 [.msl (H.length+2) 1 0 (2+24) 1 true] (H++[⟨41,0,[.bool c,.bool b,.int .i64 t]⟩,⟨58,0,[.int .i64 0,.slice [] 0 true]⟩,⟨5,1,bs (zb L)⟩])
   (.slice (bs (pk (L++[true]))) (pk (L++[true])).length false) (H++[⟨41,0,[.bool c,.bool b,.int .i64 t]⟩,⟨58,0,[.int .i64 0,.slice [] 0 true]⟩,⟨5,2,[]⟩]):=by
  refine CallOk.frz1 (args':=[.slice (bs (zb L)) L.length false]) (id:=H.length+2) (k:=⟨5,1,bs (zb L)⟩) (hp2 _ _ _ _ _) ?_ ⟨.inr ⟨2+24,1,true,rfl,by show(bs (zb L)).length=_;omega,by rw[hM]⟩,trivial⟩;rw[hs2];exact zdH L false _ om
 refine PW.f (fun K k=>by simp(disch:=omega) only[go_sem,↓reduceIte,reduceCtorEq];refine VCx.call (hp) rfl ?_;simp(disch:=omega) only[go_sem,↓reduceIte,reduceCtorEq];exact k) ?_;generalize hP:pk (L++[true])=P at *;refine PW.v (.tup [.agg [.int .i64 184,.slice (bs P) P.length false],.int .i64 0]) ?_;rw[←hr];exact Fin.base (.id (zbt _ _ _ _))
theorem nm_e{q:List UInt8}{n a e k:Nat}(he:e≤4):(nm true q n (a,e) k).2.2≤4:=by
 unfold nm;split
 ·exact he
 ·split
  ·exact qP _
  ·exact Nat.le_refl _
structure Tk(H:za)(c i:Nat)(q:List UInt8)(n:Nat):Prop where
 hc:c<H.length
 hi:i<H.length
 ne:c≠i
 hn:n≤8 * q.length
 hq:q.length≤100000000
structure RkU(n:Nat)(x:Nat×Nat):Prop where
 a:x.1≤n
 e:x.2≤4
theorem RkU.nm{q:List UInt8}{n:Nat}{x:Nat×Nat}(h:RkU n x)(k:Nat):RkU n (nm true q n x k).2:=⟨ztW h.a,nm_e h.e⟩
end Go.Proofs.YtpjlfoficnpfoaaGreatDoor.Sc
