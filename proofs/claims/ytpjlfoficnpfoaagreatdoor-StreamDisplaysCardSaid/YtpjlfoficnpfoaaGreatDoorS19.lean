/-
  Parts of the proof, put together in one text. No condition.
-/
import Derived.Test.YtpjlfoficnpfoaaGreatDoorS18
open Array renaming toList → qO
open Bool renaming and_eq_true → qB, not_eq_true' → qW, and_true → qY, or_eq_true → jH
open Int renaming toNat_natCast → qE, le_refl → jC
open List renaming getElem?_eq_getElem → qA, getElem?_eq_some_iff → qC, append_nil → qD, getElem?_drop → qH, mapM_cons → qK, drop_eq_getElem_cons → qL, getElem?_of_mem → qM, mapM_nil → qN, take → qP, modify_succ_cons → qQ, length_cons → qR, getElem?_modify → qS, getElem?_take → qU, flatMap_cons → qV, all_cons → qX, flatMap_nil → qZ, all_nil → jA, length_map → jB, takeWhile_cons → jD, length_append → jE, append_assoc → jG, take_append_drop → jJ, length_singleton → jK
open Nat renaming mul_comm → qJ, le_refl → qT, eq_or_lt_of_le → jF, zero_add → jI, zero_le → jL
open Option renaming bind_eq_bind → qF, bind_some → qG, pure_def → qI
namespace Go.Proofs.YtpjlfoficnpfoaaGreatDoor.Sc
set_option linter.all false
open Pm Ty Go.RowKit
def cdE(c:Cdd):List PV:=cdc c.p c.U c.us
def cdL(cs:List Cdd):List PV:=cs.flatMap cdE
theorem zoG(cs:List Cdd):(cdL cs).length=cs.length * 8:=zaT cdE 8 cs fun _ _=>rfl
theorem zyp(cs:List Cdd)(k:Nat)(hk:k<cs.length):qP 8 (List.drop (k * 8) (cdL cs))=cdE cs[k]:=zbR cdE 8 cs k hk fun _ _=>rfl
theorem zkg(n:Nat)(cs:List Cdd):∀ x∈cdL cs,Scoped n x:=fun x hx=>by obtain⟨u,_,hx⟩:=List.mem_flatMap.1 hx;exact zf0 _ _ _ _ x hx
structure CdOk(c:Cdd):Prop where
 n:c.us.length≤1000000
 u:∀ u∈c.us,zih u.1∧u.2.length≤100000000
theorem zkq(l:List Bool)(f:Bool)(hn:l.length≤1000000)(H:za):CallOk Tryz.prog 34 [.slice (l.map PV.bool) l.length f] H (.bool (l.all id)) H:=by
 have fin:∀(b:Bool),Fin H (.bool b) H (.bool b) H:=fun b=>Fin.now;refine CallOk.go Tryz.func34 Tryz.ntmps34 Tryz.results34 ?_;refine PW.e ?_;refine PW.e ?_;refine PW.l ?_;suffices hl1:∀ j:Nat,j≤l.length→(l.drop j).all id=l.all id→PL Tryz.prog _ _ [(5,.slice (l.map PV.bool) l.length f),(6,.int .i64 (l.length:Int)),(7,.int .i64 (j:Int))] H _ by exact PL.at [5,6,7] (hl1 0 om rfl) rfl rfl
 intro j hj hf;induction hd:l.length - j using Nat.strongRecOn generalizing j with
 | _ d ih=>
  refine PL.round ?_;refine PW.e ?_;refine PW.c (fun h=> ?_) (fun h=> ?_)
  ·have hjl:j<l.length:=ot h;have ea:(l.map PV.bool)[j]? =some (.bool l[j]):=by rw[List.getElem?_map,qA hjl];rfl
   have hnext:=ih (l.length - (j+1)) om (j+1) om;rw[zcn _ l j hjl]at hf;generalize l[j]=b at *;refine PW.skip ?_;refine PW.b ?_;refine PW.f (fun K k=>by simp(maxSteps:=3000000) (disch:=omega) only[go_sem,↓reduceIte,reduceCtorEq,ea,jB];exact k) ?_;refine PW.e ?_;cases b with
   | true=>
    refine PW.us ?_;refine PW.e ?_;exact PL.at [5,6,7] (hnext hf rfl) rfl rfl
   | false=>refine PW.t ?_;refine PW.e ?_;refine PW.v (.bool false) ?_;rw[←hf];exact fin _
  ·have hjl:j=l.length:=ofF h;subst hjl;rw[List.drop_length]at hf;rw[←hf];refine PW.exit ?_;refine PW.e ?_;refine PW.v (.bool true) ?_;exact fin _
set_option maxHeartbeats 4000000 in
set_option maxRecDepth 10000 in
theorem zvu(s:Sq)(cs:List Cdd)(f:Bool)(hs:SqOk s)(hn:cs.length≤1000000)(H:za):CallOk Tryz.prog 32 [.agg (sqc s),.slice (cdL cs) cs.length f] H (.bool (zgl s cs)) H:=by
 have fin:∀(b:Bool) (K:za),Fin H (.bool b) H (.bool b) (H++K):=fun b K=>Fin.base (.id (.bool _));have h1:=zbt s;have h2:=zbK s hs;have h3:=zdy s hs;have ln:=zoG cs;have pv:=fun p K=>zcQ s p K hs;unfold zgl;refine CallOk.go Tryz.func32 Tryz.ntmps32 Tryz.results32 ?_;refine PW.g h1 ?_;refine PW.e ?_;refine PW.l ?_;suffices hl1:∀ j:Nat,j≤cs.length→((cs.drop j).all fun c=>zP s c.p)=(cs.all fun c=>zP s c.p)→PL Tryz.prog _ _ [(1,.slice (cdL cs) cs.length f),(2,.ptr H.length 0 0),(7,.slice (cdL cs) cs.length f),(8,.int .i64 (cs.length:Int)),(9,.int .i64 (j:Int))] (H++[⟨29,0,sqc s⟩]) _ by exact PL.at [1,2,7,8,9] (hl1 0 om rfl) rfl rfl
 intro j hj hf;induction hd:cs.length - j using Nat.strongRecOn generalizing j with
 | _ d ih=>
  refine PL.round ?_;refine PW.e ?_;refine PW.c (fun h=> ?_) (fun h=> ?_)
  ·have hjl:j<cs.length:=ot h;have ea:=zyp cs j hjl;have hnext:=ih (cs.length - (j+1)) om (j+1) om;rw[zcn _ cs j hjl]at hf;generalize cs[j]=c at *;have pc:=fun K=>pv c.p K;have e1:(cdE c).length=8:=rfl;have e2:(cdE c).all PV.cell=true:=rfl;have e3:qP 6 (cdE c)=pic c.p:=rfl;have e4:qP 8 (cdE c)=cdE c:=rfl;refine PW.skip ?_;refine PW.b ?_;refine PW.g (nq2 ea (nq2 ln (nq2 e1 (nq2 e2 e4)))) ?_;refine PW.m (nq2 h2 (nq2 h3 (nq2 e1 e3))) pc ?_;cases hb:zP s c.p with
   | true=>
    rw[hb]at hf;refine PW.us ?_;refine PW.e ?_;refine PL.view (Vs.trim (F1:=[(1,.slice (cdL cs) cs.length f),(2,.ptr H.length 0 0),(7,.slice (cdL cs) cs.length f),(8,.int .i64 (cs.length:Int)),(9,.int .i64 ((j+1:Nat):Int))]) (H1:=H++[⟨29,0,sqc s⟩]) (K:=[⟨39,0,cdE c⟩]) (fun hh=>zey (fun b hb x hx=> ?_) hh) sp sp ?_) (hnext hf rfl)
    ·rw[List.mem_singleton]at hb;subst hb;exact zbm _ _ x hx
    ·exact⟨.id (zj (zkg _ _)),.id (.ptr sp),.id (zj (zkg _ _)),.id (.int _ _),.id (.int _ _),trivial⟩
   | false=>rw[hb]at hf;refine PW.t ?_;refine PW.e ?_;refine PW.v (.bool false) ?_;rw[←hf,Bool.false_and,Bool.false_and];exact fin _ _
  ·have hjl:j=cs.length:=ofF h;subst hjl;rw[List.drop_length]at hf;rw[←hf];refine PW.exit ?_;refine PW.e ?_;refine PW.block ?_
   match cs with
   | []=>
    refine PW.e ?_;refine PW.u ?_;refine PW.e ?_;refine PW.us ?_;refine PW.e ?_;refine PW.v (.bool false) ?_;exact fin _ _
   | [c]=>
    refine PW.e ?_;refine PW.t ?_;refine PW.f (fun K k=>by simp(maxSteps:=3000000) (disch:=omega) only[go_sem,↓reduceIte,reduceCtorEq,cdL,qV,qZ,cdE,cdc,pic];exact k) ?_;refine PW.v (.bool (c.p.st==3)) ?_;exact fin _ _
   | [c,d]=>
    have le:=fun K=>zoa c.p K;have pa:=fun K=>zlo c.p d.p K;simp only[pic]at le pa;refine PW.e ?_;refine PW.u ?_;refine PW.e ?_;refine PW.t ?_;generalize hb1:zcV c.p=b1 at le;generalize hb2:zb7 c.p d.p=b2 at pa;cases b1 with
    | false=>
     (repeat refine PW.seq ?_);refine PW.drawg mix kr fun K hK=> ?_;simp(maxSteps:=3000000) (disch:=omega) only[go_sem,↓reduceIte,reduceCtorEq,cdL,qV,qZ,cdE,cdc,pic];refine VCz.call (fun _=>le _) rfl ?_;refine sqz ?_;refine hK _ _ ?_;clear hK K;refine PW.v (.bool false) ?_;show Pm.Fin H (.bool (zcV c.p&&zb7 c.p d.p)) H _ _;rw[hb1];exact fin _ _
    | true=>
     (repeat refine PW.seq ?_);refine PW.drawg mix kr fun K hK=> ?_;simp(maxSteps:=3000000) (disch:=omega) only[go_sem,↓reduceIte,reduceCtorEq,cdL,qV,qZ,cdE,cdc,pic];refine VCz.call (fun _=>le _) rfl ?_;simp(maxSteps:=3000000) (disch:=omega) only[go_sem,↓reduceIte,reduceCtorEq,cdL,qV,qZ,cdE,cdc,pic];refine VCz.call (fun _=>pa _) rfl ?_;refine sqz ?_;refine hK _ _ ?_;clear hK K;refine PW.v (.bool b2) ?_;show Pm.Fin H (.bool (zcV c.p&&zb7 c.p d.p)) H _ _;rw[hb1,hb2];exact fin _ _
   | c::d::e::r=>have d1:decide ((((c::d::e::r).length:Nat):Int)=1)=false:=decide_eq_false (by simp only[qR];omega);have d2:decide ((((c::d::e::r).length:Nat):Int)=2)=false:=decide_eq_false (by simp only[qR];omega);have d1':((((c::d::e::r).length:Nat):Int)==1)=false:=d1;have d2':((((c::d::e::r).length:Nat):Int)==2)=false:=d2;obtain⟨cs',hcs⟩:∃ cs':List Cdd,cs'=c::d::e::r:=⟨_,rfl⟩;rw[←hcs]at d1' d2' ⊢;refine PW.f (fun K k=>by simp(maxSteps:=3000000) (disch:=omega) only[go_sem,↓reduceIte,reduceCtorEq,d1'];exact k) ?_;refine PW.u ?_;refine PW.f (fun K k=>by simp(maxSteps:=3000000) (disch:=omega) only[go_sem,↓reduceIte,reduceCtorEq,d2'];exact k) ?_;refine PW.us ?_;refine PW.e ?_;refine PW.v (.bool false) ?_;subst hcs;exact fin false _
def zfr:List PV:=[.int .i64 0,.int .i64 0,.slice [] 0 true,.slice [] 0 true,.slice [] 0 true]
theorem zwE(n:Nat)(H:za):FzC n H zfr (fmc f0):=⟨.id (.int _ _),.id (.int _ _),Fz.sliceC (xs:=[]) (ys:=[]) trivial (fun h=>by cases h),Fz.sliceC (xs:=[]) (ys:=[]) trivial (fun h=>by cases h),Fz.sliceC (xs:=[]) (ys:=[]) trivial (fun h=>by cases h),trivial⟩
theorem zpX:Wkns zfr (fmc f0):=.cons (.refl _) (.cons (.refl _) (.cons (.slF _ _ _) (.cons (.slF _ _ _) (.cons (.slF _ _ _) .nil))))
def zez(r:Fm×Bool×Int):PV:=.tup [.agg (fmc r.1),.bool r.2.1,.int .i64 r.2.2]
theorem zgy(H K:za)(e:Int):Fin H (zez (f0,false,e)) H (.tup [.agg zfr,.bool false,.int .i64 e]) (H++K):=Fin.base (Fz.tupC ⟨Fz.aggC (zwE _ _),.id (.bool _),.id (.int _ _),trivial⟩)
theorem zve(n:Nat)(f:Fm):∀ x∈fmc f,Scoped n x:=zbo _ _ _ _ _ _ _ _ _ _ _ _
theorem zfb(H K:za)(r:Fm×Bool×Int):Fin H (zez r) H (zez r) (H++K):=Fin.base (.id (.tup (asc fun x hx=>by
 simp only[List.mem_cons,List.not_mem_nil,or_false]at hx;rcases hx with rfl|rfl|rfl
 ·exact zw (zve _ _)
 ·exact .bool _
 ·exact .int _ _)))
theorem zst{A B:Nat}{f:Fm}(h:Gok A B f)(h2:B≤2):Hok (8 * A) (8 * B) f:=by have ha:=h.ra;have hb:=h.rb;exact⟨by rw[h.w];omega,by rw[h.h];omega,om,om,by rw[h.ly,qJ];congr 1<;>omega,by rw[h.lu,qJ],by rw[h.lv,qJ]⟩
theorem zjj{s:Sq}{p:Pi}{us:List (Int×List UInt8)}{pa fu fi:Fm}{b:Bool}(h:(za9 s p us pa fu fi b).2=0):∃ A B,DecOk s p pa fu fi b A B∧Gok A B (za9 s p us pa fu fi b).1.1∧(za9 s p us pa fu fi b).1.2.length≤4:=by
 unfold za9 at h ⊢;by_cases hE:zeE s p pa fu fi b=0
 ·obtain⟨A,B,hd⟩:=DecOk.of hE;rw[if_pos hE];have hr:=hd.r;have hB:=hd.rb;refine⟨A,B,hd,?_,?_⟩
  ·show Gok A B (zbE s p b us pa fu fi (s.w / 16).toNat _ (zaQ s p).toNat).1;rw[hr,qE,show(s.w / 16).toNat=A by rw[hd.w];omega];exact zd0 hd us (zkc hd) B (qT _)
  ·show(zbE s p b us pa fu fi _ _ (zaQ s p).toNat).2.length≤4;rw[zdZ,hr,qE];omega
 ·rw[if_neg hE]at h;exact absurd h hE
set_option maxHeartbeats 16000000 in
set_option maxRecDepth 100000 in
theorem zsD(s:Sq)(cs:List Cdd)(pa fu:Fm)(fl:Bool)(hs:SqOk s)(hc:∀ c∈cs,CdOk c)(hn:cs.length≤1000000)(H:za):CallOk Tryz.prog 12 [.agg (sqc s),.slice (cdL cs) cs.length fl,.agg (fmc pa),.agg (fmc fu)] H (zez (zhH s cs pa fu)) H:=by
 have h1:=zbt s;have h2:=zbK s hs;have h3:=zdy s hs;have co:=fun K=>zvu s cs fl hs hn K;have F5:∀ g:Fm,(fmc g).all PV.cell=true:=fun _=>rfl;have F7:∀ g:Fm,(fmc g).length=5:=fun _=>rfl;have F8:∀ g:Fm,qP 5 (fmc g)=fmc g:=fun _=>rfl;have Z7:zfr.length=5:=rfl;have F9:∀ g:Fm,List.drop 5 (fmc g)=[]:=fun _=>rfl;have e8:∀ c:Cdd,(cdE c).length=8:=fun _=>rfl;have t8:∀ c:Cdd,qP 8 (cdE c)=cdE c:=fun _=>rfl;unfold zhH;refine CallOk.go Tryz.func12 Tryz.ntmps12 Tryz.results12 ?_;refine PW.g (nq2 h1 F5) ?_;refine PW.m (nq2 h2 h3) co ?_;cases hb:zgl s cs with
 | false=>
  rw[if_neg sp];refine PW.t ?_;refine PW.e ?_;refine PW.ret ⟨.tup [.agg zfr,.bool false,.int .i64 1],by simp(maxSteps:=3000000) (disch:=omega) only[go_sem,↓reduceIte,reduceCtorEq,zx,zK,qK,qN,qI,qF,qG,qO,zfr],?_⟩;exact zgy _ _ _
 | true=>
  rw[if_pos rfl];refine PW.us ?_;clear co
  match cs with
  | []=>simp[zgl]at hb
  | c::d::e::r=>simp[zgl]at hb
  | [c]=>
   have hcc:=hc c sp;have de:=fun K=>(zfU s c.p c.U c.us pa fu f0 false hs hcc.n hcc.u K).wk (args:=[.agg (sqc s),.agg (cdE c),.agg (fmc pa++(fmc fu++zfr)),.bool false]) (.cons (.refl _) (.cons (.refl _) (.cons (.agg ((Wkns.refl _).append ((Wkns.refl _).append zpX)) rfl) (.cons (.refl _) .nil))));have hX:=fun h=>zjj (s:=s) (p:=c.p) (us:=c.us) (pa:=pa) (fu:=fu) (fi:=f0) (b:=false) h;have i0:qP 8 (cdL [c])=cdE c:=rfl;have i1:(cdL [c]).length=8:=rfl;have c8:(cdE c).all PV.cell=true:=rfl;dsimp only;generalize za9 s c.p c.us pa fu f0 false=X at de hX ⊢;refine PW.f (fun K k=>by simp(maxSteps:=3000000) (disch:=omega) only[go_sem,↓reduceIte,reduceCtorEq,fmc];exact k) ?_;refine PW.at [1,4,8,11] (?_:PW _ _ _ [(1,.slice (cdL [c]) 1 fl),(4,.ptr H.length 0 0),(8,.ptr (H.length+3) 0 0),(11,.ptr (H.length+4) 0 0)] (H++[⟨29,0,sqc s⟩,⟨33,0,fmc pa⟩,⟨33,0,fmc fu⟩,⟨33,0,zfr⟩,⟨84,0,fmc pa++(fmc fu++zfr)⟩]) _) rfl rfl;have rl:(fmc pa++(fmc fu++zfr)).length=15:=rfl;have rt:qP 15 (fmc pa++(fmc fu++zfr))=fmc pa++(fmc fu++zfr):=rfl;by_cases h0:X.2=0
   ·obtain⟨A,B,hd,hg,hr⟩:=hX h0;rw[if_pos h0];unfold zfi at de;rw[if_pos h0]at de;have al:=fun K=>zkq X.1.2 false om K;(repeat refine PW.seq ?_);refine PW.drawg mix kr fun K hK=> ?_;simp(maxSteps:=3000000) (disch:=omega) only[go_sem,↓reduceIte,reduceCtorEq,h2,h3,i0,i1,rl,rt,e8,t8];refine VCz.call (fun _=>de _) rfl ?_;refine sqx (nq2 F5 (nq2 F7 F8)) ?_;refine hK _ _ ?_;clear hK K;refine PW.e ?_;refine PW.us ?_;refine PW.e ?_;refine PW.t ?_;(repeat refine PW.seq ?_);refine PW.drawi [H.length+3] [(8,[0])] [] [46] mix kr (by simp<;>omega) fun K hK=> ?_;refine sqx (nq2 F5 (nq2 F7 F8)) ?_;refine VCj.read (fun _ _=>al _) rfl ?_;simp(maxSteps:=3000000) (disch:=omega) only[go_sem,↓reduceIte,reduceCtorEq,F5,F7,F8,zfr];refine hK _ _ ?_;clear hK K;refine PW.ret ⟨zez (X.1.1,X.1.2.all id,0),by simp(maxSteps:=3000000) (disch:=omega) only[go_sem,↓reduceIte,reduceCtorEq,zx,zK,qK,qN,qI,qF,qG,qO,F7,F8,zez],?_⟩;exact zfb _ _ _
   ·rw[if_neg h0];unfold zfi at de;rw[if_neg h0]at de;have z7:[PV.int .i64 0,PV.int .i64 0,PV.slice [] 0 true,PV.slice [] 0 true,PV.slice [] 0 true].length=5:=rfl;(repeat refine PW.seq ?_);refine PW.drawg mix kr fun K hK=> ?_;simp(maxSteps:=3000000) (disch:=omega) only[go_sem,↓reduceIte,reduceCtorEq,h2,h3,i0,i1,rl,rt,e8,t8];refine VCz.call (fun _=>de _) rfl ?_;refine sqz ?_;refine hK _ _ ?_;clear hK K;have d0:(X.2 !=0)=true:=by simpa using h0
    refine PW.g d0 ?_;refine PW.t ?_;refine PW.f (fun K k=>by simp(maxSteps:=3000000) (disch:=omega) only[go_sem,↓reduceIte,reduceCtorEq,zfr];exact k) ?_;refine PW.ret ⟨.tup [.agg zfr,.bool false,.int .i64 X.2],by simp(maxSteps:=3000000) (disch:=omega) only[go_sem,↓reduceIte,reduceCtorEq,zx,zK,qK,qN,qI,qF,qG,qO,zfr],?_⟩;exact zgy _ _ _
  | [c,d]=>
   have hcc:=hc c sp;have hcd:=hc d sp;have de:=fun K=>(zfU s c.p c.U c.us pa fu f0 false hs hcc.n hcc.u K).wk (args:=[.agg (sqc s),.agg (cdE c),.agg (fmc pa++(fmc fu++zfr)),.bool false]) (.cons (.refl _) (.cons (.refl _) (.cons (.agg ((Wkns.refl _).append ((Wkns.refl _).append zpX)) rfl) (.cons (.refl _) .nil))));have hX:=fun h=>zjj (s:=s) (p:=c.p) (us:=c.us) (pa:=pa) (fu:=fu) (fi:=f0) (b:=false) h;have i0:qP 8 (cdL [c,d])=cdE c:=rfl;have i1:(cdL [c,d]).length=16:=rfl;have i2:qP 8 (List.drop 8 (cdL [c,d]))=cdE d:=rfl;have i5:(cdL [c,d])[1]? =some (.int .i64 c.p.st):=rfl;have c8:∀ c,(cdE c).all PV.cell=true:=fun _=>rfl;dsimp only;generalize za9 s c.p c.us pa fu f0 false=X at de hX ⊢;refine PW.f (fun K k=>by simp(maxSteps:=3000000) (disch:=omega) only[go_sem,↓reduceIte,reduceCtorEq,fmc];exact k) ?_;refine PW.at [1,4,8,11] (?_:PW _ _ _ [(1,.slice (cdL [c,d]) 2 fl),(4,.ptr H.length 0 0),(8,.ptr (H.length+3) 0 0),(11,.ptr (H.length+4) 0 0)] (H++[⟨29,0,sqc s⟩,⟨33,0,fmc pa⟩,⟨33,0,fmc fu⟩,⟨33,0,zfr⟩,⟨84,0,fmc pa++(fmc fu++zfr)⟩]) _) rfl rfl;have rl:∀ x,(fmc pa++(fmc fu++fmc x)).length=15:=fun _=>rfl;have rt:∀ x,qP 15 (fmc pa++(fmc fu++fmc x))=fmc pa++(fmc fu++fmc x):=fun _=>rfl;have rlz:(fmc pa++(fmc fu++zfr)).length=15:=rfl;have rtz:qP 15 (fmc pa++(fmc fu++zfr))=fmc pa++(fmc fu++zfr):=rfl;by_cases h0:X.2=0;rotate_left
   ·rw[if_neg h0];unfold zfi at de;rw[if_neg h0]at de;have z7:[PV.int .i64 0,PV.int .i64 0,PV.slice [] 0 true,PV.slice [] 0 true,PV.slice [] 0 true].length=5:=rfl;(repeat refine PW.seq ?_);refine PW.drawg mix kr fun K hK=> ?_;simp(maxSteps:=3000000) (disch:=omega) only[go_sem,↓reduceIte,reduceCtorEq,h2,h3,i0,i1,rlz,rtz,e8,t8];refine VCz.call (fun _=>de _) rfl ?_;refine sqz ?_;refine hK _ _ ?_;clear hK K;have d0:(X.2 !=0)=true:=by simpa using h0
    refine PW.g d0 ?_;refine PW.t ?_;refine PW.f (fun K k=>by simp(maxSteps:=3000000) (disch:=omega) only[go_sem,↓reduceIte,reduceCtorEq,zfr];exact k) ?_;refine PW.ret ⟨.tup [.agg zfr,.bool false,.int .i64 X.2],by simp(maxSteps:=3000000) (disch:=omega) only[go_sem,↓reduceIte,reduceCtorEq,zx,zK,qK,qN,qI,qF,qG,qO,zfr],?_⟩;exact zgy _ _ _
   obtain⟨A,B,hd,hg,hr⟩:=hX h0;rw[if_pos h0];unfold zfi at de;rw[if_pos h0]at de;have al:=fun K=>zkq X.1.2 false om K;(repeat refine PW.seq ?_);refine PW.drawg mix kr fun K hK=> ?_;simp(maxSteps:=3000000) (disch:=omega) only[go_sem,↓reduceIte,reduceCtorEq,h2,h3,i0,i1,rlz,rtz,e8,t8];refine VCz.call (fun _=>de _) rfl ?_;refine sqx (nq2 F5 (nq2 F7 F8)) ?_;refine hK _ _ ?_;clear hK K;refine PW.e ?_;refine PW.us ?_;refine PW.e ?_;refine PW.us ?_;clear de hX;have de:=fun K=>zfU s d.p d.U d.us pa fu X.1.1 true hs hcd.n hcd.u K;have hY:=fun h=>zjj (s:=s) (p:=d.p) (us:=d.us) (pa:=pa) (fu:=fu) (fi:=X.1.1) (b:=true) h;generalize za9 s d.p d.us pa fu X.1.1 true=Y at de hY ⊢;obtain⟨⟨g,rows⟩,e⟩:=X;simp only at h0 hg hr al de ⊢;subst h0;refine PW.f (fun K k=>by simp(maxSteps:=3000000) (disch:=omega) only[go_sem,↓reduceIte,reduceCtorEq,fmc,zfr];exact k) ?_;refine PW.at [1,4,8,11,12,13] (?_:PW _ _ _ [(1,.slice (cdL [c,d]) 2 fl),(4,.ptr H.length 0 0),(8,.ptr (H.length+3) 0 0),(11,.ptr (H.length+4) 0 0),(12,.ptr (H.length+5) 0 0),(13,.slice (rows.map PV.bool) rows.length false)] (H++[⟨29,0,sqc s⟩,⟨33,0,fmc pa⟩,⟨33,0,fmc fu⟩,⟨33,0,zfr⟩,⟨84,0,fmc pa++(fmc fu++fmc g)⟩,⟨33,0,fmc g⟩]) _) rfl rfl;by_cases k0:Y.2=0;rotate_left
   ·rw[if_neg k0];unfold zfi at de;rw[if_neg k0]at de;(repeat refine PW.seq ?_);refine PW.drawg mix kr fun K hK=> ?_;simp(maxSteps:=3000000) (disch:=omega) only[go_sem,↓reduceIte,reduceCtorEq,h2,h3,i1,i2,rl,rt,e8,t8];refine VCz.call (fun _=>de _) rfl ?_;refine sqz ?_;refine hK _ _ ?_;clear hK K;have d0:(Y.2 !=0)=true:=by simpa using k0
    refine PW.g d0 ?_;refine PW.t ?_;refine PW.f (fun K k=>by simp(maxSteps:=3000000) (disch:=omega) only[go_sem,↓reduceIte,reduceCtorEq,zfr];exact k) ?_;refine PW.ret ⟨.tup [.agg zfr,.bool false,.int .i64 Y.2],by simp(maxSteps:=3000000) (disch:=omega) only[go_sem,↓reduceIte,reduceCtorEq,zx,zK,qK,qN,qI,qF,qG,qO,zfr],?_⟩;exact zgy _ _ _
   obtain⟨A',B',hd',hg',hr'⟩:=hY k0;rw[if_pos k0];unfold zfi at de;rw[if_pos k0]at de;obtain⟨⟨g2,more⟩,e⟩:=Y;simp only at k0 hg' hr' de ⊢;subst k0;have al2:=fun K=>zkq more false om K;(repeat refine PW.seq ?_);refine PW.drawg mix kr fun K hK=> ?_;simp(maxSteps:=3000000) (disch:=omega) only[go_sem,↓reduceIte,reduceCtorEq,h2,h3,i1,i2,rl,rt,e8,t8];refine VCz.call (fun _=>de _) rfl ?_;refine sqx (nq2 F5 (nq2 F7 F8)) ?_;refine hK _ _ ?_;clear hK K;clear de hY;refine PW.e ?_;refine PW.us ?_;unfold zgl at hb;simp only[qX,jA,qY,qB]at hb;obtain⟨⟨v1,v2⟩,hl,hpr⟩:=hb;unfold zb7 at hpr;simp only[qB,qW,beq_eq_false_iff_ne,beq_iff_eq]at hpr;have eA:A'=A:=by have:=hd.w;have:=hd'.w;omega
   have e32:=(hd.h4 hpr.1).1;have e32':=(hd'.h4 hpr.2.1).1;have eB:B'=B:=om;subst eA eB;have h64:=(zbg v1).2.1;have k1:=zst hg om;have k2:=zst hg' om;have w0:∀ a b:Fm,Gok A' B' a→zh4 a b=zo1 (8 * A') (8 * B') a b:=fun a b ha=>by unfold zh4;rw[show(a.w / 2).toNat=8 * A' by rw[ha.w];omega,show(a.h / 2).toNat=8 * B' by rw[ha.h];omega]
   have we1:=fun K=>zgL (8 * A') (8 * B') g g2 k1 k2 K;have we2:=fun K=>zgL (8 * A') (8 * B') g2 g k2 k1 K;rw[←w0 g g2 hg]at we1;rw[←w0 g2 g hg']at we2;generalize zh4 g g2=W1 at we1 ⊢;generalize zh4 g2 g=W2 at we2 ⊢;refine PW.view (Vs.place 33) (PW.view (Vs.place 33) ?_);refine PW.at [1,8,12,13,15,16] (?_:PW _ _ _ [(1,.slice (cdL [c,d]) 2 fl),(8,.ptr (H.length+3) 0 0),(12,.ptr (H.length+5) 0 0),(13,.slice (rows.map PV.bool) rows.length false),(15,.ptr (H.length+6) 0 0),(16,.slice (more.map PV.bool) more.length false)] (H++[⟨29,0,sqc s⟩,⟨33,0,fmc pa⟩,⟨33,0,fmc fu⟩,⟨33,0,zfr⟩,⟨84,0,fmc pa++(fmc fu++fmc g)⟩,⟨33,0,fmc g⟩,⟨33,0,fmc g2⟩,⟨33,0,[]⟩,⟨33,0,[]⟩]) _) rfl sp;(repeat refine PW.seq ?_);refine PW.drawi [H.length+7,H.length+8] [(17,[0]),(18,[1])] [(17,0),(18,1)] [] mix kr (by simp<;>omega) fun K hK=> ?_;refine sqx (nq2 F5 (nq2 F7 F8)) ?_;refine hK _ _ ?_;clear hK K;refine PW.g (nq2 i1 i5) ?_;refine PW.c (fun h=> ?_) (fun h=> ?_)
   ·have hst:c.p.st=2:=by simpa using h
    rw[if_pos hst];(repeat refine PW.seq ?_);refine PW.drawi [H.length+7,H.length+8] [(17,[0]),(18,[1])] [] [] mix kr (by simp<;>omega) fun K hK=> ?_;simp(maxSteps:=3000000) (disch:=omega) only[go_sem,↓reduceIte,reduceCtorEq,F5,F7,F8,F9,qD];refine hK _ _ ?_;clear hK K;refine PW.f (fun K k=>by simp(maxSteps:=3000000) (disch:=omega) only[go_sem,↓reduceIte,reduceCtorEq,F5,F7,F8,F9,qD];refine VCx.call (we2 _) rfl ?_;simp(maxSteps:=3000000) (disch:=omega) only[go_sem,↓reduceIte,reduceCtorEq,F5,F7,F8,F9,qD];exact k) ?_;refine PW.e ?_;refine PW.us ?_;cases hall:rows.all id with
    | false=>
     rw[hall]at al;(repeat refine PW.seq ?_);refine PW.drawi [H.length+3] [(8,[0])] [] [85,88] mix kr (by simp<;>omega) fun K hK=> ?_;simp(maxSteps:=3000000) (disch:=omega) only[go_sem,↓reduceIte,reduceCtorEq,F5,F7,F8,F9,qD];refine VCj.read (fun _ _=>al _) rfl ?_;simp(maxSteps:=3000000) (disch:=omega) only[go_sem,↓reduceIte,reduceCtorEq,F5,F7,F8,F9,qD,zfr];refine hK _ _ ?_;clear hK K;refine PW.ret ⟨zez (W2,false,0),by simp(maxSteps:=3000000) (disch:=omega) only[go_sem,↓reduceIte,reduceCtorEq,zx,zK,qK,qN,qI,qF,qG,qO,F7,F8,zez],?_⟩;exact zfb _ _ _
    | true=>rw[hall]at al;(repeat refine PW.seq ?_);refine PW.drawi [H.length+3] [(8,[0])] [] [85,88] mix kr (by simp<;>omega) fun K hK=> ?_;simp(maxSteps:=3000000) (disch:=omega) only[go_sem,↓reduceIte,reduceCtorEq,F5,F7,F8,F9,qD];refine VCj.read (fun _ _=>al _) rfl ?_;simp(maxSteps:=3000000) (disch:=omega) only[go_sem,↓reduceIte,reduceCtorEq,F5,F7,F8,F9,qD];refine VCj.read (fun _ _=>al2 _) rfl ?_;simp(maxSteps:=3000000) (disch:=omega) only[go_sem,↓reduceIte,reduceCtorEq,F5,F7,F8,F9,qD,zfr];refine hK _ _ ?_;clear hK K;refine PW.ret ⟨zez (W2,more.all id,0),by simp(maxSteps:=3000000) (disch:=omega) only[go_sem,↓reduceIte,reduceCtorEq,zx,zK,qK,qN,qI,qF,qG,qO,F7,F8,zez],?_⟩;exact zfb _ _ _
   ·have hst:¬ c.p.st=2:=by simpa using h
    rw[if_neg hst];refine PW.skip ?_;refine PW.f (fun K k=>by simp(maxSteps:=3000000) (disch:=omega) only[go_sem,↓reduceIte,reduceCtorEq,F5,F7,F8,F9,qD];refine VCx.call (we1 _) rfl ?_;simp(maxSteps:=3000000) (disch:=omega) only[go_sem,↓reduceIte,reduceCtorEq,F5,F7,F8,F9,qD];exact k) ?_;refine PW.e ?_;refine PW.us ?_;cases hall:rows.all id with
    | false=>
     rw[hall]at al;(repeat refine PW.seq ?_);refine PW.drawi [H.length+3] [(8,[0])] [] [85,88] mix kr (by simp<;>omega) fun K hK=> ?_;simp(maxSteps:=3000000) (disch:=omega) only[go_sem,↓reduceIte,reduceCtorEq,F5,F7,F8,F9,qD];refine VCj.read (fun _ _=>al _) rfl ?_;simp(maxSteps:=3000000) (disch:=omega) only[go_sem,↓reduceIte,reduceCtorEq,F5,F7,F8,F9,qD,zfr];refine hK _ _ ?_;clear hK K;refine PW.ret ⟨zez (W1,false,0),by simp(maxSteps:=3000000) (disch:=omega) only[go_sem,↓reduceIte,reduceCtorEq,zx,zK,qK,qN,qI,qF,qG,qO,F7,F8,zez],?_⟩;exact zfb _ _ _
    | true=>rw[hall]at al;(repeat refine PW.seq ?_);refine PW.drawi [H.length+3] [(8,[0])] [] [85,88] mix kr (by simp<;>omega) fun K hK=> ?_;simp(maxSteps:=3000000) (disch:=omega) only[go_sem,↓reduceIte,reduceCtorEq,F5,F7,F8,F9,qD];refine VCj.read (fun _ _=>al _) rfl ?_;simp(maxSteps:=3000000) (disch:=omega) only[go_sem,↓reduceIte,reduceCtorEq,F5,F7,F8,F9,qD];refine VCj.read (fun _ _=>al2 _) rfl ?_;simp(maxSteps:=3000000) (disch:=omega) only[go_sem,↓reduceIte,reduceCtorEq,F5,F7,F8,F9,qD,zfr];refine hK _ _ ?_;clear hK K;refine PW.ret ⟨zez (W1,more.all id,0),by simp(maxSteps:=3000000) (disch:=omega) only[go_sem,↓reduceIte,reduceCtorEq,zx,zK,qK,qN,qI,qF,qG,qO,F7,F8,zez],?_⟩;exact zfb _ _ _
def shN(n:Nat)(o:Int):Int:=if o<0 then o else o+n
def shF(n:Nat)(f:FmY):FmY:={ f with f:=f.f+n,l:=f.l+n }
def zgg(n m:Nat)(e:Ent):Ent:=({ e.1 with f:=e.1.f+n,l:=e.1.l+n,pa:=shN m e.1.pa,fu:=shN m e.1.fu,sh:=e.1.sh+m },e.2)
def dsE(n:Nat)(E ys:List Ent)(wt:Bool)(new:Int):List Ent:=if wt then(E++ys.map (zgg n E.length)).modify (new.toNat+E.length) (zV 0)else E++ys.map (zgg n E.length)
structure DSh(n:Nat)(E:List Ent)(x y:Dp):Prop where
 en:x.en=dsE n E y.en y.wt y.new
 old:x.old=shN E.length y.old
 new:x.new=shN E.length y.new
 wt:x.wt=y.wt
 lk:x.lk=y.lk
 sh:x.sh=y.sh+E.length
 ro: -1≤y.old
 rn: -1≤y.new∧y.new<y.en.length
 rw:y.wt=true→0≤y.new
theorem zuQ(l:List Ent)(j:Nat)(u v:Int):(l.modify j (zV u)).modify j (zV v)=l.modify j (zV v):=by
 induction l generalizing j with
 | nil=>simp
 | cons a r ih=>cases j with
  | zero=>rfl
  | succ j=>simp only[qQ,ih]
theorem zlw(l r:List Ent)(j:Nat)(v:Int)(h:j<l.length):(l++r).modify j (zV v)=l.modify j (zV v)++r:=by
 induction l generalizing j with
 | nil=>exact absurd h (Nat.not_lt_zero _)
 | cons a t ih=>cases j with
  | zero=>rfl
  | succ j=>simp only[List.cons_append,qQ];rw[ih j (by simpa using h)]
theorem zcT(l r:List Ent)(j:Nat)(v:Int):(l++r).modify (j+l.length) (zV v)=l++r.modify j (zV v):=by
 induction l with
 | nil=>simp
 | cons a t ih=>rw[List.cons_append,qR,←Nat.add_assoc,qQ,ih];rfl
theorem zuW(m n:Nat)(l:List Ent)(j:Nat)(v:Int):(l.map (zgg n m)).modify j (zV (v+m))=(l.modify j (zV v)).map (zgg n m):=by
 induction l generalizing j with
 | nil=>simp
 | cons a r ih=>cases j with
  | zero=>rfl
  | succ j=>simp only[List.map_cons,qQ,ih]
theorem zhM(d:Dp):d.flush.en.length=d.en.length:=by unfold Dp.flush Dp.show;cases d.wt<;>simp
theorem DSh.flush{n:Nat}{E:List Ent}{x y:Dp}(h:DSh n E x y):DSh n E x.flush y.flush∧x.flush.en=E++y.flush.en.map (zgg n E.length):=by
 have hw2:=(zbC y).2.2.1;have key:x.flush.en=E++y.flush.en.map (zgg n E.length)∧x.flush.sh=y.flush.sh+E.length:=by
  have e:=h.en;unfold dsE at e;unfold Dp.flush;rw[h.wt];cases hw:y.wt with
  | false=>
   rw[hw,if_neg sp]at e;rw[if_neg sp,if_neg sp];exact⟨e,h.sh⟩
  | true=>
   rw[hw,if_pos rfl]at e;rw[if_pos rfl,if_pos rfl];have hn:=h.rw hw;refine⟨?_,?_⟩
   ·show(x.en.modify x.new.toNat (zV x.sh))=E++(y.en.modify y.new.toNat (zV y.sh)).map (zgg n E.length);have e2:x.new.toNat=y.new.toNat+E.length:=by rw[h.new];unfold shN;rw[if_neg om];omega
    rw[e,e2,zuQ,zcT,h.sh,zuW]
   ·show x.sh+1=y.sh+1+E.length;rw[h.sh];omega
 obtain⟨x1,x2,x3,x4⟩:=zbC x;obtain⟨y1,y2,y3,y4⟩:=zbC y;refine⟨⟨?_,?_,?_,?_,?_,key.2,?_,?_,fun e=> ?_⟩,key.1⟩
 ·rw[key.1];unfold dsE;rw[y3];rfl
 ·rw[x1,y1];exact h.old
 ·rw[x2,y2];exact h.new
 ·rw[x3,y3]
 ·rw[x4,y4];exact h.lk
 ·rw[y1];exact h.ro
 ·rw[y2,zhM];exact h.rn
 ·rw[y3]at e;cases e
theorem DSh.res{n:Nat}{E:List Ent}{x y:Dp}(h:DSh n E x y)(b:Bool):DSh n E (x.res b) (y.res b):=by
 unfold Dp.res;cases b with
 | false=>exact h
 | true=>
  obtain⟨g,ge⟩:=h.flush;have y3:=(zbC y).2.2.1;refine⟨?_,rfl,rfl,g.wt,rfl,g.sh,jC _,⟨jC _,by show(-1:Int)<_;omega⟩,fun e=> ?_⟩
  ·show x.flush.en=dsE n E y.flush.en y.flush.wt (-1);rw[ge,y3];rfl
  ·have e':y.flush.wt=true:=e;rw[y3]at e';cases e'
theorem DSh.lnk{n:Nat}{E:List Ent}{x y:Dp}(h:DSh n E x y)(k:Int):DSh n E (x.lnk k) (y.lnk k):=by
 unfold Dp.lnk;split
 ·exact⟨h.en,h.old,h.new,h.wt,rfl,h.sh,h.ro,h.rn,h.rw⟩
 ·exact h
theorem zhK(d:Dp)(e:Ent)(h:d.wt=true→d.new.toNat<d.en.length):Dp.flush { d with en:=d.en++[e] }={ d.flush with en:=d.flush.en++[e] }:=by
 obtain⟨en,old,new,wt,lk,sh⟩:=d;cases wt with
 | false=>rfl
 | true=>have:=zlw en [e] new.toNat sh (h rfl);unfold Dp.flush Dp.show;rw[if_pos rfl,if_pos rfl];simp only;rw[this]
theorem DSh.frame{n:Nat}{E:List Ent}{x y:Dp}(h:DSh n E x y)(f:FmY):DSh n E (x.frame (shF n f)) (y.frame f):=by
 have ho:=h.ro;have hn:=h.rn;have hlx:x.en.length=E.length+y.en.length:=by rw[h.en];unfold dsE;split<;>simp
 have o1:x.old= -1↔y.old= -1:=by rw[h.old];unfold shN;split<;>omega
 have n1:x.new= -1↔y.new= -1:=by rw[h.new];unfold shN;split<;>omega
 have hsh:∀(p q v:Int),zV (v+E.length) (fmE (shF n f) (shN E.length p) (shN E.length q))=zgg n E.length (zV v (fmE f p q)):=fun _ _ _=>rfl;unfold Dp.frame;show DSh n E (if f.hd.ty=3 then _ else if f.hd.ty=2∧x.new= -1 then x else _) _;by_cases h3:f.hd.ty=3
 ·rw[if_pos h3,if_pos h3];by_cases hc:y.lk≠0∨y.old= -1∨y.new= -1
  ·rw[if_pos hc,if_pos (by rw[h.lk,o1,n1];exact hc)];exact h
  rw[if_neg hc,if_neg (by rw[h.lk,o1,n1];exact hc)];refine⟨?_,h.old,h.new,h.wt,h.lk,?_,h.ro,?_,h.rw⟩
  ·show(x.en++[fmE (shF n f) x.old x.new]).modify ((x.en.length:Nat):Int).toNat (zV x.sh)=dsE n E ((y.en++[fmE f y.old y.new]).modify ((y.en.length:Nat):Int).toNat (zV y.sh)) y.wt y.new;have m1:=zcT x.en [fmE (shF n f) x.old x.new] 0 x.sh;have m2:=zcT y.en [fmE f y.old y.new] 0 y.sh;rw[jI]at m1 m2;have e1:[fmE (shF n f) x.old x.new].modify 0 (zV x.sh)=[zV x.sh (fmE (shF n f) x.old x.new)]:=rfl;have e2:[fmE f y.old y.new].modify 0 (zV y.sh)=[zV y.sh (fmE f y.old y.new)]:=rfl;rw[qE,qE,m1,m2,e1,e2,h.sh,h.old,h.new,hsh,h.en];unfold dsE;rw[List.map_append];cases hw:y.wt with
   | false=>rw[if_neg sp,if_neg sp,jG];rfl
   | true=>have:=h.rw hw;have m3:=zlw (E++y.en.map (zgg n E.length)) ([zV y.sh (fmE f y.old y.new)].map (zgg n E.length)) (y.new.toNat+E.length) 0 (by rw[jE,jB];omega);rw[if_pos rfl,if_pos rfl,←jG E,m3];rfl
  ·show x.sh+1=y.sh+1+E.length;rw[h.sh];omega
  ·show -1≤y.new∧y.new<(((y.en++[fmE f y.old y.new]).modify ((y.en.length:Nat):Int).toNat (zV y.sh)).length:Int);simp only[List.length_modify,jE,jK];omega
 rw[if_neg h3,if_neg h3];by_cases hc:f.hd.ty=2∧y.new= -1
 ·rw[if_pos hc,if_pos (by rw[n1];exact hc)];exact h
 rw[if_neg hc,if_neg (by rw[n1];exact hc)];dsimp only;rw[zhK x _ (fun e=>by
   have e':=h.wt;rw[e]at e';have:=h.rw e'.symm;rw[h.new];unfold shN;rw[if_neg om];omega),zhK y _ (fun e=>by have:=h.rw e;omega)]
 obtain⟨g,ge⟩:=h.flush;obtain⟨x1,x2,x3,x4⟩:=zbC x;obtain⟨y1,y2,y3,y4⟩:=zbC y;refine⟨?_,?_,?_,rfl,?_,g.sh,?_,?_,fun _=> ?_⟩
 ·show x.flush.en++[fmE (shF n f) x.new (-1)]=dsE n E (y.flush.en++[fmE f y.new (-1)]) true ((y.en.length:Nat):Int);unfold dsE;rw[if_pos rfl,qE,zcT,List.map_append,ge,jG];have m2:=zcT (y.flush.en.map (zgg n E.length)) ([fmE f y.new (-1)].map (zgg n E.length)) 0 0;rw[jI,jB,zhM]at m2;rw[m2,h.new];rfl
 ·show x.flush.new=shN E.length y.flush.new;exact g.new
 ·show((x.en.length:Nat):Int)=shN E.length ((y.en.length:Nat):Int);unfold shN;rw[if_neg om,hlx];omega
 ·show max 0 (x.flush.lk - 1)=max 0 (y.flush.lk - 1);rw[g.lk]
 ·show -1≤y.flush.new;rw[y2];exact h.rn.1
 ·show -1≤((y.en.length:Nat):Int)∧((y.en.length:Nat):Int)<((y.flush.en++[fmE f y.new (-1)]).length:Int);rw[jE,zhM];simp only[jK];omega
 ·show(0:Int)≤((y.en.length:Nat):Int);omega
def DSr(n:Nat)(E:List Ent)(rs:Bool)(x y:Dp):Prop:=DSh n E (x.res rs) (y.res rs)
theorem zjm(d:Dp)(b:Bool):(d.res b).res true=d.res true:=by
 cases b with
 | false=>rfl
 | true=>
  have h:=(zbC d).2.2.1;unfold Dp.res;rw[if_pos rfl,if_pos rfl];have e:Dp.flush { d.flush with old:= -1,new:= -1,lk:=0 }={ d.flush with old:= -1,new:= -1,lk:=0 }:=by unfold Dp.flush;show(if d.flush.wt=true then _ else _)=_;rw[h,if_neg sp]
  rw[e]
theorem DSr.up{n:Nat}{E:List Ent}{rs:Bool}{x y:Dp}(h:DSr n E rs x y):DSr n E true x y:=by unfold DSr at h ⊢;have:=h.res true;rwa[zjm,zjm]at this
theorem DSr.step{n:Nat}{E:List Ent}{x y:Dp}(f:FmY)(h:DSr n E f.rs x y):DSr n E false (x.step (shF n f)) (y.step f):=(DSh.lnk h f.lk).frame f
theorem zpc(d:Dp)(b:Bool):(d.res b).flush.en=d.flush.en:=by
 cases b with
 | false=>rfl
 | true=>have h:=(zbC d).2.2.1;unfold Dp.res;rw[if_pos rfl];unfold Dp.flush;show(if d.flush.wt=true then _ else _:Dp).en=_;rw[h,if_neg sp]
theorem zfg{α:Type}{l:List α}{k:Nat}{x:α}{r:List α}(h:l.drop k=x::r):∃ hk:k<l.length,l[k]=x∧l.drop (k+1)=r:=by
 have hk:k<l.length:=by
  rcases Nat.lt_or_ge k l.length with h1|h1
  ·exact h1
  ·rw[List.drop_eq_nil_of_le h1]at h;cases h
 rw[qL hk]at h;injection h with h1 h2;exact⟨hk,h1,h2⟩
structure Hd2(s:Sq)(x y:It):Prop where
 k1:x.k=1
 s1:x.s=s
 v:zcz s=true
 k2:y.k=2
 c:y.gc=true
def shV(cs:List Cdd)(e:Ent)(a b:Sho):Sho:=⟨(zhH e.2.1 cs a.fr b.fr).1,e.1.f,e.1.l,e.1.ty,((zhH e.2.1 cs a.fr b.fr).2.1&&(decide (e.1.ty=1)||a.ok))&&(!decide (e.1.ty=3)||b.ok),if e.2.2.rp then 3 else 2,e.2.2.tf⟩
theorem zzg(L:List It)(e:Ent)(l:List Sho):shE L e l=shV (zbV L e) e (zb4 l e.1.pa) (zb4 l e.1.fu):=rfl
theorem zis{L:List It}{es:List Ent}(h:SInv L es):(es.map fun e=>e.1.sh.toNat).Perm (List.range es.length):=by
 refine zhx es.length _ ?_ (fun x hx=> ?_) sp
 ·unfold List.Nodup;rw[List.pairwise_iff_getElem];intro i j hi hj hij;rw[jB]at hi hj;rw[List.getElem_map,List.getElem_map];intro e;have h1:=h.s i _ (qA hi);have h2:=h.s j _ (qA hj);have:=h.i i j _ _ (qA hi) (qA hj) om;omega
 ·obtain⟨e,he,rfl⟩:=List.mem_map.1 hx;obtain⟨j,hj⟩:=qM he;have:=h.s j e hj;omega
theorem zqM{L:List It}{es:List Ent}(h:SInv L es){p:Nat}(hp:p<es.length):∃(j:Nat) (e:Ent),es[j]? =some e∧e.1.sh=(p:Int):=by have h1:p∈es.map fun e=>e.1.sh.toNat:=(zis h).mem_iff.2 (List.mem_range.2 hp);obtain⟨e,he,h2⟩:=List.mem_map.1 h1;obtain⟨j,hj⟩:=qM he;have:=h.s j e hj;exact⟨j,e,hj,om⟩
theorem zc1(L:List It):(zam L).length=(zaa L).length:=zcS _ _ _
theorem zvo(L:List It){j:Nat}{e:Ent}(h:(zaa L)[j]? =some e):(zam L)[e.1.sh.toNat]? =(dvN L (zaa L) (zaa L).length)[j]? :=zjE (zaN L) _ (qT _) j e (qC.1 h).1 h
def sqAt(es:List Ent)(n:Int)(s:Sq):Prop:=0≤n→∃ e,es[n.toNat]? =some e∧e.2.1=s
theorem sqAt.neg{es:List Ent}{s:Sq}:sqAt es (-1) s:=fun h=>om
theorem sqAt.snoc{es:List Ent}{n:Int}{s:Sq}(h:sqAt es n s)(x:Ent):sqAt (es++[x]) n s:=fun h0=>by obtain⟨e,h1,h2⟩:=h h0;exact⟨e,by rw[List.getElem?_append_left (qC.1 h1).1];exact h1,h2⟩
theorem sqAt.mod{es:List Ent}{n:Int}{s:Sq}(h:sqAt es n s)(k:Nat)(v:Int):sqAt (es.modify k (zV v)) n s:=fun h0=>by
 obtain⟨e,h1,h2⟩:=h h0;rw[qS,h1];show ∃ x,some (if k=n.toNat then zV v e else e)=some x∧_;by_cases hk:k=n.toNat
 ·rw[if_pos hk];exact⟨zV v e,rfl,h2⟩
 ·rw[if_neg hk];exact⟨e,rfl,h2⟩
def aftE(es:List Ent)(n:Int):Prop:=∀(j:Nat) (e:Ent),es[j]? =some e→e.1.l<n
theorem aftE.mono{es:List Ent}{n m:Int}(h:aftE es n)(hm:n≤m):aftE es m:=fun j e he=>by have:=h j e he;omega
theorem zkk{es:List Ent}{k:Nat}{v:Int}{j:Nat}{x:Ent}(h:(es.modify k (zV v))[j]? =some x):∃ y,es[j]? =some y∧(x=y∨x=zV v y):=by
 rw[qS]at h;cases hy:es[j]? with
 | none=>rw[hy]at h;cases h
 | some y=>
  rw[hy]at h;refine⟨y,rfl,?_⟩;by_cases hk:k=j
  ·subst hk;simp at h;exact .inr h.symm
  ·simp[hk]at h;exact .inl h.symm
theorem aftE.mod{es:List Ent}{n:Int}(h:aftE es n)(k:Nat)(v:Int):aftE (es.modify k (zV v)) n:=fun j e he=>by
 obtain⟨y,hy,h1|h1⟩:=zkk he
 ·rw[h1];exact h j y hy
 ·rw[h1];exact h j y hy
structure XInv(d:Dp)(s:Sq)(n:Int):Prop where
 old:sqAt d.en d.old s
 new:sqAt d.en d.new s
 q:∀(j:Nat) (e:Ent),d.en[j]? =some e→sqAt d.en e.1.pa e.2.1∧sqAt d.en e.1.fu e.2.1
 aft:aftE d.en n
 ord:∀(j k:Nat) (x y:Ent),d.en[j]? =some x→d.en[k]? =some y→j<k→x.1.l<y.1.f
theorem XInv.mono{d:Dp}{s:Sq}{n m:Int}(h:XInv d s n)(hm:n≤m):XInv d s m:=⟨h.old,h.new,h.q,h.aft.mono hm,h.ord⟩
theorem zn6{en:List Ent}{k:Nat}{v:Int}(h:∀(j k:Nat) (x y:Ent),en[j]? =some x→en[k]? =some y→j<k→x.1.l<y.1.f):∀(i j:Nat) (x y:Ent),(en.modify k (zV v))[i]? =some x→(en.modify k (zV v))[j]? =some y→i<j→x.1.l<y.1.f:=fun i j x y hx hy hij=>by obtain⟨a,ha,h1⟩:=zkk hx;obtain⟨b,hb,h2⟩:=zkk hy;have:=h i j a b ha hb hij;rcases h1 with rfl|rfl<;>rcases h2 with rfl|rfl<;>exact this
theorem zwf{en:List Ent}{k:Nat}{v:Int}(h:∀(j:Nat) (e:Ent),en[j]? =some e→sqAt en e.1.pa e.2.1∧sqAt en e.1.fu e.2.1):∀(j:Nat) (e:Ent),(en.modify k (zV v))[j]? =some e→sqAt (en.modify k (zV v)) e.1.pa e.2.1∧sqAt (en.modify k (zV v)) e.1.fu e.2.1:=fun j e he=>by
 obtain⟨a,ha,h1⟩:=zkk he;obtain⟨g1,g2⟩:=h j a ha;rcases h1 with rfl|rfl
 ·exact⟨g1.mod _ _,g2.mod _ _⟩
 ·exact⟨sqAt.mod g1 _ _,sqAt.mod g2 _ _⟩
theorem XInv.flush{d:Dp}{s:Sq}{n:Int}(h:XInv d s n):XInv d.flush s n:=by
 unfold Dp.flush;split
 ·exact⟨h.old.mod _ _,h.new.mod _ _,zwf h.q,h.aft.mod _ _,zn6 h.ord⟩
 ·exact h
theorem XInv.res{d:Dp}{s:Sq}{n:Int}(h:XInv d s n)(b:Bool):XInv (d.res b) s n:=by
 unfold Dp.res;split
 ·have g:=h.flush;exact⟨sqAt.neg,sqAt.neg,g.q,g.aft,g.ord⟩
 ·exact h
theorem XInv.any{d:Dp}{s s':Sq}{n:Int}(h:XInv (d.res true) s n):XInv (d.res true) s' n:=⟨sqAt.neg,sqAt.neg,h.q,h.aft,h.ord⟩
theorem XInv.lnk{d:Dp}{s:Sq}{n:Int}(h:XInv d s n)(k:Int):XInv (d.lnk k) s n:=by
 unfold Dp.lnk;split
 ·exact⟨h.old,h.new,h.q,h.aft,h.ord⟩
 ·exact h
theorem zkM{en:List Ent}{e:Ent}(h:∀(j k:Nat) (x y:Ent),en[j]? =some x→en[k]? =some y→j<k→x.1.l<y.1.f)(ha:aftE en e.1.f):∀(i j:Nat) (x y:Ent),(en++[e])[i]? =some x→(en++[e])[j]? =some y→i<j→x.1.l<y.1.f:=fun i j x y hx hy hij=>by
 rcases zan hx with⟨b1,b2⟩|⟨b1,b2⟩
 ·rcases zan hy with⟨c1,c2⟩|⟨c1,c2⟩
  ·exact h i j x y b2 c2 hij
  ·rw[c2];exact ha i x b2
 ·rcases zan hy with⟨c1,c2⟩|⟨c1,c2⟩<;>omega
theorem zqG{en:List Ent}{x:Ent}(h:∀(j:Nat) (e:Ent),en[j]? =some e→sqAt en e.1.pa e.2.1∧sqAt en e.1.fu e.2.1)(h1:sqAt en x.1.pa x.2.1)(h2:sqAt en x.1.fu x.2.1):∀(j:Nat) (e:Ent),(en++[x])[j]? =some e→sqAt (en++[x]) e.1.pa e.2.1∧sqAt (en++[x]) e.1.fu e.2.1:=fun j e he=>by
 rcases zan he with⟨_,b⟩|⟨_,b⟩
 ·exact⟨(h j e b).1.snoc _,(h j e b).2.snoc _⟩
 ·rw[b];exact⟨h1.snoc _,h2.snoc _⟩
theorem zkN{en:List Ent}{x:Ent}{n m:Int}(h:aftE en n)(hn:n≤m)(hx:x.1.l<m):aftE (en++[x]) m:=fun j e he=>by
 rcases zan he with⟨_,b⟩|⟨_,b⟩
 ·have:=h j e b;omega
 ·rw[b];exact hx
theorem XInv.frame{d:Dp}{f:FmY}{n m:Int}(h:XInv d f.sq n)(ha:aftE d.en f.f)(hn:n≤m)(hf:f.l<m):XInv (d.frame f) f.sq m:=by
 unfold Dp.frame;split
 ·split
  ·exact h.mono hn
  ·refine⟨(h.old.snoc _).mod _ _,(h.new.snoc _).mod _ _,zwf (zqG h.q h.old h.new),(zkN h.aft hn hf).mod _ _,zn6 (zkM h.ord ha)⟩
 ·split
  ·exact h.mono hn
  ·dsimp only;have g:XInv { d with en:=d.en++[fmE f d.new (-1)] } f.sq m:=⟨h.old.snoc _,h.new.snoc _,zqG h.q h.new sqAt.neg,zkN h.aft hn hf,zkM h.ord ha⟩;have gf:=g.flush;have hl:sqAt (d.en++[fmE f d.new (-1)]) (d.en.length:Int) f.sq:=fun _=>⟨fmE f d.new (-1),by rw[qE];simp,rfl⟩;refine⟨gf.new,?_,gf.q,gf.aft,gf.ord⟩;show sqAt (Dp.flush _).en (d.en.length:Int) f.sq;unfold Dp.flush;split
   ·exact hl.mod _ _
   ·exact hl
structure YInv(a:As)(d:Dp)(i:Nat):Prop where
 x:XInv (d.res a.rs) a.sq i
 op:a.op= -1∨(0≤a.op∧a.op<i∧aftE d.en a.op)
theorem zoR{d:Dp}{n:Int}(b:Bool):aftE (d.res b).en n↔aftE d.en n:=by
 have e:∀ d:Dp,aftE d.flush.en n↔aftE d.en n:=fun d=>by
  unfold Dp.flush;split
  ·refine⟨fun h j e he=> ?_,fun h=>h.mod _ _⟩;by_cases hj:d.new.toNat=j
   ·have:=h j (zV d.sh e) (by show(d.en.modify _ _)[j]? =_;rw[qS,he];show some (if _ then _ else _)=_;rw[if_pos hj]);exact this
   ·exact h j e (by show(d.en.modify _ _)[j]? =_;rw[qS,he];show some (if _ then _ else _)=_;rw[if_neg hj])
  ·exact Iff.rfl
 unfold Dp.res;split
 ·exact e d
 ·exact Iff.rfl
theorem zoZ{L:List It}{a:As}{d:Dp}{i:Nat}(h:YInv a d i)(x:It):YInv (a.item L (i:Int) x).1 (d.stepO (a.item L (i:Int) x).2) (i+1):=by
 obtain⟨hx,ho⟩:=h;have hi:(i:Int)≤((i+1:Nat):Int):=om;have hd:aftE d.en i:=(zoR a.rs).1 hx.aft;have no:∀ b:As,b.sq=a.sq→b.rs=a.rs→b.op= -1→YInv b d (i+1):=fun b e1 e2 e3=>⟨by rw[e1,e2];exact hx.mono hi,.inl e3⟩;have rs:∀ b:As,b.rs=true→b.op= -1→YInv b d (i+1):=fun b e1 e2=>⟨by
  rw[e1];have:=hx.res true;rw[zjm]at this;exact(this.any).mono hi,.inl e2⟩
 have fr:∀(b:As) (f:FmY),b.sq=a.sq→b.rs=false→b.op= -1→f.sq=a.sq→f.rs=a.rs→aftE d.en f.f→f.l=(i:Int)→YInv b (d.step f) (i+1):=fun b f e1 e2 e3 e4 e5 e6 e7=>⟨by
  rw[e1,e2,←e4];show XInv (Dp.frame _ f) f.sq _;refine XInv.frame (n:=(i:Int)) ?_ ?_ hi om
  ·rw[e4,e5];exact hx.lnk _
  ·have:aftE (d.res f.rs).en f.f:=(zoR f.rs).2 e6;unfold Dp.lnk;split
   ·exact this
   ·exact this,.inl e3⟩
 unfold As.item;split
 ·unfold As.pic;split
  ·exact no _ rfl rfl rfl
  ·split
   ·exact fr _ _ rfl rfl rfl rfl rfl hd rfl
   ·split
    ·rename_i hc;rcases ho with h1|⟨h1,h2,h3⟩
     ·exact absurd h1 hc.1
     ·exact fr _ _ rfl rfl rfl rfl rfl h3 rfl
    ·split
     ·exact⟨hx.mono hi,.inr ⟨by show(0:Int)≤(i:Int);omega,by show(i:Int)<_;omega,hd⟩⟩
     ·exact no _ rfl rfl rfl
 ·split
  ·unfold As.seq;split
   ·exact no _ rfl rfl rfl
   ·exact rs _ rfl rfl
  ·split
   ·unfold As.grp;split
    ·exact rs _ rfl rfl
    ·split<;>exact no _ rfl rfl rfl
   ·split
    ·exact rs _ rfl rfl
    ·exact no _ rfl rfl rfl
theorem zkv{L:List It}:∀(r:List It) (i:Nat) (a:As) (d:Dp),YInv a d i→YInv (asN L a (i:Int) r) (dpN L a d (i:Int) r) (i+r.length)
 | [],i,a,d,h=>h
 | x::r,i,a,d,h=>by have e:(i:Int)+1=((i+1:Nat):Int):=om;rw[asN,dpN,e,qR,show i+(r.length+1)=i+1+r.length from om];exact zkv r (i+1) _ _ (zoZ h x)
theorem zja(L:List It):(∀(j:Nat) (e:Ent),(zaa L)[j]? =some e→sqAt (zaa L) e.1.pa e.2.1∧sqAt (zaa L) e.1.fu e.2.1)∧(∀(j k:Nat) (x y:Ent),(zaa L)[j]? =some x→(zaa L)[k]? =some y→j<k→x.1.l<y.1.f):=by have h:=(zkv (L:=L) L 0 (as0 sq0) dp0 ⟨⟨sqAt.neg,sqAt.neg,fun j e he=>by simp[dp0,as0,Dp.res]at he,fun j e he=>by simp[dp0,as0,Dp.res]at he,fun j k x y he=>by simp[dp0,as0,Dp.res]at he⟩,.inl rfl⟩).x.flush;have e:(Dp.res (dpN L (as0 sq0) dp0 ((0:Nat):Int) L) (asN L (as0 sq0) ((0:Nat):Int) L).rs).flush.en=zaa L:=zpc (dpN L (as0 sq0) dp0 0 L) (asN L (as0 sq0) 0 L).rs;have h3:=h.q;have h5:=h.ord;rw[e]at h3 h5;exact⟨h3,h5⟩
def okR{α:Type}:Rr α→Bool
 | .ok _ _=>true
 | .er _ _=>false
def zje(s:Sq)(p:Pi)(b:Bool):List (Int×List UInt8)→Nat→Bool
 | [],_=>true
 | u::r,k=>decide (u.1=1+(k:Int))&&(okR (slT s p b u.1 u.2)&&zje s p b r (k+1))
def zh7(s:Sq)(c:Cdd)(b:Bool):Bool:=decide ((c.us.length:Int)=zaQ s c.p)&&zje s c.p b c.us 0
theorem zkP{s:Sq}{p:Pi}{b:Bool}:∀{us:List (Int×List UInt8)} {k0:Nat},zje s p b us k0=true→∀ k,k0≤k→fnu us k=us[k - k0]? ∧∀ u,us[k - k0]? =some u→okR (slT s p b u.1 u.2)=true
 | [],k0,_,k,_=>⟨by simp[fnu],fun u hu=>by simp at hu⟩
 | u::r,k0,h,k,hk=>by
  rw[zje,qB,qB,decide_eq_true_eq]at h;obtain⟨h1,h2,h3⟩:=h;unfold fnu;by_cases e:k=k0
  ·subst e;rw[if_pos h1,Nat.sub_self];exact⟨rfl,fun x hx=>by injection hx with hx;rw[←hx];exact h2⟩
  ·rw[if_neg om,show k - k0=(k - (k0+1))+1 from om,List.getElem?_cons_succ];exact zkP h3 k om
structure FrS(s:Sq)(f:Fm):Prop where
 m:fmd f=true
 w:f.w=s.w
 h:f.h=s.h
theorem FrS.or{s:Sq}{f:Fm}(h:FrS s f):mOr f s.w s.h=true:=by unfold mOr;rw[h.m,h.w,h.h];simp
theorem zwg(w h:Int):mOr f0 w h=true:=rfl
theorem zj9{s:Sq}{p:Pi}{pa fu fi:Fm}{b:Bool}(hv:zP s p=true)(hb:b=true→p.st≠3)(h1:mOr pa s.w s.h=true)(h2:mOr fu s.w s.h=true)(h3:mOr fi s.w (s.h.tdiv 2)=true)(z1:p.ty≠1→pa.w≠0)(z2:p.ty=3→fu.w≠0)(z3:p.ty=2→b=true→fi.w≠0):zeE s p pa fu fi b=0:=by
 unfold zeE;have e:zeA s p b=true:=by
  unfold zeA;rw[hv,Bool.true_and];cases b with
  | false=>rfl
  | true=>simp[hb rfl]
 rw[e,h1,h2,h3,if_pos (by rfl),if_neg];simp only[jH,qB,qW,decide_eq_true_eq,decide_eq_false_iff_not];rintro(⟨a,b⟩|⟨a,b⟩|⟨a,b,c⟩)
 ·exact z1 a b
 ·exact z2 a b
 ·exact z3 a b c
theorem ziy{s:Sq}{p:Pi}{b:Bool}{us:List (Int×List UInt8)}(h:zje s p b us 0=true)(pa fu fi:Fm)(A:Nat)(g:Fm):∀ k,k≤us.length→(zbE s p b us pa fu fi A g k).2=List.replicate k true
 | 0,_=>rfl
 | k+1,hk=>by
  rw[zbE,ziy h pa fu fi A g k om,List.replicate_succ'];congr 2;obtain⟨e1,e2⟩:=zkP h k (jL _);have e3:=qA (show k<us.length from om);rw[Nat.sub_zero,e3]at e1 e2;have e4:=e2 _ rfl;unfold zpa;rw[e1];dsimp only;cases hs:slT s p b us[k].1 us[k].2 with
  | ok x a=>rfl
  | er x a=>rw[hs]at e4;cases e4
theorem zhU{s:Sq}{c:Cdd}{pa fu fi:Fm}{b:Bool}(hE:zeE s c.p pa fu fi b=0)(h:zh7 s c b=true):(za9 s c.p c.us pa fu fi b).2=0∧(za9 s c.p c.us pa fu fi b).1.2.all id=true∧∃ A B,DecOk s c.p pa fu fi b A B∧Gok A B (za9 s c.p c.us pa fu fi b).1.1:=by
 obtain⟨A,B,hd⟩:=DecOk.of hE;unfold zh7 at h;rw[qB,decide_eq_true_eq]at h;unfold za9;rw[if_pos hE];have hr:=hd.r;refine⟨rfl,?_,A,B,hd,?_⟩
 ·show(zbE s c.p b c.us pa fu fi _ _ (zaQ s c.p).toNat).2.all id=true;rw[←h.1,qE,ziy h.2 _ _ _ _ _ _ (qT _)];simp
 ·show Gok A B (zbE s c.p b c.us pa fu fi (s.w / 16).toNat _ (zaQ s c.p).toNat).1;rw[hr,qE,show(s.w / 16).toNat=A by rw[hd.w];omega];exact zd0 hd c.us (zkc hd) B (qT _)
theorem zkx{s:Sq}{A B:Nat}{a b:Fm}(ha:Gok A B a)(hb:Gok A B b)(hw:s.w=((16 * A:Nat):Int))(hh:s.h=((32 * B:Nat):Int))(h64:s.h≤64):FrS s (zh4 a b):=by
 have hA:=ha.ra;have hB:=ha.rb;have e1:(a.w / 2).toNat=8 * A:=by rw[ha.w];omega
 have e2:(a.h / 2).toNat=8 * B:=by rw[ha.h];omega
 unfold zh4;rw[e1,e2];have l1:(wov a.y b.y (2 * (8 * A)) (2 * (8 * B))).length=2 * (8 * B) * (2 * (2 * (8 * A))):=zaF (m:=2 * (8 * B)) (by rw[ha.ly,qJ];congr 1<;>omega) (by rw[hb.ly,qJ];congr 1<;>omega) _ (qT _);have l2:(wov a.u b.u (8 * A) (8 * B)).length=8 * B * (2 * (8 * A)):=zaF (m:=8 * B) (by rw[ha.lu,qJ]) (by rw[hb.lu,qJ]) _ (qT _);have l3:(wov a.v b.v (8 * A) (8 * B)).length=8 * B * (2 * (8 * A)):=zaF (m:=8 * B) (by rw[ha.lv,qJ]) (by rw[hb.lv,qJ]) _ (qT _);refine⟨?_,?_,?_⟩
 ·unfold fmd zo1;dsimp only;rw[l1,l2,l3];have a1:fsz ((2 * (8 * A):Nat):Int) ((4 * (8 * B):Nat):Int)=true:=by simp only[fsz,qB,decide_eq_true_eq];omega
  have b1:((2 * (8 * A):Nat):Int) / 2=((8 * A:Nat):Int):=om;have b2:((4 * (8 * B):Nat):Int) / 2=((2 * (8 * B):Nat):Int):=om;have c1:((2 * (8 * B) * (2 * (2 * (8 * A))):Nat):Int)=((2 * (8 * A):Nat):Int) * ((4 * (8 * B):Nat):Int):=by rw[←Int.natCast_mul];congr 1;rw[qJ,show 2 * (2 * (8 * A))=2 * (8 * A) * 2 from om,Nat.mul_assoc];congr 1;omega
  have c2:((8 * B * (2 * (8 * A)):Nat):Int)=((8 * A:Nat):Int) * ((2 * (8 * B):Nat):Int):=by rw[←Int.natCast_mul];congr 1;rw[qJ,show 2 * (8 * A)=8 * A * 2 from om,Nat.mul_assoc]
  rw[a1,b1,b2,c1,c2];simp
 ·show((2 * (8 * A):Nat):Int)=s.w;rw[hw];omega
 ·show((4 * (8 * B):Nat):Int)=s.h;rw[hh];omega
def RefS(s:Sq)(f:Fm)(n:Prop):Prop:=(f.w=0∨FrS s f)∧(n→FrS s f)
theorem RefS.or{s:Sq}{f:Fm}{n:Prop}(h:RefS s f n):mOr f s.w s.h=true:=by
 rcases h.1 with h1|h1
 ·unfold mOr;simp[h1]
 ·exact h1.or
theorem FrS.pos{s:Sq}{f:Fm}(h:FrS s f):f.w≠0:=by have:=h.m;unfold fmd fsz at this;simp only[qB,decide_eq_true_eq]at this;omega
theorem zu8{s:Sq}{cs:List Cdd}{pa fu:Fm}{ty:Int}(hc:zgl s cs=true)(ht:∀ c∈cs,c.p.ty=ty)(hs:∀(j:Nat) (c:Cdd),cs[j]? =some c→zh7 s c (decide (j≠0))=true)(hp:RefS s pa (ty≠1))(hf:RefS s fu (ty=3)):
  (zhH s cs pa fu).2=(true,0)∧FrS s (zhH s cs pa fu).1:=by
 unfold zhH;rw[if_pos hc];unfold zgl at hc
 match cs with
 | []=>simp at hc
 | [c]=>
  simp only[qX,jA,qY,qB,decide_eq_true_eq]at hc;have hE:zeE s c.p pa fu f0 false=0:=zj9 hc.1 (fun h=>by cases h) hp.or hf.or (zwg _ _) (fun h=>(hp.2 (by rw[←ht c sp];exact h)).pos) (fun h=>(hf.2 (by rw[←ht c sp];exact h)).pos) (fun _ h=>by cases h);obtain⟨h1,h2,A,B,h3,h4⟩:=zhU hE (hs 0 c rfl);dsimp only;rw[if_pos h1];refine⟨by rw[h2],?_⟩;have:=h4.fvd;unfold fvd at this;rw[qB]at this;exact⟨this.1,by rw[h4.w,h3.w],by rw[h4.h,h3.h3 hc.2]⟩
 | [c,d]=>
  simp only[qX,jA,qY,qB]at hc;obtain⟨⟨v1,v2⟩,hl,hpr⟩:=hc;unfold zb7 at hpr;simp only[qB,qW,beq_eq_false_iff_ne,beq_iff_eq]at hpr;have hE:zeE s c.p pa fu f0 false=0:=zj9 v1 (fun h=>by cases h) hp.or hf.or (zwg _ _) (fun h=>(hp.2 (by rw[←ht c sp];exact h)).pos) (fun h=>(hf.2 (by rw[←ht c sp];exact h)).pos) (fun _ h=>by cases h);obtain⟨h1,h2,A,B,h3,h4⟩:=zhU hE (hs 0 c rfl);dsimp only;rw[if_pos h1];generalize za9 s c.p c.us pa fu f0 false=X at h1 h2 h4 ⊢;have h4f:=h4.fvd;unfold fvd at h4f;rw[qB]at h4f;have e32:=(h3.h4 hpr.1).1;have m3:mOr X.1.1 s.w (s.h.tdiv 2)=true:=by unfold mOr;rw[h4f.1,h4.w,h4.h,h3.w,e32,zu _ _ om];simp only[Bool.true_and,jH,qB,decide_eq_true_eq];exact .inr ⟨trivial,om⟩
  have hz:X.1.1.w≠0:=by rw[h4.w];have:=h4.ra;omega
  have hE2:zeE s d.p pa fu X.1.1 true=0:=zj9 v2 (fun _=>hpr.2.1) hp.or hf.or m3 (fun h=>(hp.2 (by rw[←ht d sp];exact h)).pos) (fun h=>(hf.2 (by rw[←ht d sp];exact h)).pos) (fun _ _=>hz);obtain⟨k1,k2,A',B',k3,k4⟩:=zhU hE2 (hs 1 d rfl);rw[if_pos k1];generalize za9 s d.p d.us pa fu X.1.1 true=Y at k1 k2 k4 ⊢;have eA:A'=A:=by have:=h3.w;have:=k3.w;omega
  have e32':=(k3.h4 hpr.2.1).1;have eB:B'=B:=om;subst eA eB;have h64:=(zbg v1).2.1;refine⟨by rw[h2,k2];rfl,?_⟩;show FrS s (if c.p.st=2 then zh4 Y.1.1 X.1.1 else zh4 X.1.1 Y.1.1);split
  ·exact zkx k4 h4 h3.w e32 h64
  ·exact zkx h4 k4 h3.w e32 h64
 | c::d::e::r=>simp at hc
theorem znU{L:List It}{e:Ent}{n:Nat}(hn:n<L.length)(h1:e.1.f=(n:Int))(h2:e.1.l=(n:Int)):zbV L e=[zcM L[n]]:=by unfold zbV;rw[h1,h2,qE,show n+1 - n=1 from om,qL hn];rfl
theorem znT{L:List It}{e:Ent}{n:Nat}(hn:n+1<L.length)(h1:e.1.f=(n:Int))(h2:e.1.l=((n+1:Nat):Int)):zbV L e=[zcM L[n],zcM L[n+1]]:=by unfold zbV;rw[h1,h2,qE,qE,show n+1+1 - n=2 from om,qL om,qL hn];rfl
theorem zrK{L:List It}{j:Nat}{e:Ent}(h:EOk L j e):zgl e.2.1 (zbV L e)=true∧∀ c∈zbV L e,c.p.ty=e.1.ty:=by
 obtain⟨⟨n,m,hn,hm,e1,e2,e3,_,_,e4,_,e5⟩,e6,_⟩:=h;rcases e3 with⟨rfl,h3⟩|⟨rfl,h3,h4,h5⟩
 ·rw[znU hn e1 e2];rw[e4]at h3 e5 e6;refine⟨?_,fun c hc=> ?_⟩
  ·unfold zgl;simp only[qX,jA,qY,qB,decide_eq_true_eq];exact⟨e5,h3⟩
  ·rw[List.mem_singleton]at hc;rw[hc,e6];rfl
 ·rw[znT hm e1 e2];rw[e4]at h3 h4 e5 e6;refine⟨?_,fun c hc=> ?_⟩
  ·unfold zgl;simp only[qX,jA,qY,qB];exact⟨⟨e5,h5⟩,h3,h4⟩
  ·simp only[List.mem_cons,List.not_mem_nil,or_false]at hc;unfold zb7 at h4;simp only[qB,beq_iff_eq]at h4;rcases hc with rfl|rfl
   ·exact e6.symm
   ·rw[e6];exact h4.2.2.2.1.symm
def zyD(L:List It):Prop:=∀(j:Nat) (e:Ent),(zaa L)[j]? =some e→∀(i:Nat) (x:It),L[i]? =some x→e.1.f≤i→(i:Int)≤e.1.l→zh7 e.2.1 (zcM x) (decide ((i:Int)≠e.1.f))=true
theorem zt5{L:List It}(hL:zyD L){j:Nat}{e:Ent}(he:(zaa L)[j]? =some e){l:List Sho}(hl:l.length=j)(hr:∀(i:Nat) (x:Sho) (y:Ent),l[i]? =some x→(zaa L)[i]? =some y→x.ok=true∧FrS y.2.1 x.fr):(shE L e l).ok=true∧FrS e.2.1 (shE L e l).fr:=by
 have hE:=(zaN L).e j e he;have hx:=(zja L).1 j e he;obtain⟨hc,ht⟩:=zrK hE;obtain⟨hF,_,⟨p1,p2⟩,⟨f1,f2⟩,g1,g2,g3⟩:=hE;have ref:∀ n:Int,-1≤n→n<j→sqAt (zaa L) n e.2.1→((zb4 l n).fr.w=0∨FrS e.2.1 (zb4 l n).fr)∧(0≤n→(zb4 l n).ok=true∧FrS e.2.1 (zb4 l n).fr):=fun n h1 h2 h3=>by
  unfold zb4;by_cases h0:n<0
  ·rw[if_pos h0];exact⟨.inl rfl,fun h=>om⟩
  ·rw[if_neg h0];obtain⟨y,hy,hs⟩:=h3 om;have e1:=qA (show n.toNat<l.length from om);obtain⟨k1,k2⟩:=hr n.toNat _ y e1 hy;rw[e1];rw[hs]at k2;exact⟨.inr k2,fun _=>⟨k1,k2⟩⟩
 obtain⟨a1,a2⟩:=ref e.1.pa p1 p2 hx.1;obtain⟨b1,b2⟩:=ref e.1.fu f1 f2 hx.2;obtain⟨n,m,hn,hm,e1,e2,e3,_,_,e4,_,e5⟩:=hF;have hty:1≤e.1.ty∧e.1.ty≤3:=by obtain⟨A,B,_,_,_,_,_,_,_,_,q⟩:=znP e5;have:=(show e.1.ty=e.2.2.ty from(zaN L).e j e he|>.2.1);omega
 have hsl:∀(i:Nat) (c:Cdd),(zbV L e)[i]? =some c→zh7 e.2.1 c (decide (i≠0))=true:=fun i c hi=>by
  rcases e3 with⟨rfl,h3⟩|⟨rfl,h3,h4,h5⟩
  ·rw[znU hn e1 e2]at hi
   match i with
   | 0=>
    injection hi with hi;rw[←hi];have:=hL j e he _ _ (qA hn) om om;rw[e1]at this;simpa using this
   | i+1=>simp at hi
  ·rw[znT hm e1 e2]at hi
   match i with
   | 0=>
    injection hi with hi;rw[←hi];have:=hL j e he n _ (qA hn) om om;rw[e1]at this;simpa using this
   | 1=>
    injection hi with hi;rw[←hi];have:=hL j e he (n+1) _ (qA hm) om om;rw[e1,decide_eq_true om]at this;simpa using this
   | i+2=>simp at hi
 obtain⟨q1,q2⟩:=zu8 (pa:=(zb4 l e.1.pa).fr) (fu:=(zb4 l e.1.fu).fr) (ty:=e.1.ty) hc ht hsl ⟨a1,fun h=>(a2 (by
   by_cases h3:e.1.ty=3
   ·exact(g1 h3).1
   ·exact g2 om)).2⟩ ⟨b1,fun h=>(b2 (g1 h).2).2⟩
 refine⟨?_,q2⟩;show(((zhH e.2.1 (zbV L e) (zb4 l e.1.pa).fr (zb4 l e.1.fu).fr).2.1&&(decide (e.1.ty=1)||(zb4 l e.1.pa).ok))&&(!decide (e.1.ty=3)||(zb4 l e.1.fu).ok))=true;rw[q1];by_cases h1:e.1.ty=1
 ·rw[decide_eq_true h1,decide_eq_false om];rfl
 ·by_cases h3:e.1.ty=3
  ·rw[(a2 (g1 h3).1).1,(b2 (g1 h3).2).1];simp
  ·rw[(a2 (g2 om)).1,decide_eq_false h3];simp
theorem zj3{L:List It}(hL:zyD L):∀ k,k≤(zaa L).length→∀(i:Nat) (x:Sho) (y:Ent),(dvN L (zaa L) k)[i]? =some x→(zaa L)[i]? =some y→x.ok=true∧FrS y.2.1 x.fr
 | 0,_,i,x,y,h,_=>by simp[dvN]at h
 | k+1,hk,i,x,y,h,hy=>by
  have e:=qA (show k<(zaa L).length from om);have hl:=zdi L (zaa L) k om;rw[dvN,e]at h;dsimp only at h;rcases zan h with⟨_,h1⟩|⟨h1,h2⟩
  ·exact zj3 hL k om i x y h1 hy
  ·rw[hl]at h1;subst h1;rw[h2];rw[e]at hy;injection hy with hy;rw[←hy];exact zt5 hL e hl (zj3 hL i om)
def it0:It:=⟨0,sq0,false,false,0,zxp,[],[],0⟩
def nxI(L:List It)(i:Nat):It:=(L[i+1]?).getD it0
def zm0(L:List It)(i:Nat)(x:It):Bool:=if x.k=1 then decide ((nxI L i).k=2)else if x.k=2 then !x.gb&&(decide ((nxI L i).k=3)&&decide ((nxI L i).p.ty=1))else if x.k=4 then decide (i+1=L.length)||decide ((nxI L i).k=1)else true
def zjG(L:List It):List It→Nat→Bool
 | [],_=>true
 | x::r,i=>zm0 L i x&&zjG L r (i+1)
def zhv(L:List It):Bool:=(match L with|[]=>false|x::_=>decide (x.k=1))&&zjG L L 0
theorem zn0{L:List It}:∀{r:List It} {i:Nat},L.drop i=r→zjG L r i=true→∀(j:Nat) (x:It),i≤j→L[j]? =some x→zm0 L j x=true
 | [],i,hr,_,j,x,hj,hx=>by
  have:=List.drop_eq_nil_iff.1 hr;have:=(qC.1 hx).1;omega
 | y::r,i,hr,h,j,x,hj,hx=>by
  obtain⟨hi,hy,hr2⟩:=zfg hr;rw[zjG,qB]at h;by_cases e:j=i
  ·subst e;rw[qA hi]at hx;injection hx with hx;rw[←hx,hy];exact h.1
  ·exact zn0 hr2 h.2 j x om hx
theorem zuI{L:List It}(h:zhv L=true){j:Nat}{x:It}(hx:L[j]? =some x):zm0 L j x=true:=by unfold zhv at h;rw[qB]at h;exact zn0 (i:=0) rfl h.2 j x (jL _) hx
def zdv(x:It):Prop:=x.k=2∨x.k=4
instance(x:It):Decidable (zdv x):=inferInstanceAs (Decidable (_∨_))
def grS(g:Int)(i:Nat)(x:It):Int:=if x.k=4 then -1 else if x.k=2 then(i:Int)else g
def grA(L:List It):Nat→Int
 | 0=> -1
 | n+1=>match L[n]? with|some x=>grS (grA L n) n x|none=>grA L n
theorem zwp(L:List It):∀ n,-1≤grA L n∧grA L n<n
 | 0=>⟨jC _,by show(-1:Int)<((0:Nat):Int);omega⟩
 | n+1=>by
  have:=zwp L n;rw[grA];split
  ·unfold grS;split
   ·omega
   ·split<;>omega
  ·omega
theorem zsy{L:List It}{n:Nat}:∀ m,n≤m→(∀(p:Nat) (x:It),n≤p→p<m→L[p]? =some x→¬ zdv x)→grA L m=grA L n
 | 0,h,_=>by rw[show n=0 from om]
 | m+1,h,hb=>by
  by_cases e:n=m+1
  ·rw[e]
  ·rw[grA];have ih:=zsy m om fun p x h1 h2=>hb p x h1 om;cases hx:L[m]? with
   | none=>exact ih
   | some x=>have:=hb m x om om hx;unfold zdv at this;dsimp only;unfold grS;rw[if_neg om,if_neg om];exact ih
theorem zoi{L:List It}{p:Nat}{x:It}(hx:L[p]? =some x)(hb:zdv x):∀ m,p<m→grA L m= -1∨(p:Int)≤grA L m
 | 0,h=>om
 | m+1,h=>by
  rw[grA];by_cases e:p=m
  ·subst e;rw[hx];dsimp only;unfold grS;unfold zdv at hb;split
   ·exact .inl rfl
   ·rw[if_pos om];exact .inr (jC _)
  ·have ih:=zoi hx hb m om;split
   ·unfold grS;split
    ·exact .inl rfl
    ·split
     ·exact .inr om
     ·exact ih
   ·exact ih
theorem zjW{L:List It}(h:zhv L=true):∀(i:Nat) (x:It),L[i]? =some x→grA L (i+1)= -1→x.k=1∨x.k=4
 | 0,x,hx,_=>by
  unfold zhv at h;rw[qB]at h;cases L with
  | nil=>simp at hx
  | cons y r=>
   simp only[List.getElem?_cons_zero,Option.some.injEq]at hx;subst hx;exact .inl (by simpa using h.1)
 | i+1,x,hx,hg=>by
  have hi:=(qC.1 hx).1;have e:=qA (show i<L.length from om);have hn:nxI L i=x:=by unfold nxI;rw[hx];rfl
  have hf:=zuI h e;unfold zm0 at hf;rw[hn]at hf;rw[grA,hx]at hg;dsimp only at hg;unfold grS at hg;by_cases k4:x.k=4
  ·exact .inr k4
  rw[if_neg k4]at hg;by_cases k2:x.k=2
  ·rw[if_pos k2]at hg;omega
  rw[if_neg k2]at hg;rcases zjW h i _ e hg with k|k
  ·rw[if_pos k]at hf;exact absurd (by simpa using hf) k2
  ·rw[if_neg om,if_neg om,if_pos k]at hf;simp only[jH,decide_eq_true_eq]at hf;exact .inl om
def sameI(L:List It)(a b:Nat):Prop:=∀(p:Nat) (x:It),min a b<p→p<max a b→L[p]? =some x→¬ zdv x
theorem sameI.symm{L:List It}{a b:Nat}(h:sameI L a b):sameI L b a:=fun p x h1 h2=>h p x om om
theorem zua{L:List It}(h:zhv L=true){a b:Nat}{x y:It}(hx:L[a]? =some x)(hy:L[b]? =some y)(kx:x.k=3)(ky:y.k=3):grA L (a+1)=grA L (b+1)↔sameI L a b:=by
 have key:∀(a b:Nat) (x y:It),L[a]? =some x→L[b]? =some y→x.k=3→y.k=3→a≤b→(grA L (a+1)=grA L (b+1)↔sameI L a b):=by
  intro a b x y hx hy kx ky hab;have ga:grA L (a+1)≠-1:=fun e=>by have:=zjW h a x hx e;omega
  have gb:grA L (b+1)≠-1:=fun e=>by have:=zjW h b y hy e;omega
  constructor
  ·intro e p z h1 h2 hz hb;have g1:=zoi hz hb (b+1) om;have g2:=(zwp L (a+1)).2;omega
  ·intro hs;refine(zsy (b+1) om fun p z h1 h2 hz hb=> ?_).symm;by_cases e:p=b
   ·subst e;rw[hy]at hz;injection hz with hz;subst hz;unfold zdv at hb;omega
   ·exact hs p z om om hz hb
 rcases Nat.le_total a b with hab|hab
 ·exact key a b x y hx hy kx ky hab
 ·constructor
  ·intro e;exact((key b a y x hy hx ky kx hab).1 e.symm).symm
  ·intro hs;exact((key b a y x hy hx ky kx hab).2 hs.symm).symm
def zpv(x:It):Bool:= !decide (x.k=2)&& !decide (x.k=4)
theorem zlp(x:It):zpv x=true↔¬ zdv x:=by unfold zpv zdv;simp only[qB,qW,decide_eq_false_iff_not];omega
def zff(L:List It)(n:Nat):Nat:=n+((L.drop n).takeWhile zpv).length
def toF(es:List Ent)(en fr:Nat):Nat:=fr+((es.drop fr).takeWhile fun e=>decide (e.1.f<(en:Int))).length
def zlU(g:List Ent)(e:Ent):Nat:=g.countP fun o=>decide (o.1.sh<e.1.sh)
def zxW(g:List Ent):Bool:=g.all fun e=>decide (e.2.2.od=(zlU g e:Int))
def zes(es:List Ent)(fr to:Nat):List Ent:=(es.drop fr).take (to - fr)
def zif(L:List It)(es:List Ent):Nat→Nat→Bool
 | 0,_=>true
 | n+1,fr=>match es[fr]? with
  | none=>true
  | some e=>zxW (zes es fr (toF es (zff L e.1.f.toNat) fr))&&zif L es n (toF es (zff L e.1.f.toNat) fr)
def zpx(L:List It)(es:List Ent):Bool:=zif L es es.length 0
theorem znq{α:Type}(p:α→Bool):∀(l:List α) (j:Nat) (x:α),l[j]? =some x→j<(l.takeWhile p).length→p x=true
 | [],j,x,h,_=>by simp at h
 | a::r,j,x,h,hj=>by
  rw[jD]at hj;cases ha:p a with
  | false=>rw[ha]at hj;simp at hj
  | true=>
   rw[ha]at hj;cases j with
   | zero=>simp at h;rw[←h];exact ha
   | succ j=>simp at h hj;exact znq p r j x h hj
theorem zgQ{α:Type}(p:α→Bool):∀(l:List α) (x:α),l[(l.takeWhile p).length]? =some x→p x=false
 | [],x,h=>by simp at h
 | a::r,x,h=>by
  rw[jD]at h;cases ha:p a with
  | false=>rw[ha]at h;simp at h;rw[←h];exact ha
  | true=>rw[ha]at h;simp at h;exact zgQ p r x h
theorem zvZ{α:Type}(p:α→Bool)(l:List α):(l.takeWhile p).length≤l.length:=(List.takeWhile_prefix p).length_le
theorem zoA{L:List It}{n p:Nat}{x:It}(h1:n≤p)(h2:p<zff L n)(hx:L[p]? =some x):¬ zdv x:=by unfold zff at h2;rw[←zlp];exact znq zpv (L.drop n) (p - n) x (by rw[qH,show n+(p - n)=p from om];exact hx) om
theorem zfe{L:List It}{n:Nat}{x:It}(hx:L[zff L n]? =some x):zdv x:=by unfold zff at hx;have h:=zgQ zpv (L.drop n) x (by rw[qH];exact hx);refine Classical.byContradiction fun hb=> ?_;rw[(zlp x).2 hb]at h;cases h
theorem zoz{L:List It}{n:Nat}(hn:n≤L.length):n≤zff L n∧zff L n≤L.length:=by unfold zff;have:=zvZ zpv (L.drop n);rw[List.length_drop]at this;omega
structure EsI(L:List It)(es:List Ent):Prop where
 k:∀(j:Nat) (e:Ent),es[j]? =some e→∃ x,0≤e.1.f∧L[e.1.f.toNat]? =some x∧x.k=3∧e.2.2=x.p
 o:∀(i j:Nat) (x y:Ent),es[i]? =some x→es[j]? =some y→i<j→x.1.f<y.1.f
theorem zdQ{α:Type}{p:α→Bool}{l:List α}(h:∀ x∈l,p x=false):l.countP p=0:=by rw[List.countP_eq_zero];intro x hx e;rw[h x hx]at e;cases e
def zs7(L:List It)(es:List Ent)(e:Ent)[DecidablePred fun o:Ent=>sameI L o.1.f.toNat e.1.f.toNat∧o.1.sh<e.1.sh]:Nat:=es.countP fun o=>decide (sameI L o.1.f.toNat e.1.f.toNat∧o.1.sh<e.1.sh)
theorem zv0(es:List Ent)(E fr:Nat)(h:fr≤es.length):fr≤toF es E fr∧toF es E fr≤es.length:=by unfold toF;have:=zvZ (fun e:Ent=>decide (e.1.f<(E:Int))) (es.drop fr);rw[List.length_drop]at this;omega
def zxc(L:List It)(es:List Ent)(fr:Nat):Prop:=∀(i j:Nat) (x y:Ent),es[i]? =some x→es[j]? =some y→i<fr→fr≤j→¬ sameI L x.1.f.toNat y.1.f.toNat
open Classical in
theorem zub{L:List It}{es:List Ent}(h:EsI L es){fr:Nat}(hfr:fr<es.length)(hs:zxc L es fr){T:Nat}(hT:T=toF es (zff L es[fr].1.f.toNat) fr):
  fr<T∧T≤es.length∧zxc L es T∧∀(j:Nat) (e:Ent),fr≤j→j<T→es[j]? =some e→zlU (zes es fr T) e=zs7 L es e:=by
 have e0:=qA hfr;obtain⟨x0,f0,hx0,k0,_⟩:=h.k fr _ e0;have hn0:=(qC.1 hx0).1;obtain⟨F,hF⟩:∃ F,F=es[fr].1.f.toNat:=⟨_,rfl⟩;rw[←hF]at hx0 hn0 hT;obtain⟨E,hE⟩:∃ E,E=zff L F:=⟨_,rfl⟩;rw[←hE]at hT;have hEl:=zoz (L:=L) (n:=F) om;rw[←hE]at hEl;have hFE:F<E:=by
  rcases jF hEl.1 with e1|e1
  ·have:=zfe (L:=L) (n:=F) (x:=x0) (by rw[←hE,←e1];exact hx0);unfold zdv at this;omega
  ·exact e1
 have hTb:fr≤T∧T≤es.length:=by rw[hT];exact zv0 es E fr om
 have t1:∀(i:Nat) (x:Ent),es[i]? =some x→fr≤i→i<T→x.1.f<(E:Int):=fun i x hx h1 h2=>by rw[hT]at h2;unfold toF at h2;have:=znq (fun e:Ent=>decide (e.1.f<(E:Int))) (es.drop fr) (i - fr) x (by rw[qH,show fr+(i - fr)=i from om];exact hx) om;exact of_decide_eq_true this
 have t2:∀(i:Nat) (x:Ent),es[i]? =some x→T≤i→∃ y,L[E]? =some y∧zdv y∧(E:Int)<x.1.f:=fun i x hx h1=>by
  have hTl:T<es.length:=by have:=(qC.1 hx).1;omega
  have eT:=qA hTl;have g1:(E:Int)≤es[T].1.f:=by
   have:=zgQ (fun e:Ent=>decide (e.1.f<(E:Int))) (es.drop fr) es[T] (by
    rw[qH];show es[toF es E fr]? =_;rw[←hT];exact eT)
   have:=of_decide_eq_false this;omega
  have g2:es[T].1.f≤x.1.f:=by
   rcases jF h1 with e1|e1
   ·subst e1;rw[eT]at hx;injection hx with hx;rw[hx];exact jC _
   ·exact Int.le_of_lt (h.o T i _ x eT hx e1)
  obtain⟨x1,p1,p2,p3,_⟩:=h.k i x hx;have hl1:=(qC.1 p2).1;have eE:=qA (show E<L.length from om);have hbE:zdv L[E]:=zfe (n:=F) (by rw[←hE];exact eE);refine⟨_,eE,hbE,?_⟩;rcases Int.lt_or_le (E:Int) x.1.f with h3|h3
  ·exact h3
  ·have:x.1.f.toNat=E:=om;rw[this,eE]at p2;injection p2 with p2;rw[p2]at hbE;unfold zdv at hbE;omega
 have mono:∀(i:Nat) (x:Ent),es[i]? =some x→fr≤i→(F:Int)≤x.1.f:=fun i x hx h1=>by
  rcases jF h1 with e1|e1
  ·subst e1;rw[e0]at hx;injection hx with hx;rw[←hx];omega
  ·have:=h.o fr i _ x e0 hx e1;omega
 refine⟨?_,hTb.2,?_,fun j e hj hjT he=> ?_⟩
 ·have h1:(es.drop fr).takeWhile (fun e:Ent=>decide (e.1.f<(E:Int)))=es[fr]::((es.drop (fr+1)).takeWhile fun e:Ent=>decide (e.1.f<(E:Int))):=by rw[qL hfr,jD,if_pos (decide_eq_true om)]
  rw[hT];unfold toF;rw[h1,qR];omega
 ·intro a b x y hx hy h1 h2 hh;obtain⟨z,z1,z2,z3⟩:=t2 b y hy h2;by_cases ha:a<fr
  ·exact hs a b x y hx hy ha om hh
  ·have:=t1 a x hx om h1;have:=mono a x hx om;exact hh E z om om z1 z2
 ·have hr:zes es fr T=(es.drop fr).take (T - fr):=rfl;have hsplit:es=es.take fr++(zes es fr T++es.drop T):=by
   rw[hr];conv=>lhs;rw[←jJ fr es]
   congr 1;conv=>lhs;rw[←jJ (T - fr) (es.drop fr)]
   rw[List.drop_drop,show fr+(T - fr)=T from om]
  unfold zs7;conv=>rhs;rw[hsplit]
  rw[List.countP_append,List.countP_append];have z1:(es.take fr).countP (fun o=>decide (sameI L o.1.f.toNat e.1.f.toNat∧o.1.sh<e.1.sh))=0:=zdQ fun o ho=>by
   obtain⟨i,hi⟩:=qM ho;rw[qU]at hi;split at hi
   ·exact decide_eq_false fun hh=>hs i j o e hi he (by assumption) hj hh.1
   ·cases hi
  have z2:(es.drop T).countP (fun o=>decide (sameI L o.1.f.toNat e.1.f.toNat∧o.1.sh<e.1.sh))=0:=zdQ fun o ho=>by obtain⟨i,hi⟩:=qM ho;rw[qH]at hi;refine decide_eq_false fun hh=> ?_;obtain⟨y,y1,y2,y3⟩:=t2 _ o hi om;have:=t1 j e he hj hjT;have:=mono j e he hj;exact hh.1 E y om om y1 y2
  rw[z1,z2,jI,Nat.add_zero];unfold zlU;refine List.countP_congr fun o ho=> ?_;obtain⟨i,hi⟩:=qM ho;rw[hr,qU]at hi;split at hi
  ·rw[qH]at hi;have a1:=t1 _ o hi om om;have a2:=t1 j e he hj hjT;have a3:=mono _ o hi om;have a4:=mono j e he hj;simp only[decide_eq_true_eq];refine⟨fun hh=>⟨fun p x h1 h2 hx=>zoA (n:=F) om (by rw[←hE];omega) hx,hh⟩,fun hh=>hh.2⟩
  ·cases hi
open Classical in
theorem zlq{L:List It}{es:List Ent}(h:EsI L es):∀(n fr:Nat),es.length≤fr+n→zxc L es fr→(zif L es n fr=true↔∀(j:Nat) (e:Ent),fr≤j→es[j]? =some e→e.2.2.od=(zs7 L es e:Int))
 | 0,fr,hn,_=>⟨fun _ j e hj he=>by have:=(qC.1 he).1;omega,fun _=>rfl⟩
 | n+1,fr,hn,hs=>by
  rw[zif];by_cases hfr:fr<es.length
  ·obtain⟨T,hT⟩:∃ T,T=toF es (zff L es[fr].1.f.toNat) fr:=⟨_,rfl⟩;obtain⟨r1,r2,r3,r4⟩:=zub h hfr hs hT;rw[qA hfr];dsimp only;rw[←hT,qB,zlq h n T om r3];have hin:∀(j:Nat) (e:Ent),fr≤j→j<T→es[j]? =some e→e∈zes es fr T:=fun j e hj hjT he=>by refine List.mem_of_getElem? (i:=j - fr) ?_;unfold zes;rw[qU,if_pos om,qH,show fr+(j - fr)=j from om];exact he
   have hout:∀ e∈zes es fr T,∃ j,fr≤j∧j<T∧es[j]? =some e:=fun e he=>by
    obtain⟨i,hi⟩:=qM he;unfold zes at hi;rw[qU]at hi;split at hi
    ·rw[qH]at hi;exact⟨fr+i,om,om,hi⟩
    ·cases hi
   unfold zxW;rw[List.all_eq_true];constructor
   ·rintro⟨g1,g2⟩ j e hj he;by_cases hjT:j<T
    ·have:=of_decide_eq_true (g1 e (hin j e hj hjT he));rw[this,r4 j e hj hjT he]
    ·exact g2 j e om he
   ·intro g;refine⟨fun e he=> ?_,fun j e hj he=>g j e om he⟩;obtain⟨j,h1,h2,h3⟩:=hout e he;rw[r4 j e h1 h2 h3];exact decide_eq_true (g j e h1 h3)
  ·rw[List.getElem?_eq_none om];exact⟨fun _ j e hj he=>by have:=(qC.1 he).1;omega,fun _=>rfl⟩
open Classical in
theorem zrS{L:List It}{es:List Ent}(h:EsI L es):zpx L es=true↔∀(j:Nat) (e:Ent),es[j]? =some e→e.2.2.od=(zs7 L es e:Int):=(zlq h es.length 0 om (fun i j x y _ _ hi=>absurd hi (Nat.not_lt_zero _))).trans ⟨fun g j e he=>g j e (jL _) he,fun g j e _ he=>g j e he⟩
end Go.Proofs.YtpjlfoficnpfoaaGreatDoor.Sc
