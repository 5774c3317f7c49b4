/-
  Parts of the proof. No condition.
-/
import Derived.Test.YtdajpjenhcobkaaGreatDoorX38
import Derived.Test.YtdajpjenhcobkaaGreatDoorX28
open Array renaming toList → qH
open List renaming append_nil → qA, mapM_cons → qF, mapM_nil → qG, take → qI, flatMap_cons → qJ, flatMap_nil → qK
open Nat renaming mul_comm → qM
open Option renaming bind_eq_bind → qB, bind_some → qD, pure_def → qE
open Go.Proofs.Tryz renaming prog → qL
set_option linter.all false
set_option maxRecDepth 100000
set_option maxHeartbeats 32000000
namespace Go.Proofs.YtdajpjenhcobkaaGreatDoor.Sc
open Pm Ty Go.RowKit
structure Cdd where
 p:Pi
 U:List (List UInt8)
 us:List (Int×List UInt8)
structure Sho where
 fr:Fm
 f:Int
 l:Int
 ty:Int
 ok:Bool
 fi:Int
 tf:Bool
def zdv(s:Sq)(cs:List Cdd):Bool:=(cs.all λc=>zP s c.p)&&match cs with
 | [c]=>decide (c.p.st=3)
 | [c,d]=>zd1 c.p&&zc3 c.p d.p
 | _=>false
def zik(a b:Fm):Fm:=zi6 (a.w / 2).toNat (a.h / 2).toNat a b
def zls(s:Sq)(cs:List Cdd)(pa fu:Fm):Fm×Bool×Int:=
 if zdv s cs then match cs with
  | [c]=>if(zbd s c.p c.us pa fu f0 false).2=0 then((zbd s c.p c.us pa fu f0 false).1.1,(zbd s c.p c.us pa fu f0 false).1.2.all id,0)else(f0,false,(zbd s c.p c.us pa fu f0 false).2)
  | [c,d]=>if(zbd s c.p c.us pa fu f0 false).2=0 then
    (if(zbd s d.p d.us pa fu (zbd s c.p c.us pa fu f0 false).1.1 true).2=0 then
     (if c.p.st=2 then zik (zbd s d.p d.us pa fu (zbd s c.p c.us pa fu f0 false).1.1 true).1.1 (zbd s c.p c.us pa fu f0 false).1.1 else zik (zbd s c.p c.us pa fu f0 false).1.1 (zbd s d.p d.us pa fu (zbd s c.p c.us pa fu f0 false).1.1 true).1.1,(zbd s c.p c.us pa fu f0 false).1.2.all id&&(zbd s d.p d.us pa fu (zbd s c.p c.us pa fu f0 false).1.1 true).1.2.all id,0)
     else(f0,false,(zbd s d.p d.us pa fu (zbd s c.p c.us pa fu f0 false).1.1 true).2))
   else(f0,false,(zbd s c.p c.us pa fu f0 false).2)
  | _=>(f0,false,1)
 else(f0,false,1)
def cdE(c:Cdd):List PV:=cdc c.p c.U c.us
def cdL(cs:List Cdd):List PV:=cs.flatMap cdE
theorem zn2(cs:List Cdd):(cdL cs).length=cs.length * 8:=zaH cdE 8 cs λ_ _=>rfl
theorem zsm(cs:List Cdd)(k:Nat)(hk:k<cs.length):qI 8 (List.drop (k * 8) (cdL cs))=cdE cs[k]:=zdt cdE 8 cs k hk λ_ _=>rfl
theorem zsl(n:Nat)(cs:List Cdd):∀ x∈cdL cs,Scoped n x:=λx hx=>by obtain⟨u,_,hx⟩:=List.mem_flatMap.1 hx;exact zid _ _ _ _ x hx
structure CdOk(c:Cdd):Prop where
 n:c.us.length<=1000000
 u:∀ u∈c.us,zex u.1/\u.2.length<=100000000
theorem zki(l:List Bool)(f:Bool)(hn:l.length<=1000000)(H:za):CallOk qL 15 [.slice (l.map PV.bool) l.length f] H (.bool (l.all id)) H:=by
 have fin:∀(b:Bool),Fin H (.bool b) H (.bool b) H:=λb=>Fin.now;refine .go Tryz.func15 Tryz.ntmps15 Tryz.results15 ?_;refine .e ?_;refine .e ?_;refine .l ?_;suffices hl1:∀ j:Nat,j<=l.length->(l.drop j).all id=l.all id->PL qL _ _ [(5,.slice (l.map PV.bool) l.length f),(6,.int .i64 (l.length:Int)),(7,.int .i64 (j:Int))] H _ by exact .at [5,6,7] (hl1 0 om rfl) rfl rfl
 intro j hj hf;induction hd:l.length - j using Nat.strongRecOn generalizing j with
 | _ d ih=>
  refine .round ?_;refine .e ?_;refine .c (λh=> ?_) (λh=> ?_)
  .have hjl:j<l.length:=by simp_all
   have ea:(l.map PV.bool)[j]? =some (.bool l[j]):=by simp_all
   have hnext:=ih (l.length - (j+1)) om (j+1) om;rw[zcn _ l j hjl]at hf;generalize l[j]=b at *;refine .skip ?_;refine .b ?_;refine .f (λK k=>by simp(maxSteps:=3000000) (disch:=omega) only[go_sem,ea,List.length_map];exact k) ?_;refine .e ?_;cases b with
   | true=>
    refine .us ?_;refine .e ?_;exact .at [5,6,7] (hnext hf rfl) rfl rfl
   | false=>refine .t ?_;refine .e ?_;refine .v (.bool false) ?_;grind
  .have hjl:j=l.length:=by grind
   subst hjl;rw[List.drop_length]at hf;rw[<-hf];refine .exit ?_;refine .e ?_;refine .v (.bool true) ?_;exact fin _
theorem zt7(s:Sq)(cs:List Cdd)(f:Bool)(hs:SqOk s)(hn:cs.length<=1000000)(H:za):CallOk qL 13 [.agg (sqc s),.slice (cdL cs) cs.length f] H (.bool (zdv s cs)) H:=by
 have fin:∀(b:Bool) (K:za),Fin H (.bool b) H (.bool b) (H++K):=λb K=>Fin.base (.id (.bool _));have h1:=zah s;have h2:=zax s hs;have h3:=zbD s hs;have ln:=zn2 cs;have pv:=λp K=>zef s p K hs;unfold zdv;refine .go Tryz.func13 Tryz.ntmps13 Tryz.results13 ?_;refine .g h1 ?_;refine .e ?_;refine .l ?_;suffices hl1:∀ j:Nat,j<=cs.length->((cs.drop j).all λc=>zP s c.p)=(cs.all λc=>zP s c.p)->PL qL _ _ [(1,.slice (cdL cs) cs.length f),(2,.ptr H.length 0 0),(7,.slice (cdL cs) cs.length f),(8,.int .i64 (cs.length:Int)),(9,.int .i64 (j:Int))] (H++[⟨26,0,sqc s⟩]) _ by exact .at [1,2,7,8,9] (hl1 0 om rfl) rfl rfl
 intro j hj hf;induction hd:cs.length - j using Nat.strongRecOn generalizing j with
 | _ d ih=>
  refine .round ?_;refine .e ?_;refine .c (λh=> ?_) (λh=> ?_)
  .have hjl:j<cs.length:=by simp_all
   have ea:=zsm cs j hjl;have hnext:=ih (cs.length - (j+1)) om (j+1) om;rw[zcn _ cs j hjl]at hf;generalize cs[j]=c at *;have pc:=λK=>pv c.p K;have e1:(cdE c).length=8:=rfl;have e2:(cdE c).all PV.cell=true:=rfl;have e3:qI 6 (cdE c)=pic c.p:=rfl;have e4:qI 8 (cdE c)=cdE c:=rfl;refine .skip ?_;refine .b ?_;refine .g (nq2 ea (nq2 ln (nq2 e1 (nq2 e2 e4)))) ?_;refine .m (nq2 h2 (nq2 h3 (nq2 e1 e3))) pc ?_;cases hb:zP s c.p with
   | true=>
    rw[hb]at hf;refine .us ?_;refine .e ?_;refine .view (Vs.trim (F1:=[(1,.slice (cdL cs) cs.length f),(2,.ptr H.length 0 0),(7,.slice (cdL cs) cs.length f),(8,.int .i64 (cs.length:Int)),(9,.int .i64 ((j+1:Nat):Int))]) (H1:=H++[⟨26,0,sqc s⟩]) (K:=[⟨37,0,cdE c⟩]) (λhh=>zh0 (λb hb x hx=> ?_) hh) sp sp ?_) (hnext hf rfl)
    .grind[List.mem_singleton,zbE]
    .exact⟨.id (zr (zsl _ _)),.id (.ptr sp),.id (zr (zsl _ _)),.id (.int _ _),.id (.int _ _),trivial⟩
   | false=>rw[hb]at hf;refine .t ?_;refine .e ?_;refine .v (.bool false) ?_;grind
  .have hjl:j=cs.length:=by grind
   subst hjl;rw[List.drop_length]at hf;rw[<-hf];refine .exit ?_;refine .e ?_;refine .block ?_
   match cs with
   | []=>
    refine .e ?_;refine .u ?_;refine .e ?_;refine .us ?_;refine .e ?_;refine .v (.bool false) ?_;exact fin _ _
   | [c]=>
    refine .e ?_;refine .t ?_;refine .f (λK k=>by simp(maxSteps:=3000000) (disch:=omega) only[go_sem,cdL,qJ,qK,cdE,cdc,pic];exact k) ?_;refine .v (.bool (c.p.st==3)) ?_;exact fin _ _
   | [c,d]=>
    have le:=λK=>ztH c.p K;have pa:=λK=>zq1 c.p d.p K;simp only[pic]at le pa;refine .e ?_;refine .u ?_;refine .e ?_;refine .t ?_;generalize hb1:zd1 c.p=b1 at le;generalize hb2:zc3 c.p d.p=b2 at pa;cases b1 with
    | false=>
     (repeat refine .seq ?_);refine .drawg mix kr λK hK=> ?_;simp(maxSteps:=3000000) (disch:=omega) only[go_sem,cdL,qJ,qK,cdE,cdc,pic];refine VCz.call (λ_=>le _) rfl ?_;refine sqz ?_;refine hK _ _ ?_;clear hK K;refine .v (.bool false) ?_;grind
    | true=>
     (repeat refine .seq ?_);refine .drawg mix kr λK hK=> ?_;simp(maxSteps:=3000000) (disch:=omega) only[go_sem,cdL,qJ,qK,cdE,cdc,pic];refine VCz.call (λ_=>le _) rfl ?_;simp(maxSteps:=3000000) (disch:=omega) only[go_sem,cdL,qJ,qK,cdE,cdc,pic];refine VCz.call (λ_=>pa _) rfl ?_;refine sqz ?_;refine hK _ _ ?_;clear hK K;refine .v (.bool b2) ?_;show Pm.Fin H (.bool (zd1 c.p&&zc3 c.p d.p)) H _ _;grind
   | c::d::e::r=>have d1:decide ((((c::d::e::r).length:Nat):Int)=1)=false:=decide_eq_false (by simp only[List.length_cons];omega);have d2:decide ((((c::d::e::r).length:Nat):Int)=2)=false:=decide_eq_false (by simp only[List.length_cons];omega);have d1':((((c::d::e::r).length:Nat):Int)==1)=false:=d1;have d2':((((c::d::e::r).length:Nat):Int)==2)=false:=d2;obtain⟨cs',hcs⟩:∃ cs':List Cdd,cs'=c::d::e::r:=⟨_,rfl⟩;rw[<-hcs]at d1' d2' |-;refine .f (λK k=>by simp(maxSteps:=3000000) (disch:=omega) only[go_sem,d1'];exact k) ?_;refine .u ?_;refine .f (λK k=>by simp(maxSteps:=3000000) (disch:=omega) only[go_sem,d2'];exact k) ?_;refine .us ?_;refine .e ?_;refine .v (.bool false) ?_;simp_all
def zfr:List PV:=[.int .i64 0,.int .i64 0,.slice [] 0 true,.slice [] 0 true,.slice [] 0 true]
theorem zu7(n:Nat)(H:za):FzC n H zfr (fmc f0):=⟨.id (.int _ _),.id (.int _ _),Fz.sliceC (xs:=[]) (ys:=[]) trivial (λh=>by cases h),Fz.sliceC (xs:=[]) (ys:=[]) trivial (λh=>by cases h),Fz.sliceC (xs:=[]) (ys:=[]) trivial (λh=>by cases h),trivial⟩
theorem zi1:Wkns zfr (fmc f0):=.cons (.refl _) (.cons (.refl _) (.cons (.slF _ _ _) (.cons (.slF _ _ _) (.cons (.slF _ _ _) .nil))))
def zcD(r:Fm×Bool×Int):PV:=.tup [.agg (fmc r.1),.bool r.2.1,.int .i64 r.2.2]
theorem zaN(H K:za)(e:Int):Fin H (zcD (f0,false,e)) H (.tup [.agg zfr,.bool false,.int .i64 e]) (H++K):=Fin.base (Fz.tupC ⟨Fz.aggC (zu7 _ _),.id (.bool _),.id (.int _ _),trivial⟩)
theorem ztU(n:Nat)(f:Fm):∀ x∈fmc f,Scoped n x:=zas _ _ _ _ _ _ _ _ _ _ _ _
theorem zcL(H K:za)(r:Fm×Bool×Int):Fin H (zcD r) H (zcD r) (H++K):=Fin.base (.id (.tup (asc λx hx=>by
 simp only[List.mem_cons,List.not_mem_nil,or_false]at hx;rcases hx with rfl|rfl|rfl
 .exact zq (ztU _ _)
 .exact .bool _
 .exact .int _ _)))
theorem zjU{A B:Nat}{f:Fm}(h:Gok A B f)(h2:B<=2):Hok (8 * A) (8 * B) f:=by have ha:=h.ra;have hb:=h.rb;exact⟨by rw[h.w];omega,by rw[h.h];omega,om,om,by rw[h.ly,qM];congr 1<;>omega,by rw[h.lu,qM],by rw[h.lv,qM]⟩
theorem zed{s:Sq}{p:Pi}{us:List (Int×List UInt8)}{pa fu fi:Fm}{b:Bool}(h:(zbd s p us pa fu fi b).2=0):∃ A B,DecOk s p pa fu fi b A B/\Gok A B (zbd s p us pa fu fi b).1.1/\(zbd s p us pa fu fi b).1.2.length<=4:=by
 unfold zbd at h |-;by_cases hE:zgz s p pa fu fi b=0
 .obtain⟨A,B,hd⟩:=DecOk.of hE;rw[if_pos hE];have hr:=hd.r;have hB:=hd.rb;refine⟨A,B,hd,?_,?_⟩
  .show Gok A B (zbf s p b us pa fu fi (s.w / 16).toNat _ (zaq s p).toNat).1;rw[hr,Int.toNat_natCast,show(s.w / 16).toNat=A by rw[hd.w];omega];exact zcY hd us (zg1 hd) B (Nat.le_refl _)
  .show(zbf s p b us pa fu fi _ _ (zaq s p).toNat).2.length<=4;rw[zec,hr,Int.toNat_natCast];omega
 .rw[if_neg hE]at h;exact absurd h hE
theorem zrQ(s:Sq)(cs:List Cdd)(pa fu:Fm)(fl:Bool)(hs:SqOk s)(hc:∀ c∈cs,CdOk c)(hn:cs.length<=1000000)(H:za):CallOk qL 6 [.agg (sqc s),.slice (cdL cs) cs.length fl,.agg (fmc pa),.agg (fmc fu)] H (zcD (zls s cs pa fu)) H:=by
 have h1:=zah s;have h2:=zax s hs;have h3:=zbD s hs;have co:=λK=>zt7 s cs fl hs hn K;have F5:∀ g:Fm,(fmc g).all PV.cell=true:=λ_=>rfl;have F7:∀ g:Fm,(fmc g).length=5:=λ_=>rfl;have F8:∀ g:Fm,qI 5 (fmc g)=fmc g:=λ_=>rfl;have Z7:zfr.length=5:=rfl;have F9:∀ g:Fm,List.drop 5 (fmc g)=[]:=λ_=>rfl;have e8:∀ c:Cdd,(cdE c).length=8:=λ_=>rfl;have t8:∀ c:Cdd,qI 8 (cdE c)=cdE c:=λ_=>rfl;unfold zls;refine .go Tryz.func6 Tryz.ntmps6 Tryz.results6 ?_;refine .g (nq2 h1 F5) ?_;refine .m (nq2 h2 h3) co ?_;cases hb:zdv s cs with
 | false=>
  rw[if_neg sp];refine .t ?_;refine .e ?_;refine .ret ⟨.tup [.agg zfr,.bool false,.int .i64 1],by simp(maxSteps:=3000000) (disch:=omega) only[go_sem,zk,zo,qF,qG,qE,qB,qD,qH,zfr],?_⟩;exact zaN _ _ _
 | true=>
  rw[if_pos rfl];refine .us ?_;clear co
  match cs with
  | []=>simp[zdv]at hb
  | c::d::e::r=>simp[zdv]at hb
  | [c]=>
   have hcc:=hc c sp;have de:=λK=>(zf8 s c.p c.U c.us pa fu f0 false hs hcc.n hcc.u K).wk (args:=[.agg (sqc s),.agg (cdE c),.agg (fmc pa++(fmc fu++zfr)),.bool false]) (.cons (.refl _) (.cons (.refl _) (.cons (.agg ((Wkns.refl _).append ((Wkns.refl _).append zi1)) rfl) (.cons (.refl _) .nil))));have hX:=λh=>zed (s:=s) (p:=c.p) (us:=c.us) (pa:=pa) (fu:=fu) (fi:=f0) (b:=false) h;have i0:qI 8 (cdL [c])=cdE c:=rfl;have i1:(cdL [c]).length=8:=rfl;have c8:(cdE c).all PV.cell=true:=rfl;dsimp only;generalize zbd s c.p c.us pa fu f0 false=X at de hX |-;refine .f (λK k=>by simp(maxSteps:=3000000) (disch:=omega) only[go_sem,fmc];exact k) ?_;refine .at [1,4,8,11] (?_:PW _ _ _ [(1,.slice (cdL [c]) 1 fl),(4,.ptr H.length 0 0),(8,.ptr (H.length+3) 0 0),(11,.ptr (H.length+4) 0 0)] (H++[⟨26,0,sqc s⟩,⟨30,0,fmc pa⟩,⟨30,0,fmc fu⟩,⟨30,0,zfr⟩,⟨58,0,fmc pa++(fmc fu++zfr)⟩]) _) rfl rfl;have rl:(fmc pa++(fmc fu++zfr)).length=15:=rfl;have rt:qI 15 (fmc pa++(fmc fu++zfr))=fmc pa++(fmc fu++zfr):=rfl;by_cases h0:X.2=0
   .obtain⟨A,B,hd,hg,hr⟩:=hX h0;rw[if_pos h0];unfold zbw at de;rw[if_pos h0]at de;have al:=λK=>zki X.1.2 false om K;(repeat refine .seq ?_);refine .drawg mix kr λK hK=> ?_;simp(maxSteps:=3000000) (disch:=omega) only[go_sem,h2,h3,i0,i1,rl,rt,e8,t8];refine VCz.call (λ_=>de _) rfl ?_;refine sqx (nq2 F5 (nq2 F7 F8)) ?_;refine hK _ _ ?_;clear hK K;refine .e ?_;refine .us ?_;refine .e ?_;refine .t ?_;(repeat refine .seq ?_);refine .drawi [H.length+3] [(8,[0])] [] [46] mix kr (by simp<;>omega) λK hK=> ?_;refine sqx (nq2 F5 (nq2 F7 F8)) ?_;refine VCj.read (λ_ _=>al _) rfl ?_;simp(maxSteps:=3000000) (disch:=omega) only[go_sem,F5,F7,F8,zfr];refine hK _ _ ?_;clear hK K;refine .ret ⟨zcD (X.1.1,X.1.2.all id,0),by simp(maxSteps:=3000000) (disch:=omega) only[go_sem,zk,zo,qF,qG,qE,qB,qD,qH,F7,F8,zcD],?_⟩;exact zcL _ _ _
   .rw[if_neg h0];unfold zbw at de;rw[if_neg h0]at de;have z7:[PV.int .i64 0,PV.int .i64 0,PV.slice [] 0 true,PV.slice [] 0 true,PV.slice [] 0 true].length=5:=rfl;(repeat refine .seq ?_);refine .drawg mix kr λK hK=> ?_;simp(maxSteps:=3000000) (disch:=omega) only[go_sem,h2,h3,i0,i1,rl,rt,e8,t8];refine VCz.call (λ_=>de _) rfl ?_;refine sqz ?_;refine hK _ _ ?_;clear hK K;have d0:(X.2 !=0)=true:=by simpa using h0
    refine .g d0 ?_;refine .t ?_;refine .f (λK k=>by simp(maxSteps:=3000000) (disch:=omega) only[go_sem,zfr];exact k) ?_;refine .ret ⟨.tup [.agg zfr,.bool false,.int .i64 X.2],by simp(maxSteps:=3000000) (disch:=omega) only[go_sem,zk,zo,qF,qG,qE,qB,qD,qH,zfr],?_⟩;exact zaN _ _ _
  | [c,d]=>
   have hcc:=hc c sp;have hcd:=hc d sp;have de:=λK=>(zf8 s c.p c.U c.us pa fu f0 false hs hcc.n hcc.u K).wk (args:=[.agg (sqc s),.agg (cdE c),.agg (fmc pa++(fmc fu++zfr)),.bool false]) (.cons (.refl _) (.cons (.refl _) (.cons (.agg ((Wkns.refl _).append ((Wkns.refl _).append zi1)) rfl) (.cons (.refl _) .nil))));have hX:=λh=>zed (s:=s) (p:=c.p) (us:=c.us) (pa:=pa) (fu:=fu) (fi:=f0) (b:=false) h;have i0:qI 8 (cdL [c,d])=cdE c:=rfl;have i1:(cdL [c,d]).length=16:=rfl;have i2:qI 8 (List.drop 8 (cdL [c,d]))=cdE d:=rfl;have i5:(cdL [c,d])[1]? =some (.int .i64 c.p.st):=rfl;have c8:∀ c,(cdE c).all PV.cell=true:=λ_=>rfl;dsimp only;generalize zbd s c.p c.us pa fu f0 false=X at de hX |-;refine .f (λK k=>by simp(maxSteps:=3000000) (disch:=omega) only[go_sem,fmc];exact k) ?_;refine .at [1,4,8,11] (?_:PW _ _ _ [(1,.slice (cdL [c,d]) 2 fl),(4,.ptr H.length 0 0),(8,.ptr (H.length+3) 0 0),(11,.ptr (H.length+4) 0 0)] (H++[⟨26,0,sqc s⟩,⟨30,0,fmc pa⟩,⟨30,0,fmc fu⟩,⟨30,0,zfr⟩,⟨58,0,fmc pa++(fmc fu++zfr)⟩]) _) rfl rfl;have rl:∀ x,(fmc pa++(fmc fu++fmc x)).length=15:=λ_=>rfl;have rt:∀ x,qI 15 (fmc pa++(fmc fu++fmc x))=fmc pa++(fmc fu++fmc x):=λ_=>rfl;have rlz:(fmc pa++(fmc fu++zfr)).length=15:=rfl;have rtz:qI 15 (fmc pa++(fmc fu++zfr))=fmc pa++(fmc fu++zfr):=rfl;by_cases h0:X.2=0;rotate_left
   .rw[if_neg h0];unfold zbw at de;rw[if_neg h0]at de;have z7:[PV.int .i64 0,PV.int .i64 0,PV.slice [] 0 true,PV.slice [] 0 true,PV.slice [] 0 true].length=5:=rfl;(repeat refine .seq ?_);refine .drawg mix kr λK hK=> ?_;simp(maxSteps:=3000000) (disch:=omega) only[go_sem,h2,h3,i0,i1,rlz,rtz,e8,t8];refine VCz.call (λ_=>de _) rfl ?_;refine sqz ?_;refine hK _ _ ?_;clear hK K;have d0:(X.2 !=0)=true:=by simpa using h0
    refine .g d0 ?_;refine .t ?_;refine .f (λK k=>by simp(maxSteps:=3000000) (disch:=omega) only[go_sem,zfr];exact k) ?_;refine .ret ⟨.tup [.agg zfr,.bool false,.int .i64 X.2],by simp(maxSteps:=3000000) (disch:=omega) only[go_sem,zk,zo,qF,qG,qE,qB,qD,qH,zfr],?_⟩;exact zaN _ _ _
   obtain⟨A,B,hd,hg,hr⟩:=hX h0;rw[if_pos h0];unfold zbw at de;rw[if_pos h0]at de;have al:=λK=>zki X.1.2 false om K;(repeat refine .seq ?_);refine .drawg mix kr λK hK=> ?_;simp(maxSteps:=3000000) (disch:=omega) only[go_sem,h2,h3,i0,i1,rlz,rtz,e8,t8];refine VCz.call (λ_=>de _) rfl ?_;refine sqx (nq2 F5 (nq2 F7 F8)) ?_;refine hK _ _ ?_;clear hK K;refine .e ?_;refine .us ?_;refine .e ?_;refine .us ?_;clear de hX;have de:=λK=>zf8 s d.p d.U d.us pa fu X.1.1 true hs hcd.n hcd.u K;have hY:=λh=>zed (s:=s) (p:=d.p) (us:=d.us) (pa:=pa) (fu:=fu) (fi:=X.1.1) (b:=true) h;generalize zbd s d.p d.us pa fu X.1.1 true=Y at de hY |-;obtain⟨⟨g,rows⟩,e⟩:=X;simp only at h0 hg hr al de |-;subst h0;refine .f (λK k=>by simp(maxSteps:=3000000) (disch:=omega) only[go_sem,fmc,zfr];exact k) ?_;refine .at [1,4,8,11,12,13] (?_:PW _ _ _ [(1,.slice (cdL [c,d]) 2 fl),(4,.ptr H.length 0 0),(8,.ptr (H.length+3) 0 0),(11,.ptr (H.length+4) 0 0),(12,.ptr (H.length+5) 0 0),(13,.slice (rows.map PV.bool) rows.length false)] (H++[⟨26,0,sqc s⟩,⟨30,0,fmc pa⟩,⟨30,0,fmc fu⟩,⟨30,0,zfr⟩,⟨58,0,fmc pa++(fmc fu++fmc g)⟩,⟨30,0,fmc g⟩]) _) rfl rfl;by_cases k0:Y.2=0;rotate_left
   .rw[if_neg k0];unfold zbw at de;rw[if_neg k0]at de;(repeat refine .seq ?_);refine .drawg mix kr λK hK=> ?_;simp(maxSteps:=3000000) (disch:=omega) only[go_sem,h2,h3,i1,i2,rl,rt,e8,t8];refine VCz.call (λ_=>de _) rfl ?_;refine sqz ?_;refine hK _ _ ?_;clear hK K;have d0:(Y.2 !=0)=true:=by simp_all
    refine .g d0 ?_;refine .t ?_;refine .f (λK k=>by simp(maxSteps:=3000000) (disch:=omega) only[go_sem,zfr];exact k) ?_;refine .ret ⟨.tup [.agg zfr,.bool false,.int .i64 Y.2],by simp(maxSteps:=3000000) (disch:=omega) only[go_sem,zk,zo,qF,qG,qE,qB,qD,qH,zfr],?_⟩;exact zaN _ _ _
   obtain⟨A',B',hd',hg',hr'⟩:=hY k0;rw[if_pos k0];unfold zbw at de;rw[if_pos k0]at de;obtain⟨⟨g2,more⟩,e⟩:=Y;simp only at k0 hg' hr' de |-;subst k0;have al2:=λK=>zki more false om K;(repeat refine .seq ?_);refine .drawg mix kr λK hK=> ?_;simp(maxSteps:=3000000) (disch:=omega) only[go_sem,h2,h3,i1,i2,rl,rt,e8,t8];refine VCz.call (λ_=>de _) rfl ?_;refine sqx (nq2 F5 (nq2 F7 F8)) ?_;refine hK _ _ ?_;clear hK K;clear de hY;refine .e ?_;refine .us ?_;unfold zdv at hb;simp only[List.all_cons,List.all_nil,Bool.and_true,Bool.and_eq_true]at hb;obtain⟨⟨v1,v2⟩,hl,hpr⟩:=hb;unfold zc3 at hpr;simp only[Bool.and_eq_true,Bool.not_eq_true',beq_eq_false_iff_ne,beq_iff_eq]at hpr;have eA:A'=A:=by have:=hd.w;have:=hd'.w;omega
   have e32:=(hd.h4 hpr.1).1;have e32':=(hd'.h4 hpr.2.1).1;have eB:B'=B:=om;subst eA eB;have h64:=(zaC v1).2.1;have k1:=zjU hg om;have k2:=zjU hg' om;have w0:∀ a b:Fm,Gok A' B' a->zik a b=zi6 (8 * A') (8 * B') a b:=λa b ha=>by unfold zik;rw[show(a.w / 2).toNat=8 * A' by rw[ha.w];omega,show(a.h / 2).toNat=8 * B' by rw[ha.h];omega]
   have we1:=λK=>zhd (8 * A') (8 * B') g g2 k1 k2 K;have we2:=λK=>zhd (8 * A') (8 * B') g2 g k2 k1 K;rw[<-w0 g g2 hg]at we1;rw[<-w0 g2 g hg']at we2;generalize zik g g2=W1 at we1 |-;generalize zik g2 g=W2 at we2 |-;refine .view (Vs.place 30) (PW.view (Vs.place 30) ?_);refine .at [1,8,12,13,15,16] (?_:PW _ _ _ [(1,.slice (cdL [c,d]) 2 fl),(8,.ptr (H.length+3) 0 0),(12,.ptr (H.length+5) 0 0),(13,.slice (rows.map PV.bool) rows.length false),(15,.ptr (H.length+6) 0 0),(16,.slice (more.map PV.bool) more.length false)] (H++[⟨26,0,sqc s⟩,⟨30,0,fmc pa⟩,⟨30,0,fmc fu⟩,⟨30,0,zfr⟩,⟨58,0,fmc pa++(fmc fu++fmc g)⟩,⟨30,0,fmc g⟩,⟨30,0,fmc g2⟩,⟨30,0,[]⟩,⟨30,0,[]⟩]) _) rfl sp;(repeat refine .seq ?_);refine .drawi [H.length+7,H.length+8] [(17,[0]),(18,[1])] [(17,0),(18,1)] [] mix kr (by simp<;>omega) λK hK=> ?_;refine sqx (nq2 F5 (nq2 F7 F8)) ?_;refine hK _ _ ?_;clear hK K;refine .g (nq2 i1 i5) ?_;refine .c (λh=> ?_) (λh=> ?_)
   .have hst:c.p.st=2:=by simpa using h
    rw[if_pos hst];(repeat refine .seq ?_);refine .drawi [H.length+7,H.length+8] [(17,[0]),(18,[1])] [] [] mix kr (by simp<;>omega) λK hK=> ?_;simp(maxSteps:=3000000) (disch:=omega) only[go_sem,F5,F7,F8,F9,qA];refine hK _ _ ?_;clear hK K;refine .f (λK k=>by simp(maxSteps:=3000000) (disch:=omega) only[go_sem,F5,F7,F8,F9,qA];refine VCx.call (we2 _) rfl ?_;simp(maxSteps:=3000000) (disch:=omega) only[go_sem,F5,F7,F8,F9,qA];exact k) ?_;refine .e ?_;refine .us ?_;cases hall:rows.all id with
    | false=>
     rw[hall]at al;(repeat refine .seq ?_);refine .drawi [H.length+3] [(8,[0])] [] [85,88] mix kr (by simp<;>omega) λK hK=> ?_;simp(maxSteps:=3000000) (disch:=omega) only[go_sem,F5,F7,F8,F9,qA];refine VCj.read (λ_ _=>al _) rfl ?_;simp(maxSteps:=3000000) (disch:=omega) only[go_sem,F5,F7,F8,F9,qA,zfr];refine hK _ _ ?_;clear hK K;refine .ret ⟨zcD (W2,false,0),by simp(maxSteps:=3000000) (disch:=omega) only[go_sem,zk,zo,qF,qG,qE,qB,qD,qH,F7,F8,zcD],?_⟩;exact zcL _ _ _
    | true=>rw[hall]at al;(repeat refine .seq ?_);refine .drawi [H.length+3] [(8,[0])] [] [85,88] mix kr (by simp<;>omega) λK hK=> ?_;simp(maxSteps:=3000000) (disch:=omega) only[go_sem,F5,F7,F8,F9,qA];refine VCj.read (λ_ _=>al _) rfl ?_;simp(maxSteps:=3000000) (disch:=omega) only[go_sem,F5,F7,F8,F9,qA];refine VCj.read (λ_ _=>al2 _) rfl ?_;simp(maxSteps:=3000000) (disch:=omega) only[go_sem,F5,F7,F8,F9,qA,zfr];refine hK _ _ ?_;clear hK K;refine .ret ⟨zcD (W2,more.all id,0),by simp(maxSteps:=3000000) (disch:=omega) only[go_sem,zk,zo,qF,qG,qE,qB,qD,qH,F7,F8,zcD],?_⟩;exact zcL _ _ _
   .have hst:¬ c.p.st=2:=by simpa using h
    rw[if_neg hst];refine .skip ?_;refine .f (λK k=>by simp(maxSteps:=3000000) (disch:=omega) only[go_sem,F5,F7,F8,F9,qA];refine VCx.call (we1 _) rfl ?_;simp(maxSteps:=3000000) (disch:=omega) only[go_sem,F5,F7,F8,F9,qA];exact k) ?_;refine .e ?_;refine .us ?_;cases hall:rows.all id with
    | false=>
     rw[hall]at al;(repeat refine .seq ?_);refine .drawi [H.length+3] [(8,[0])] [] [85,88] mix kr (by simp<;>omega) λK hK=> ?_;simp(maxSteps:=3000000) (disch:=omega) only[go_sem,F5,F7,F8,F9,qA];refine VCj.read (λ_ _=>al _) rfl ?_;simp(maxSteps:=3000000) (disch:=omega) only[go_sem,F5,F7,F8,F9,qA,zfr];refine hK _ _ ?_;clear hK K;refine .ret ⟨zcD (W1,false,0),by simp(maxSteps:=3000000) (disch:=omega) only[go_sem,zk,zo,qF,qG,qE,qB,qD,qH,F7,F8,zcD],?_⟩;exact zcL _ _ _
    | true=>rw[hall]at al;(repeat refine .seq ?_);refine .drawi [H.length+3] [(8,[0])] [] [85,88] mix kr (by simp<;>omega) λK hK=> ?_;simp(maxSteps:=3000000) (disch:=omega) only[go_sem,F5,F7,F8,F9,qA];refine VCj.read (λ_ _=>al _) rfl ?_;simp(maxSteps:=3000000) (disch:=omega) only[go_sem,F5,F7,F8,F9,qA];refine VCj.read (λ_ _=>al2 _) rfl ?_;simp(maxSteps:=3000000) (disch:=omega) only[go_sem,F5,F7,F8,F9,qA,zfr];refine hK _ _ ?_;clear hK K;refine .ret ⟨zcD (W1,more.all id,0),by simp(maxSteps:=3000000) (disch:=omega) only[go_sem,zk,zo,qF,qG,qE,qB,qD,qH,F7,F8,zcD],?_⟩;exact zcL _ _ _
end Go.Proofs.YtdajpjenhcobkaaGreatDoor.Sc
