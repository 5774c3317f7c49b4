/-
  Parts of the proof. No condition.
-/
import Derived.Test.YtdajpjenhcobkaaGreatDoorX05
open Bool renaming eq_iff_iff → qF
open List renaming all_eq_true → qB, replicate → qE, mem_range → qG, drop_succ_cons → qI
open Nat renaming strongRecOn → qD, beq → qH
open Go.Proofs.Tryz renaming prog → qA
set_option linter.all false
set_option maxRecDepth 100000
set_option maxHeartbeats 32000000
namespace Go.Proofs.YtdajpjenhcobkaaGreatDoor.Sc
open Pm Ty Go.RowKit
theorem zhe(x y:Int)(H:za):CallOk qA 218 [.agg [.int .i64 x,.int .i64 y]] H (.bool (vrg x y)) H:=by refine .go Tryz.func218 Tryz.ntmps218 Tryz.results218 ?_;(repeat'(first|refine .seq ?_|((refine .rg rfl λK hK=> ?_);simp(disch:=omega) only[go_sem])|((refine zg ?_ ?_)<;>intro h<;>(try simp only[nqb]at h)<;>simp(disch:=omega) only[go_sem,h])|((first|refine VCx.call (zfD x 63 _ om) rfl ?_|refine VCx.call (zfD y 63 _ om) rfl ?_);simp(disch:=omega) only[go_sem])|(refine hK _ _ ?_;clear hK K)));all_goals((refine .ret ⟨_,rfl,?_⟩;refine .base (.id' ?_ (.bool _)));(simp_all[vrg,slot,qH]))
theorem zde(x y:Int)(H:za):CallOk qA 251 [.agg [.int .i64 x,.int .i64 y]] H (.bool (vrg x y)) H:=by refine .go Tryz.func251 Tryz.ntmps251 Tryz.results251 ?_;(repeat'(first|refine .seq ?_|refine .skip ?_|refine .block ?_|((first|refine .rg rfl λK hK=> ?_|refine .draw mix kr λK hK=> ?_);simp(disch:=omega) only[go_sem])|((first|refine zg ?_ ?_|refine zB ?_ ?_|refine And.intro ?_ ?_)<;>intro h<;>(try simp only[nqb]at h)<;>simp(disch:=omega) only[go_sem,h])|(refine hK _ _ ?_;clear hK K)|(refine .cond (t:=_) rfl (λh=> ?_) (λh=> ?_)<;>(try(cases h;done))<;>(try simp only[nqb]at h))));all_goals((refine .ret ⟨_,rfl,?_⟩;first|refine .inl ⟨?_,rfl⟩|refine .base (.id' ?_ (.bool _))|refine .base (.id' ?_ (.int _ _)));(simp_all[vrg,win,slot,qH]<;>first|rfl|omega|(rw[qF];simp;done)|(rw[qF];simp;omega)))
theorem zxF(m:Mb)(i:Nat)(H:za)(hi:H[i]? =some (mB m)):CallOk qA 229 [.ptr i 0 0] H (.bool (hlM m)) H:=by obtain⟨k,ua,ub,fp,fd,va,vb,vc,vd,ve,vf,vg,vh,sa,sb,sc,sd,dl,ca,cb,cc,cd,ce,cf,lv⟩:=m;simp only[mB,mbc]at hi;refine .go Tryz.func229 Tryz.ntmps229 Tryz.results229 ?_;(repeat'(first|refine .seq ?_|((refine .rg rfl λK hK=> ?_);simp(disch:=omega) only[go_sem,hi])|((refine zg ?_ ?_)<;>intro h<;>(try simp only[nqb]at h)<;>simp(disch:=omega) only[go_sem,hi,h])|(refine hK _ _ ?_;clear hK K)));all_goals((refine .ret ⟨_,rfl,?_⟩;refine .inl ⟨?_,rfl⟩);clear hi;cases ca<;>cases cb<;>cases cc<;>cases cd<;>cases ce<;>cases cf<;>(simp_all[hlM,zgA,slot,qH]))
theorem zl4(c:Cx)(m:Mb)(i:Nat)(H:za)(hi:H[i]? =some (mB m)):CallOk qA 267 [.agg (cxc c),.ptr i 0 0] H (.bool (m.fp||fcx c)) H:=by obtain⟨k,ua,ub,fp,fd,va,vb,vc,vd,ve,vf,vg,vh,sa,sb,sc,sd,dl,ca,cb,cc,cd,ce,cf,lv⟩:=m;simp only[mB,mbc]at hi;have hx:=λK=>zay (K:=K) hi;have fo:=λH=>zmP c H;obtain⟨t,s,ii,n⟩:=c;refine .body (F0:=[(0,.agg [.int .i64 t,.int .i64 s,.bool ii,.bool n]),(1,.ptr i 0 0)]) Tryz.func267 rfl Tryz.ntmps267 Tryz.results267 rfl kr rfl ?_;(repeat'(first|refine .seq ?_|((refine .rg rfl λK hK=> ?_);simp(disch:=omega) only[go_sem,hi,hx])|((refine zg ?_ ?_)<;>intro h<;>(try simp only[nqb]at h)<;>simp(disch:=omega) only[go_sem,hi,hx,h])|((refine VCx.call (fo _) rfl ?_);simp(disch:=omega) only[go_sem,hi,hx])|(refine hK _ _ ?_;clear hK K)));all_goals((refine .ret ⟨_,rfl,?_⟩;refine .base (.id' ?_ (.bool _)));clear hi hx fo;(simp_all[slot,qH]))
theorem zn1(m:Mb)(H:za)(hl:m.lv.length=384):CallOk qA 249 [.agg (mbc m)] H (.bool (hlM m)) H:=by
 obtain⟨k,ua,ub,fp,fd,va,vb,vc,vd,ve,vf,vg,vh,sa,sb,sc,sd,dl,ca,cb,cc,cd,ce,cf,lv⟩:=m;have hall:(is lv).all PV.cell=true:=by simp[is,PV.cell]
 refine .body (F0:=[(0,.agg (.int .i64 k:: .bool ua:: .bool ub:: .bool fp:: .bool fd:: .int .i64 va:: .int .i64 vb:: .int .i64 vc:: .int .i64 vd:: .int .i64 ve:: .int .i64 vf:: .int .i64 vg:: .int .i64 vh:: .int .i64 sa:: .int .i64 sb:: .int .i64 sc:: .int .i64 sd:: .int .i64 dl:: .bool ca:: .bool cb:: .bool cc:: .bool cd:: .bool ce:: .bool cf::is lv))]) Tryz.func249 rfl Tryz.ntmps249 Tryz.results249 rfl kr rfl ?_;(repeat'(first|refine .seq ?_|refine .skip ?_|refine .block ?_|((first|refine .rg rfl λK hK=> ?_|refine .draw mix kr λK hK=> ?_);simp(disch:=omega) only[go_sem,hall])|((first|refine zg ?_ ?_|refine zB ?_ ?_|refine And.intro ?_ ?_)<;>intro h<;>(try simp only[nqb]at h)<;>simp(disch:=omega) only[go_sem,hall,h])|(refine hK _ _ ?_;clear hK K)|(refine .cond (t:=_) rfl (λh=> ?_) (λh=> ?_)<;>(try(cases h;done))<;>(try simp only[nqb]at h))));all_goals((refine .ret ⟨_,rfl,?_⟩;first|refine .inl ⟨?_,rfl⟩|refine .base (.id' ?_ (.bool _))|refine .base (.id' ?_ (.int _ _)));cases ca<;>cases cb<;>cases cc<;>cases cd<;>cases ce<;>cases cf<;>(simp_all[hlM,zgA,slot,qH]<;>first|rfl|omega|(rw[qF];simp;done)|(rw[qF];simp;omega)))
theorem zws(c:Cx)(m:Mb)(i:Nat)(H:za)(hi:H[i]? =some (mB m)):CallOk qA 144 [.agg (cxc c),.ptr i 0 0] H (.bool (fch c m)) H:=by
 have hlo:=λK=>zxF m i (H++K) (zay hi);have bo:=λH=>zkg c H;have hfc:fch c m=if hlM m then(bcx c|| !m.fd)&&win m.dl 30 else !m.fd&&decide (m.dl=0):=rfl
 generalize fch c m=r at hfc |-;generalize hlM m=h1 at hlo hfc;obtain⟨k,ua,ub,fp,fd,va,vb,vc,vd,ve,vf,vg,vh,sa,sb,sc,sd,dl,ca,cb,cc,cd,ce,cf,lv⟩:=m;simp only[mB,mbc]at hi hfc;have hx:=λK=>zay (K:=K) hi;generalize bcx c=b1 at bo hfc;obtain⟨t,s,ii,n⟩:=c;have wo:=λH=>zfD dl 30 H om;generalize win dl 30=w1 at wo hfc;refine .body (F0:=[(0,.agg [.int .i64 t,.int .i64 s,.bool ii,.bool n]),(1,.ptr i 0 0)]) Tryz.func144 rfl Tryz.ntmps144 Tryz.results144 rfl kr rfl ?_;(repeat'(first|refine .seq ?_|refine .skip ?_|((refine .rg rfl λK hK=> ?_);simp(disch:=omega) only[go_sem,hx])|((refine zg ?_ ?_)<;>intro h<;>(try simp only[nqb]at h)<;>simp(disch:=omega) only[go_sem,hx,h])|((first|refine VCx.call (hlo _) rfl ?_|refine VCx.call (bo _) rfl ?_|refine VCx.call (wo _) rfl ?_);simp(disch:=omega) only[go_sem,hx])|(refine hK _ _ ?_;clear hK K)|(refine .cond (t:=_) rfl (λh=> ?_) (λh=> ?_)<;>(try(cases h;done))<;>(try simp only[nqb]at h))));all_goals((refine .ret ⟨_,rfl,?_⟩;refine .base (.id' ?_ (.bool _)));clear hi hx hlo bo wo;subst hfc;(simp_all[slot,qH]<;>rfl))
theorem zt(l:List Int):(is l).all PV.cell=true:=by unfold is;rw[List.all_map];exact qB.2 λx _=>rfl
def lvr(lv:List Int):Bool:=(List.range 384).all λq=>win (ze lv q) 4095
theorem zrt{lv:List Int}{q:Nat}(h:q<384)(hw:win (ze lv q) 4095=false):lvr lv=false:=by grind[lvr,qB.1,qG.2]
theorem zgT{lv:List Int}(h:∀ q,q<384->win (ze lv q) 4095=true):lvr lv=true:=qB.2 λq hq=>h q (qG.1 hq)
theorem zmY(lv:List Int)(n j:Nat)(hj:j<64):ze ((lv.drop (n * 64)).take 64) j=ze lv (n * 64+j):=by simp_all[ze,List.getD,List.getElem?_take,List.getElem?_drop]
theorem zg6(lv:List Int)(n:Nat)(hl:lv.length=384)(hn:n<6):((lv.drop (n * 64)).take 64).length=64:=by simp;omega
theorem zv9(m:Mb)(i:Nat)(H:za)(hi:H[i]? =some (mB m))(hl:m.lv.length=384):CallOk qA 145 [.ptr i 0 0] H (.bool (lvr m.lv)) H:=by
 obtain⟨k,ua,ub,fp,fd,va,vb,vc,vd,ve,vf,vg,vh,sa,sb,sc,sd,dl,ca,cb,cc,cd,ce,cf,lv⟩:=m;simp only[mB,mbc]at hi hl |-;have hdrop:∀ n:Nat,List.drop (24+n * 64) (.int .i64 k:: .bool ua:: .bool ub:: .bool fp:: .bool fd:: .int .i64 va:: .int .i64 vb:: .int .i64 vc:: .int .i64 vd:: .int .i64 ve:: .int .i64 vf:: .int .i64 vg:: .int .i64 vh:: .int .i64 sa:: .int .i64 sb:: .int .i64 sc:: .int .i64 sd:: .int .i64 dl:: .bool ca:: .bool cb:: .bool cc:: .bool cd:: .bool ce:: .bool cf::is lv)=is (lv.drop (n * 64)):=λn=>by rw[show 24+n * 64=n * 64+24 from om];simp_all[qI,zek]
 refine .go Tryz.func145 Tryz.ntmps145 Tryz.results145 ?_;refine .e ?_;refine .e ?_;refine .l ?_;suffices hloop:∀(n:Nat),n<=6->(∀ q,q<n * 64->win (ze lv q) 4095=true)->PL qA _ _ [(0,.ptr i 0 0),(6,.int .i64 (n:Int))] H _ by exact .at [0,6] (hloop 0 om (λq hq=>om)) rfl rfl
 intro n hn hq;induction hm:6 - n using qD generalizing n with
 | _ m ih=>
  refine .round ?_;refine .e ?_;refine .c (λh=> ?_) (λh=> ?_)
  .have h4:n<6:=by grind
   have hbl:=zg6 lv n hl h4;have hcel:=zt ((lv.drop (n * 64)).take 64);have hnx:=ih (6 - (n+1)) om (n+1) om;refine .skip ?_;refine .b ?_;refine .e ?_;refine .f (λK k=>by simp(disch:=omega) only[go_sem,hi,hdrop,zdr,zj,hbl,hcel];exact k) ?_;have hat:=zmY lv n;generalize (lv.drop (n * 64)).take 64=bl at *;refine .l ?_;clear ih;suffices hloop:∀(j:Nat),j<=64->(∀ q,q<n * 64+j->win (ze lv q) 4095=true)->PL qA _ _ [(0,.ptr i 0 0),(6,.int .i64 (n:Int)),(14,.agg (is bl)),(15,.int .i64 (j:Int))] H _ by exact .at [0,6,14,15] (hloop 0 om (λq hq'=>hq q om)) rfl rfl
   intro j hj hq2;induction hm2:64 - j using qD generalizing j with
   | _ m2 ih=>
    refine .round ?_;refine .e ?_;refine .c (λh=> ?_) (λh=> ?_)
    .have h5:j<64:=by grind
     have hw:=λH=>zfD (ze bl j) 4095 H om;refine .skip ?_;refine .b ?_;refine .f (λK k=>by simp(disch:=omega) only[go_sem,zQ,zj,hbl];exact k) ?_;refine .k hw ?_;refine .c (λh=> ?_) (λh=> ?_)
     .have h6:win (ze bl j) 4095=false:=by simpa using h
      refine .e ?_;refine .ret ⟨_,rfl,?_⟩;rw[zrt (q:=n * 64+j) om (by rw[<-hat j h5];exact h6)];exact .now
     .have h6:win (ze bl j) 4095=true:=by simpa using h
      refine .skip ?_;refine .e ?_;refine .at [0,6,14,15] (ih (64 - (j+1)) om (j+1) om (λq hq'=> ?_) rfl) rfl rfl;grind
    .have h5:j=64:=by grind
     subst h5;refine .exit ?_;refine .e ?_;exact .at [0,6] (hnx (λq hq'=>hq2 q om) rfl) rfl rfl
  .have h4:n=6:=by grind
   subst h4;refine .exit ?_;refine .e ?_;refine .ret ⟨_,rfl,?_⟩;rw[zgT (λq hq'=>hq q om)];exact .now
theorem znH(m:Mb)(H:za)(hl:m.lv.length=384):CallOk qA 172 [.agg (mbc m)] H (.bool (lvr m.lv)) H:=by
 obtain⟨k,ua,ub,fp,fd,va,vb,vc,vd,ve,vf,vg,vh,sa,sb,sc,sd,dl,ca,cb,cc,cd,ce,cf,lv⟩:=m;simp only at hl |-;have hall:=zt lv;have hget:∀ x:Nat,(.int .i64 k:: .bool ua:: .bool ub:: .bool fp:: .bool fd:: .int .i64 va:: .int .i64 vb:: .int .i64 vc:: .int .i64 vd:: .int .i64 ve:: .int .i64 vf:: .int .i64 vg:: .int .i64 vh:: .int .i64 sa:: .int .i64 sb:: .int .i64 sc:: .int .i64 sd:: .int .i64 dl:: .bool ca:: .bool cb:: .bool cc:: .bool cd:: .bool ce:: .bool cf::is lv)[24+x]? =(is lv)[x]? :=λx=>by rw[show 24+x=x+24 from om];rfl
 refine .body (F0:=[(0,.agg (.int .i64 k:: .bool ua:: .bool ub:: .bool fp:: .bool fd:: .int .i64 va:: .int .i64 vb:: .int .i64 vc:: .int .i64 vd:: .int .i64 ve:: .int .i64 vf:: .int .i64 vg:: .int .i64 vh:: .int .i64 sa:: .int .i64 sb:: .int .i64 sc:: .int .i64 sd:: .int .i64 dl:: .bool ca:: .bool cb:: .bool cc:: .bool cd:: .bool ce:: .bool cf::is lv))]) Tryz.func172 rfl Tryz.ntmps172 Tryz.results172 rfl kr rfl ?_;refine .g hall ?_;refine .e ?_;refine .l ?_;suffices hloop:∀(n:Nat),n<=6->(∀ q,q<n * 64->win (ze lv q) 4095=true)->PL qA _ _ [(1,.ptr H.length 0 0),(3,.int .i64 (n:Int))] (H++[⟨109,0,.int .i64 k:: .bool ua:: .bool ub:: .bool fp:: .bool fd:: .int .i64 va:: .int .i64 vb:: .int .i64 vc:: .int .i64 vd:: .int .i64 ve:: .int .i64 vf:: .int .i64 vg:: .int .i64 vh:: .int .i64 sa:: .int .i64 sb:: .int .i64 sc:: .int .i64 sd:: .int .i64 dl:: .bool ca:: .bool cb:: .bool cc:: .bool cd:: .bool ce:: .bool cf::is lv⟩]) _ by exact .at [1,3] (hloop 0 om (λq hq=>om)) rfl rfl
 intro n hn hq;induction hm:6 - n using qD generalizing n with
 | _ m ih=>
  refine .round ?_;refine .e ?_;refine .c (λh=> ?_) (λh=> ?_)
  .have h4:n<6:=by grind
   have hnx:=ih (6 - (n+1)) om (n+1) om;refine .skip ?_;refine .b ?_;refine .e ?_;refine .l ?_;clear ih;suffices hloop:∀(j:Nat),j<=64->(∀ q,q<n * 64+j->win (ze lv q) 4095=true)->PL qA _ _ [(1,.ptr H.length 0 0),(3,.int .i64 (n:Int)),(4,.int .i64 (j:Int))] (H++[⟨109,0,.int .i64 k:: .bool ua:: .bool ub:: .bool fp:: .bool fd:: .int .i64 va:: .int .i64 vb:: .int .i64 vc:: .int .i64 vd:: .int .i64 ve:: .int .i64 vf:: .int .i64 vg:: .int .i64 vh:: .int .i64 sa:: .int .i64 sb:: .int .i64 sc:: .int .i64 sd:: .int .i64 dl:: .bool ca:: .bool cb:: .bool cc:: .bool cd:: .bool ce:: .bool cf::is lv⟩]) _ by exact .at [1,3,4] (hloop 0 om (λq hq'=>hq q om)) rfl rfl
   intro j hj hq2;induction hm2:64 - j using qD generalizing j with
   | _ m2 ih=>
    refine .round ?_;refine .e ?_;refine .c (λh=> ?_) (λh=> ?_)
    .have h5:j<64:=by grind
     have hw:=λH=>zgC (ze lv (n * 64+j)) H;have hg2:(.int .i64 k:: .bool ua:: .bool ub:: .bool fp:: .bool fd:: .int .i64 va:: .int .i64 vb:: .int .i64 vc:: .int .i64 vd:: .int .i64 ve:: .int .i64 vf:: .int .i64 vg:: .int .i64 vh:: .int .i64 sa:: .int .i64 sb:: .int .i64 sc:: .int .i64 sd:: .int .i64 dl:: .bool ca:: .bool cb:: .bool cc:: .bool cd:: .bool ce:: .bool cf::is lv)[24+n * 64+j]? =some (.int .i64 (ze lv (n * 64+j))):=by rw[Nat.add_assoc,hget,zQ _ _ om]
     refine .skip ?_;refine .b ?_;refine .m hg2 hw ?_;refine .c (λh=> ?_) (λh=> ?_)
     .have h6:win (ze lv (n * 64+j)) 4095=false:=by simpa using h
      refine .e ?_;refine .ret ⟨_,rfl,?_⟩;rw[zrt (q:=n * 64+j) om h6];exact .base (.id (.bool _))
     .have h6:win (ze lv (n * 64+j)) 4095=true:=by simpa using h
      refine .skip ?_;refine .e ?_;refine .at [1,3,4] (ih (64 - (j+1)) om (j+1) om (λq hq'=> ?_) rfl) rfl rfl;grind
    .have h5:j=64:=by grind
     subst h5;refine .exit ?_;refine .e ?_;exact .at [1,3] (hnx (λq hq'=>hq2 q om) rfl) rfl rfl
  .have h4:n=6:=by grind
   subst h4;refine .exit ?_;refine .e ?_;refine .ret ⟨_,rfl,?_⟩;rw[zgT (λq hq'=>hq q om)];exact .base (.id (.bool _))
def zbk(lv:List Int)(n:Nat):Bool:=(lv.drop (n * 64)).take 64==qE 64 0
def cdl(m:Mb):List Bool:=[m.ca,m.cb,m.cc,m.cd,m.ce,m.cf]
def fbl(cs:List Bool)(lv:List Int):Bool:=(List.range 6).all λn=>zN cs n !=zbk lv n
theorem zr3{cs:List Bool}{lv:List Int}{q:Nat}(h:q<6)(hw:zN cs q=zbk lv q):fbl cs lv=false:=by
 cases hc:fbl cs lv with
 | false=>rfl
 | true=>have:=qB.1 hc q (qG.2 h);rw[hw]at this;simp at this
theorem zj4{cs:List Bool}{lv:List Int}(h:∀ q,q<6->zN cs q≠zbk lv q):fbl cs lv=true:=qB.2 λq hq=>by have:=h q (qG.1 hq);simpa using this
theorem zwt(m:Mb)(i:Nat)(H:za)(hi:H[i]? =some (mB m))(hl:m.lv.length=384):CallOk qA 147 [.ptr i 0 0] H (.bool (fbl (cdl m) m.lv)) H:=by
 obtain⟨k,ua,ub,fp,fd,va,vb,vc,vd,ve,vf,vg,vh,sa,sb,sc,sd,dl,ca,cb,cc,cd,ce,cf,lv⟩:=m;simp only[mB,mbc,cdl]at hi hl |-;have hdrop:∀ n:Nat,List.drop (24+n * 64) (.int .i64 k:: .bool ua:: .bool ub:: .bool fp:: .bool fd:: .int .i64 va:: .int .i64 vb:: .int .i64 vc:: .int .i64 vd:: .int .i64 ve:: .int .i64 vf:: .int .i64 vg:: .int .i64 vh:: .int .i64 sa:: .int .i64 sb:: .int .i64 sc:: .int .i64 sd:: .int .i64 dl:: .bool ca:: .bool cb:: .bool cc:: .bool cd:: .bool ce:: .bool cf::is lv)=is (lv.drop (n * 64)):=λn=>by rw[show 24+n * 64=n * 64+24 from om];simp only[qI];exact zek _ _
 obtain⟨cs,hcs⟩:∃ cs,cs=[ca,cb,cc,cd,ce,cf]:=⟨_,rfl⟩;have hcl:cs.length=6:=by rw[hcs];rfl
 refine .go Tryz.func147 Tryz.ntmps147 Tryz.results147 ?_;refine .e ?_;refine .g hi ?_;refine .l ?_;rw[<-hcs];suffices hloop:∀(n:Nat),n<=6->(∀ q,q<n->zN cs q≠zbk lv q)->PL qA _ _ [(0,.ptr i 0 0),(8,.agg (fs cs)),(9,.int .i64 (n:Int))] H _ by exact .at [0,8,9] (hloop 0 om (λq hq=>om)) (by rw[hcs];rfl) rfl
 clear hcs;intro n hn hq;induction hm:6 - n using qD generalizing n with
 | _ m ih=>
  refine .round ?_;refine .e ?_;refine .c (λh=> ?_) (λh=> ?_)
  .have h4:n<6:=ot h;have hbl:=zg6 lv n hl h4;have hcel:=zt ((lv.drop (n * 64)).take 64);have hnx:=ih (6 - (n+1)) om (n+1) om;have hzb:zbk lv n=((lv.drop (n * 64)).take 64==qE 64 0):=rfl;refine .skip ?_;refine .b ?_;refine .f (λK k=>by simp(disch:=omega) only[go_sem,zmM,zwp,hcl];exact k) ?_;generalize hbb:(lv.drop (n * 64)).take 64=bl at *;have hpq:ze9 (.int .i64) (is bl) [.int .i64 0,.int .i64 0,.int .i64 0,.int .i64 0,.int .i64 0,.int .i64 0,.int .i64 0,.int .i64 0,.int .i64 0,.int .i64 0,.int .i64 0,.int .i64 0,.int .i64 0,.int .i64 0,.int .i64 0,.int .i64 0,.int .i64 0,.int .i64 0,.int .i64 0,.int .i64 0,.int .i64 0,.int .i64 0,.int .i64 0,.int .i64 0,.int .i64 0,.int .i64 0,.int .i64 0,.int .i64 0,.int .i64 0,.int .i64 0,.int .i64 0,.int .i64 0,.int .i64 0,.int .i64 0,.int .i64 0,.int .i64 0,.int .i64 0,.int .i64 0,.int .i64 0,.int .i64 0,.int .i64 0,.int .i64 0,.int .i64 0,.int .i64 0,.int .i64 0,.int .i64 0,.int .i64 0,.int .i64 0,.int .i64 0,.int .i64 0,.int .i64 0,.int .i64 0,.int .i64 0,.int .i64 0,.int .i64 0,.int .i64 0,.int .i64 0,.int .i64 0,.int .i64 0,.int .i64 0,.int .i64 0,.int .i64 0,.int .i64 0,.int .i64 0]=some (bl==qE 64 0):=ze8 .i64 bl (qE 64 0) (by rw[hbl];simp);generalize (bl==qE 64 0)=zz at *;(repeat refine .seq ?_);refine .rg rfl λK hK=> ?_;simp(disch:=omega) only[go_sem,hi,hdrop,zdr,hbb,zj,hbl,hcel,hpq];refine hK _ _ ?_;clear hK K;refine .c (λh=> ?_) (λh=> ?_)
   .have h6:zN cs n=zz:=by simpa using h
    refine .e ?_;refine .ret ⟨_,rfl,?_⟩;rw[zr3 h4 (by rw[hzb];exact h6)];exact .now
   .have h6:zN cs n≠zz:=by simpa using h
    refine .skip ?_;refine .e ?_;refine .at [0,8,9] (hnx (λq hq'=> ?_) rfl) rfl rfl;by_cases e:q=n
    .rw[e,hzb];exact h6
    .exact hq q om
  .have h4:n=6:=ofF h;subst h4;refine .exit ?_;refine .e ?_;refine .ret ⟨_,rfl,?_⟩;rw[zj4 hq];exact .now
end Go.Proofs.YtdajpjenhcobkaaGreatDoor.Sc
