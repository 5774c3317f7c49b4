/-
  Parts of the proof. No condition.
-/
import Derived.Test.YtleejngibkbjnaaGreatDoorW04
open Go.Proofs.YtleejngibkbjnaaGreatDoor.Pm.PV renaming int → O
open Go.IntKind renaming i64 → J
open List renaming replicate → qD
open Nat renaming beq → qA, strongRecOn → qB
open Go.Proofs.Tryz
set_option linter.all false
set_option maxRecDepth 100000
set_option maxHeartbeats 32000000
namespace Go.Proofs.YtleejngibkbjnaaGreatDoor.Sc
open Pm Ty Go.RowKit
structure Cx where
 t:Int
 s:Int
 i:Bool
 n:Bool
def cxc(c:Cx):List PV:=[O J c.t,O J c.s,.bool c.i,.bool c.n]
def vcx(c:Cx):Bool:=decide (1<=c.t)&&(decide (c.t<=3)&&(decide (1<=c.s)&&(decide (c.s<=3)&&(if c.s=3 then !c.n else c.i))))
def fcx(c:Cx):Bool:=decide (c.s≠3)
def bcx(c:Cx):Bool:=c.i&&decide (c.s=3)
structure Mb where
 k:Int
 ua:Bool
 ub:Bool
 fp:Bool
 fd:Bool
 va:Int
 vb:Int
 vc:Int
 vd:Int
 ve:Int
 vf:Int
 vg:Int
 vh:Int
 sa:Int
 sb:Int
 sc:Int
 sd:Int
 dl:Int
 ca:Bool
 cb:Bool
 cc:Bool
 cd:Bool
 ce:Bool
 cf:Bool
 lv:List Int
def mbc(m:Mb):List PV:=O J m.k:: .bool m.ua:: .bool m.ub:: .bool m.fp:: .bool m.fd:: O J m.va:: O J m.vb:: O J m.vc:: O J m.vd:: O J m.ve:: O J m.vf:: O J m.vg:: O J m.vh:: O J m.sa:: O J m.sb:: O J m.sc:: O J m.sd:: O J m.dl:: .bool m.ca:: .bool m.cb:: .bool m.cc:: .bool m.cd:: .bool m.ce:: .bool m.cf::is m.lv
def mB(m:Mb):Blk:=⟨142,0,mbc m⟩
def zg7(m:Mb):Bool:=m.ca||(m.cb||(m.cc||(m.cd||(m.ce||m.cf))))
def hlM(m:Mb):Bool:=decide (m.k=1)||zg7 m
def win(x n:Int):Bool:=decide (-n<=x)&&decide (x<=n)
def fch(c:Cx)(m:Mb):Bool:=if hlM m then(bcx c|| !m.fd)&&win m.dl 30 else !m.fd&&decide (m.dl=0)
theorem znb(c:Cx)(H:za):CallOk prog 144 [.agg (cxc c)] H (.bool (vcx c)) H:=by obtain⟨t,s,i,n⟩:=c;refine .body (F0:=[(0,.agg [O J t,O J s,.bool i,.bool n])]) func144 rfl ntmps144 results144 rfl kr rfl ?_;(repeat'(first|refine .seq ?_|refine .skip ?_|refine .block ?_|((refine .rg rfl λK hK=> ?_);simp(disch:=omega) only[go_sem])|((refine zg ?_ ?_)<;>intro h<;>(try simp only[nqb]at h)<;>simp(disch:=omega) only[go_sem,h])|(refine hK _ _ ?_)|(refine .cond (t:=_) rfl (λh=> ?_) (λh=> ?_)<;>(try(cases h;done))<;>(try simp only[nqb]at h))));all_goals((refine .ret ⟨_,rfl,?_⟩;refine .base (.id' ?_ (.bool _)));(simp_all[vcx,slot,qA]<;>omega))
theorem zj3(c:Cx)(H:za):CallOk prog 235 [.agg (cxc c)] H (.bool (vcx c)) H:=by obtain⟨t,s,i,n⟩:=c;refine .body (F0:=[(0,.agg [O J t,O J s,.bool i,.bool n])]) func235 rfl ntmps235 results235 rfl kr rfl ?_;(repeat'(first|refine .seq ?_|refine .skip ?_|refine .block ?_|((first|refine .rg rfl λK hK=> ?_|refine .draw mix kr λK hK=> ?_);simp(disch:=omega) only[go_sem])|((first|refine zg ?_ ?_|refine zr ?_ ?_|refine uI ?_ ?_)<;>intro h<;>(try simp only[nqb]at h)<;>simp(disch:=omega) only[go_sem,h])|(refine hK _ _ ?_)|(refine .cond (t:=_) rfl (λh=> ?_) (λh=> ?_)<;>(try(cases h;done))<;>(try simp only[nqb]at h))));all_goals((refine .ret ⟨_,rfl,?_⟩;first|refine .inl ⟨?_,rfl⟩|refine .base (.id' ?_ (.bool _))|refine .base (.id' ?_ (.int _ _)));cases i<;>cases n<;>(simp_all[vcx,slot,qA]<;>first|rfl|omega|(rw[gJ];simp;done)|(rw[gJ];simp;omega)))
theorem zoa(c:Cx)(H:za):CallOk prog 162 [.agg (cxc c)] H (.bool (fcx c)) H:=by obtain⟨t,s,i,n⟩:=c;refine .body (F0:=[(0,.agg [O J t,O J s,.bool i,.bool n])]) func162 rfl ntmps162 results162 rfl kr rfl ?_;(repeat'(first|refine .seq ?_|((refine .rg rfl λK hK=> ?_);simp(disch:=omega) only[go_sem])|(refine hK _ _ ?_)));all_goals((refine .ret ⟨_,rfl,?_⟩;refine .base (.id' ?_ (.bool _)));(simp_all[fcx,slot,qA]<;>rfl))
theorem zhy(c:Cx)(H:za):CallOk prog 273 [.agg (cxc c)] H (.bool (fcx c)) H:=by obtain⟨t,s,i,n⟩:=c;refine .body (F0:=[(0,.agg [O J t,O J s,.bool i,.bool n])]) func273 rfl ntmps273 results273 rfl kr rfl ?_;(repeat'(first|refine .seq ?_|refine .skip ?_|refine .block ?_|((first|refine .rg rfl λK hK=> ?_|refine .draw mix kr λK hK=> ?_);simp(disch:=omega) only[go_sem])|((first|refine zg ?_ ?_|refine zr ?_ ?_|refine uI ?_ ?_)<;>intro h<;>(try simp only[nqb]at h)<;>simp(disch:=omega) only[go_sem,h])|(refine hK _ _ ?_)|(refine .cond (t:=_) rfl (λh=> ?_) (λh=> ?_)<;>(try(cases h;done))<;>(try simp only[nqb]at h))));all_goals((refine .ret ⟨_,rfl,?_⟩;first|refine .inl ⟨?_,rfl⟩|refine .base (.id' ?_ (.bool _))|refine .base (.id' ?_ (.int _ _)));(simp_all[fcx,slot,qA]<;>first|rfl|omega|(rw[gJ];simp;done)|(rw[gJ];simp;omega)))
theorem zle(c:Cx)(H:za):CallOk prog 207 [.agg (cxc c)] H (.bool (bcx c)) H:=by obtain⟨t,s,i,n⟩:=c;refine .body (F0:=[(0,.agg [O J t,O J s,.bool i,.bool n])]) func207 rfl ntmps207 results207 rfl kr rfl ?_;(repeat'(first|refine .seq ?_|((refine .rg rfl λK hK=> ?_);simp(disch:=omega) only[go_sem])|((refine zg ?_ ?_)<;>intro h<;>(try simp only[nqb]at h)<;>simp(disch:=omega) only[go_sem,h])|(refine hK _ _ ?_)));all_goals((refine .ret ⟨_,rfl,?_⟩;refine .base (.id' ?_ (.bool _)));(simp_all[bcx,slot,qA]<;>rfl))
theorem zhE(c:Cx)(H:za):CallOk prog 236 [.agg (cxc c)] H (.bool (bcx c)) H:=by obtain⟨t,s,i,n⟩:=c;refine .body (F0:=[(0,.agg [O J t,O J s,.bool i,.bool n])]) func236 rfl ntmps236 results236 rfl kr rfl ?_;(repeat'(first|refine .seq ?_|refine .skip ?_|refine .block ?_|((first|refine .rg rfl λK hK=> ?_|refine .draw mix kr λK hK=> ?_);simp(disch:=omega) only[go_sem])|((first|refine zg ?_ ?_|refine zr ?_ ?_|refine uI ?_ ?_)<;>intro h<;>(try simp only[nqb]at h)<;>simp(disch:=omega) only[go_sem,h])|(refine hK _ _ ?_)|(refine .cond (t:=_) rfl (λh=> ?_) (λh=> ?_)<;>(try(cases h;done))<;>(try simp only[nqb]at h))));all_goals((refine .ret ⟨_,rfl,?_⟩;first|refine .inl ⟨?_,rfl⟩|refine .base (.id' ?_ (.bool _))|refine .base (.id' ?_ (.int _ _)));(simp_all[bcx,slot,qA]<;>first|rfl|omega|(rw[gJ];simp;done)|(rw[gJ];simp;omega)))
theorem zgg(x n:Int)(H:za)(hn:0<=n/\n<=10000):CallOk prog 203 [O J x,O J n] H (.bool (win x n)) H:=by refine .go func203 ntmps203 results203 ?_;(repeat'(first|refine .seq ?_|((refine .rg rfl λK hK=> ?_);simp(disch:=omega) only[go_sem])|((refine zg ?_ ?_)<;>intro h<;>(try simp only[nqb]at h)<;>simp(disch:=omega) only[go_sem,h])|(refine hK _ _ ?_)));all_goals((refine .ret ⟨_,rfl,?_⟩;refine .inl ⟨?_,rfl⟩);(simp_all[win,slot,qA]<;>omega))
theorem zg9(x:Int)(H:za):CallOk prog 270 [O J x] H (.bool (win x 4095)) H:=by refine .go func270 ntmps270 results270 ?_;(repeat'(first|refine .seq ?_|refine .skip ?_|refine .block ?_|((first|refine .rg rfl λK hK=> ?_|refine .draw mix kr λK hK=> ?_);simp(disch:=omega) only[go_sem])|((first|refine zg ?_ ?_|refine zr ?_ ?_|refine uI ?_ ?_)<;>intro h<;>(try simp only[nqb]at h)<;>simp(disch:=omega) only[go_sem,h])|(refine hK _ _ ?_)|(refine .cond (t:=_) rfl (λh=> ?_) (λh=> ?_)<;>(try(cases h;done))<;>(try simp only[nqb]at h))));all_goals((refine .ret ⟨_,rfl,?_⟩;first|refine .inl ⟨?_,rfl⟩|refine .base (.id' ?_ (.bool _))|refine .base (.id' ?_ (.int _ _)));(simp_all[win,slot,qA]<;>first|rfl|omega|(rw[gJ];simp;done)|(rw[gJ];simp;omega)))
def vrg(x y:Int):Bool:=win x 63&&win y 63
theorem zhN(x y:Int)(H:za):CallOk prog 204 [.agg [O J x,O J y]] H (.bool (vrg x y)) H:=by refine .go func204 ntmps204 results204 ?_;(repeat'(first|refine .seq ?_|((refine .rg rfl λK hK=> ?_);simp(disch:=omega) only[go_sem])|((refine zg ?_ ?_)<;>intro h<;>(try simp only[nqb]at h)<;>simp(disch:=omega) only[go_sem,h])|((first|refine VCx.call (zgg x 63 _ om) rfl ?_|refine VCx.call (zgg y 63 _ om) rfl ?_);simp(disch:=omega) only[go_sem])|(refine hK _ _ ?_)));all_goals((refine .ret ⟨_,rfl,?_⟩;refine .base (.id' ?_ (.bool _)));(simp_all[vrg,slot,qA]))
theorem zdt(x y:Int)(H:za):CallOk prog 274 [.agg [O J x,O J y]] H (.bool (vrg x y)) H:=by refine .go func274 ntmps274 results274 ?_;(repeat'(first|refine .seq ?_|refine .skip ?_|refine .block ?_|((first|refine .rg rfl λK hK=> ?_|refine .draw mix kr λK hK=> ?_);simp(disch:=omega) only[go_sem])|((first|refine zg ?_ ?_|refine zr ?_ ?_|refine uI ?_ ?_)<;>intro h<;>(try simp only[nqb]at h)<;>simp(disch:=omega) only[go_sem,h])|(refine hK _ _ ?_)|(refine .cond (t:=_) rfl (λh=> ?_) (λh=> ?_)<;>(try(cases h;done))<;>(try simp only[nqb]at h))));all_goals((refine .ret ⟨_,rfl,?_⟩;first|refine .inl ⟨?_,rfl⟩|refine .base (.id' ?_ (.bool _))|refine .base (.id' ?_ (.int _ _)));(simp_all[vrg,win,slot,qA]<;>first|rfl|omega|(rw[gJ];simp;done)|(rw[gJ];simp;omega)))
theorem zAe(m:Mb)(i:Nat)(H:za)(hi:H[i]? =some (mB m)):CallOk prog 215 [.ptr i 0 0] H (.bool (hlM m)) H:=by obtain⟨k,ua,ub,fp,fd,va,vb,vc,vd,ve,vf,vg,vh,sa,sb,sc,sd,dl,ca,cb,cc,cd,ce,cf,lv⟩:=m;simp only[mB,mbc]at hi;refine .go func215 ntmps215 results215 ?_;(repeat'(first|refine .seq ?_|((refine .rg rfl λK hK=> ?_);simp(disch:=omega) only[go_sem,hi])|((refine zg ?_ ?_)<;>intro h<;>(try simp only[nqb]at h)<;>simp(disch:=omega) only[go_sem,hi,h])|(refine hK _ _ ?_)));all_goals((refine .ret ⟨_,rfl,?_⟩;refine .inl ⟨?_,rfl⟩);clear hi;cases ca<;>cases cb<;>cases cc<;>cases cd<;>cases ce<;>cases cf<;>(simp_all[hlM,zg7,slot,qA]))
theorem znp(c:Cx)(m:Mb)(i:Nat)(H:za)(hi:H[i]? =some (mB m)):CallOk prog 257 [.agg (cxc c),.ptr i 0 0] H (.bool (m.fp||fcx c)) H:=by obtain⟨k,ua,ub,fp,fd,va,vb,vc,vd,ve,vf,vg,vh,sa,sb,sc,sd,dl,ca,cb,cc,cd,ce,cf,lv⟩:=m;simp only[mB,mbc]at hi;have hx:=λK=>zas (K:=K) hi;have fo:=λH=>zoa c H;obtain⟨t,s,ii,n⟩:=c;refine .body (F0:=[(0,.agg [O J t,O J s,.bool ii,.bool n]),(1,.ptr i 0 0)]) func257 rfl ntmps257 results257 rfl kr rfl ?_;(repeat'(first|refine .seq ?_|((refine .rg rfl λK hK=> ?_);simp(disch:=omega) only[go_sem,hi,hx])|((refine zg ?_ ?_)<;>intro h<;>(try simp only[nqb]at h)<;>simp(disch:=omega) only[go_sem,hi,hx,h])|((refine VCx.call (fo _) rfl ?_);simp(disch:=omega) only[go_sem,hi,hx])|(refine hK _ _ ?_;clear hK K)));all_goals((refine .ret ⟨_,rfl,?_⟩;refine .base (.id' ?_ (.bool _)));clear hi hx fo;(simp_all[slot,qA]))
theorem zpF(m:Mb)(H:za)(hl:m.lv.length=384):CallOk prog 272 [.agg (mbc m)] H (.bool (hlM m)) H:=by
 obtain⟨k,ua,ub,fp,fd,va,vb,vc,vd,ve,vf,vg,vh,sa,sb,sc,sd,dl,ca,cb,cc,cd,ce,cf,lv⟩:=m;have hall:(is lv).all PV.cell=true:=by simp[is,PV.cell]
 refine .body (F0:=[(0,.agg (O J k:: .bool ua:: .bool ub:: .bool fp:: .bool fd:: O J va:: O J vb:: O J vc:: O J vd:: O J ve:: O J vf:: O J vg:: O J vh:: O J sa:: O J sb:: O J sc:: O J sd:: O J dl:: .bool ca:: .bool cb:: .bool cc:: .bool cd:: .bool ce:: .bool cf::is lv))]) func272 rfl ntmps272 results272 rfl kr rfl ?_;(repeat'(first|refine .seq ?_|refine .skip ?_|refine .block ?_|((first|refine .rg rfl λK hK=> ?_|refine .draw mix kr λK hK=> ?_);simp(disch:=omega) only[go_sem,hall])|((first|refine zg ?_ ?_|refine zr ?_ ?_|refine uI ?_ ?_)<;>intro h<;>(try simp only[nqb]at h)<;>simp(disch:=omega) only[go_sem,hall,h])|(refine hK _ _ ?_)|(refine .cond (t:=_) rfl (λh=> ?_) (λh=> ?_)<;>(try(cases h;done))<;>(try simp only[nqb]at h))));all_goals((refine .ret ⟨_,rfl,?_⟩;first|refine .inl ⟨?_,rfl⟩|refine .base (.id' ?_ (.bool _))|refine .base (.id' ?_ (.int _ _)));cases ca<;>cases cb<;>cases cc<;>cases cd<;>cases ce<;>cases cf<;>(simp_all[hlM,zg7,slot,qA]<;>first|rfl|omega|(rw[gJ];simp;done)|(rw[gJ];simp;omega)))
theorem zyP(c:Cx)(m:Mb)(i:Nat)(H:za)(hi:H[i]? =some (mB m)):CallOk prog 153 [.agg (cxc c),.ptr i 0 0] H (.bool (fch c m)) H:=by
 have hlo:=λK=>zAe m i (H++K) (zas hi);have bo:=λH=>zle c H;have hfc:fch c m=if hlM m then(bcx c|| !m.fd)&&win m.dl 30 else !m.fd&&decide (m.dl=0):=rfl
 generalize fch c m=r at hfc |-;generalize hlM m=h1 at hlo hfc;obtain⟨k,ua,ub,fp,fd,va,vb,vc,vd,ve,vf,vg,vh,sa,sb,sc,sd,dl,ca,cb,cc,cd,ce,cf,lv⟩:=m;simp only[mB,mbc]at hi hfc;have hx:=λK=>zas (K:=K) hi;generalize bcx c=b1 at bo hfc;obtain⟨t,s,ii,n⟩:=c;have wo:=λH=>zgg dl 30 H om;generalize win dl 30=w1 at wo hfc;refine .body (F0:=[(0,.agg [O J t,O J s,.bool ii,.bool n]),(1,.ptr i 0 0)]) func153 rfl ntmps153 results153 rfl kr rfl ?_;(repeat'(first|refine .seq ?_|refine .skip ?_|((refine .rg rfl λK hK=> ?_);simp(disch:=omega) only[go_sem,hx])|((refine zg ?_ ?_)<;>intro h<;>(try simp only[nqb]at h)<;>simp(disch:=omega) only[go_sem,hx,h])|((first|refine VCx.call (hlo _) rfl ?_|refine VCx.call (bo _) rfl ?_|refine VCx.call (wo _) rfl ?_);simp(disch:=omega) only[go_sem,hx])|(refine hK _ _ ?_;clear hK K)|(refine .cond (t:=_) rfl (λh=> ?_) (λh=> ?_)<;>(try(cases h;done))<;>(try simp only[nqb]at h))));all_goals((refine .ret ⟨_,rfl,?_⟩;refine .base (.id' ?_ (.bool _)));clear hi hx hlo bo wo;subst hfc;(simp_all[slot,qA]<;>rfl))
theorem zq(l:List Int):(is l).all PV.cell=true:=by unfold is;rw[List.all_map];exact uJ.2 λx _=>rfl
def lvr(lv:List Int):Bool:=(List.range 384).all λq=>win (ze lv q) 4095
theorem zta{lv:List Int}{q:Nat}(h:q<384)(hw:win (ze lv q) 4095=false):lvr lv=false:=by grind[lvr,List.all_eq_true.1,List.mem_range.2]
theorem zhs{lv:List Int}(h:∀ q,q<384->win (ze lv q) 4095=true):lvr lv=true:=uJ.2 λq hq=>h q (wO.1 hq)
theorem zol(lv:List Int)(n j:Nat)(hj:j<64):ze ((lv.drop (n * 64)).take 64) j=ze lv (n * 64+j):=by simp_all[ze,List.getD,vZ,wI]
theorem zhD(lv:List Int)(n:Nat)(hl:lv.length=384)(hn:n<6):((lv.drop (n * 64)).take 64).length=64:=by simp;omega
theorem zyy(m:Mb)(i:Nat)(H:za)(hi:H[i]? =some (mB m))(hl:m.lv.length=384):CallOk prog 154 [.ptr i 0 0] H (.bool (lvr m.lv)) H:=by
 obtain⟨k,ua,ub,fp,fd,va,vb,vc,vd,ve,vf,vg,vh,sa,sb,sc,sd,dl,ca,cb,cc,cd,ce,cf,lv⟩:=m;simp only[mB,mbc]at hi hl |-;have hdrop:∀ n:Nat,List.drop (24+n * 64) (O J k:: .bool ua:: .bool ub:: .bool fp:: .bool fd:: O J va:: O J vb:: O J vc:: O J vd:: O J ve:: O J vf:: O J vg:: O J vh:: O J sa:: O J sb:: O J sc:: O J sd:: O J dl:: .bool ca:: .bool cb:: .bool cc:: .bool cd:: .bool ce:: .bool cf::is lv)=is (lv.drop (n * 64)):=λn=>by rw[show 24+n * 64=n * 64+24 from om];simp_all[sP,zeR]
 refine .go func154 ntmps154 results154 ?_;refine .e (.e ?_);refine .l ?_;suffices hloop:∀(n:Nat),n<=6->(∀ q,q<n * 64->win (ze lv q) 4095=true)->PL prog _ _ [(0,.ptr i 0 0),(6,O J (n:Int))] H _ by exact .a (hloop 0 om (λq hq=>om))
 intro n hn hq;induction hm:6 - n using qB generalizing n with
 | _ m ih=>
  refine .round (.e ?_);refine .c (λh=> ?_) (λh=> ?_)
  .have h4:n<6:=by grind
   have hbl:=zhD lv n hl h4;have hcel:=zq ((lv.drop (n * 64)).take 64);have hnx:=ih (6 - (n+1)) om (n+1) om;refine .skip (.b ?_);refine .e (.f (λK k=>by simp(disch:=omega) only[go_sem,hi,hdrop,zdK,zj,hbl,hcel];exact k) ?_);have hat:=zol lv n;generalize (lv.drop (n * 64)).take 64=bl at *;refine .l ?_;clear ih;suffices hloop:∀(j:Nat),j<=64->(∀ q,q<n * 64+j->win (ze lv q) 4095=true)->PL prog _ _ [(0,.ptr i 0 0),(6,O J (n:Int)),(14,.agg (is bl)),(15,O J (j:Int))] H _ by exact .a (hloop 0 om (λq hq'=>hq q om))
   intro j hj hq2;induction hm2:64 - j using qB generalizing j with
   | _ m2 ih=>
    refine .round (.e ?_);refine .c (λh=> ?_) (λh=> ?_)
    .have h5:j<64:=by grind
     have hw:=λH=>zgg (ze bl j) 4095 H om;refine .skip (.b ?_);refine .f (λK k=>by simp(disch:=omega) only[go_sem,zQ,zj,hbl];exact k) ?_;refine .k hw ?_;refine .c (λh=> ?_) (λh=> ?_)
     .have h6:win (ze bl j) 4095=false:=by simpa using h
      refine .e (.ret ⟨_,rfl,?_⟩);rw[zta (q:=n * 64+j) om (by rw[<-hat j h5];exact h6)];exact .now
     .have h6:win (ze bl j) 4095=true:=by simpa using h
      refine .skip (.e ?_);refine .a (ih (64 - (j+1)) om (j+1) om (λq hq'=> ?_) rfl);grind
    .have h5:j=64:=by grind
     subst h5;refine .exit (.e ?_);exact .a (hnx (λq hq'=>hq2 q om) rfl)
  .have h4:n=6:=by grind
   subst h4;refine .exit (.e ?_);refine .ret ⟨_,rfl,?_⟩;rw[zhs (λq hq'=>hq q om)];exact .now
theorem zpe(m:Mb)(H:za)(hl:m.lv.length=384):CallOk prog 237 [.agg (mbc m)] H (.bool (lvr m.lv)) H:=by
 obtain⟨k,ua,ub,fp,fd,va,vb,vc,vd,ve,vf,vg,vh,sa,sb,sc,sd,dl,ca,cb,cc,cd,ce,cf,lv⟩:=m;simp only at hl |-;have hall:=zq lv;have hget:∀ x:Nat,(O J k:: .bool ua:: .bool ub:: .bool fp:: .bool fd:: O J va:: O J vb:: O J vc:: O J vd:: O J ve:: O J vf:: O J vg:: O J vh:: O J sa:: O J sb:: O J sc:: O J sd:: O J dl:: .bool ca:: .bool cb:: .bool cc:: .bool cd:: .bool ce:: .bool cf::is lv)[24+x]? =(is lv)[x]? :=λx=>by rw[show 24+x=x+24 from om];rfl
 refine .body (F0:=[(0,.agg (O J k:: .bool ua:: .bool ub:: .bool fp:: .bool fd:: O J va:: O J vb:: O J vc:: O J vd:: O J ve:: O J vf:: O J vg:: O J vh:: O J sa:: O J sb:: O J sc:: O J sd:: O J dl:: .bool ca:: .bool cb:: .bool cc:: .bool cd:: .bool ce:: .bool cf::is lv))]) func237 rfl ntmps237 results237 rfl kr rfl ?_;refine .g hall ?_;refine .e (.l ?_);suffices hloop:∀(n:Nat),n<=6->(∀ q,q<n * 64->win (ze lv q) 4095=true)->PL prog _ _ [(1,.ptr H.length 0 0),(3,O J (n:Int))] (H++[⟨142,0,O J k:: .bool ua:: .bool ub:: .bool fp:: .bool fd:: O J va:: O J vb:: O J vc:: O J vd:: O J ve:: O J vf:: O J vg:: O J vh:: O J sa:: O J sb:: O J sc:: O J sd:: O J dl:: .bool ca:: .bool cb:: .bool cc:: .bool cd:: .bool ce:: .bool cf::is lv⟩]) _ by exact .a (hloop 0 om (λq hq=>om))
 intro n hn hq;induction hm:6 - n using qB generalizing n with
 | _ m ih=>
  refine .round (.e ?_);refine .c (λh=> ?_) (λh=> ?_)
  .have h4:n<6:=by grind
   have hnx:=ih (6 - (n+1)) om (n+1) om;refine .skip (.b ?_);refine .e (.l ?_);clear ih;suffices hloop:∀(j:Nat),j<=64->(∀ q,q<n * 64+j->win (ze lv q) 4095=true)->PL prog _ _ [(1,.ptr H.length 0 0),(3,O J (n:Int)),(4,O J (j:Int))] (H++[⟨142,0,O J k:: .bool ua:: .bool ub:: .bool fp:: .bool fd:: O J va:: O J vb:: O J vc:: O J vd:: O J ve:: O J vf:: O J vg:: O J vh:: O J sa:: O J sb:: O J sc:: O J sd:: O J dl:: .bool ca:: .bool cb:: .bool cc:: .bool cd:: .bool ce:: .bool cf::is lv⟩]) _ by exact .a (hloop 0 om (λq hq'=>hq q om))
   intro j hj hq2;induction hm2:64 - j using qB generalizing j with
   | _ m2 ih=>
    refine .round (.e ?_);refine .c (λh=> ?_) (λh=> ?_)
    .have h5:j<64:=by grind
     have hw:=λH=>zg9 (ze lv (n * 64+j)) H;have hg2:(O J k:: .bool ua:: .bool ub:: .bool fp:: .bool fd:: O J va:: O J vb:: O J vc:: O J vd:: O J ve:: O J vf:: O J vg:: O J vh:: O J sa:: O J sb:: O J sc:: O J sd:: O J dl:: .bool ca:: .bool cb:: .bool cc:: .bool cd:: .bool ce:: .bool cf::is lv)[24+n * 64+j]? =some (O J (ze lv (n * 64+j))):=by rw[vT,hget,zQ _ _ om]
     refine .skip (.b ?_);refine .m hg2 hw ?_;refine .c (λh=> ?_) (λh=> ?_)
     .have h6:win (ze lv (n * 64+j)) 4095=false:=by simpa using h
      refine .e (.ret ⟨_,rfl,?_⟩);rw[zta (q:=n * 64+j) om h6];exact .base (.id (.bool _))
     .have h6:win (ze lv (n * 64+j)) 4095=true:=by simpa using h
      refine .skip (.e ?_);refine .a (ih (64 - (j+1)) om (j+1) om (λq hq'=> ?_) rfl);grind
    .have h5:j=64:=by grind
     subst h5;refine .exit (.e ?_);exact .a (hnx (λq hq'=>hq2 q om) rfl)
  .have h4:n=6:=by grind
   subst h4;refine .exit (.e ?_);refine .ret ⟨_,rfl,?_⟩;rw[zhs (λq hq'=>hq q om)];exact .base (.id (.bool _))
def zbk(lv:List Int)(n:Nat):Bool:=(lv.drop (n * 64)).take 64==qD 64 0
def cdl(m:Mb):List Bool:=[m.ca,m.cb,m.cc,m.cd,m.ce,m.cf]
def fbl(cs:List Bool)(lv:List Int):Bool:=(List.range 6).all λn=>zN cs n !=zbk lv n
theorem ztT{cs:List Bool}{lv:List Int}{q:Nat}(h:q<6)(hw:zN cs q=zbk lv q):fbl cs lv=false:=by
 cases hc:fbl cs lv with
 | false=>rfl
 | true=>have:=uJ.1 hc q (wO.2 h);rw[hw]at this;simp at this
theorem zkV{cs:List Bool}{lv:List Int}(h:∀ q,q<6->zN cs q≠zbk lv q):fbl cs lv=true:=uJ.2 λq hq=>by have:=h q (wO.1 hq);simpa using this
theorem zyQ(m:Mb)(i:Nat)(H:za)(hi:H[i]? =some (mB m))(hl:m.lv.length=384):CallOk prog 156 [.ptr i 0 0] H (.bool (fbl (cdl m) m.lv)) H:=by
 obtain⟨k,ua,ub,fp,fd,va,vb,vc,vd,ve,vf,vg,vh,sa,sb,sc,sd,dl,ca,cb,cc,cd,ce,cf,lv⟩:=m;simp only[mB,mbc,cdl]at hi hl |-;have hdrop:∀ n:Nat,List.drop (24+n * 64) (O J k:: .bool ua:: .bool ub:: .bool fp:: .bool fd:: O J va:: O J vb:: O J vc:: O J vd:: O J ve:: O J vf:: O J vg:: O J vh:: O J sa:: O J sb:: O J sc:: O J sd:: O J dl:: .bool ca:: .bool cb:: .bool cc:: .bool cd:: .bool ce:: .bool cf::is lv)=is (lv.drop (n * 64)):=λn=>by rw[show 24+n * 64=n * 64+24 from om];simp only[sP];exact zeR _ _
 obtain⟨cs,hcs⟩:∃ cs,cs=[ca,cb,cc,cd,ce,cf]:=⟨_,rfl⟩;have hcl:cs.length=6:=by rw[hcs];rfl
 refine .go func156 ntmps156 results156 ?_;refine .e (.g hi ?_);refine .l ?_;rw[<-hcs];suffices hloop:∀(n:Nat),n<=6->(∀ q,q<n->zN cs q≠zbk lv q)->PL prog _ _ [(0,.ptr i 0 0),(8,.agg (fs cs)),(9,O J (n:Int))] H _ by exact .a (hloop 0 om (λq hq=>om)) (by rw[hcs];rfl) rfl
 clear hcs;intro n hn hq;induction hm:6 - n using qB generalizing n with
 | _ m ih=>
  refine .round (.e ?_);refine .c (λh=> ?_) (λh=> ?_)
  .have h4:n<6:=ot h;have hbl:=zhD lv n hl h4;have hcel:=zq ((lv.drop (n * 64)).take 64);have hnx:=ih (6 - (n+1)) om (n+1) om;have hzb:zbk lv n=((lv.drop (n * 64)).take 64==qD 64 0):=rfl;refine .skip (.b ?_);refine .f (λK k=>by simp(disch:=omega) only[go_sem,zn4,zyJ,hcl];exact k) ?_;generalize hbb:(lv.drop (n * 64)).take 64=bl at *;have hpq:zel (.int .i64) (is bl) [O J 0,O J 0,O J 0,O J 0,O J 0,O J 0,O J 0,O J 0,O J 0,O J 0,O J 0,O J 0,O J 0,O J 0,O J 0,O J 0,O J 0,O J 0,O J 0,O J 0,O J 0,O J 0,O J 0,O J 0,O J 0,O J 0,O J 0,O J 0,O J 0,O J 0,O J 0,O J 0,O J 0,O J 0,O J 0,O J 0,O J 0,O J 0,O J 0,O J 0,O J 0,O J 0,O J 0,O J 0,O J 0,O J 0,O J 0,O J 0,O J 0,O J 0,O J 0,O J 0,O J 0,O J 0,O J 0,O J 0,O J 0,O J 0,O J 0,O J 0,O J 0,O J 0,O J 0,O J 0]=some (bl==qD 64 0):=zfJ .i64 bl (qD 64 0) (by rw[hbl];simp);generalize (bl==qD 64 0)=zz at *;refine .x λK hK=> ?_;simp(disch:=omega) only[go_sem,hi,hdrop,zdK,hbb,zj,hbl,hcel,hpq];refine hK _ _ ?_;refine .c (λh=> ?_) (λh=> ?_)
   .have h6:zN cs n=zz:=by simpa using h
    refine .e (.ret ⟨_,rfl,?_⟩);rw[ztT h4 (by rw[hzb];exact h6)];exact .now
   .have h6:zN cs n≠zz:=by simpa using h
    refine .skip (.e ?_);refine .a (hnx (λq hq'=> ?_) rfl);by_cases e:q=n
    .rw[e,hzb];exact h6
    .exact hq q om
  .have h4:n=6:=ofF h;subst h4;refine .exit (.e ?_);refine .ret ⟨_,rfl,?_⟩;rw[zkV hq];exact .now
end Go.Proofs.YtleejngibkbjnaaGreatDoor.Sc
