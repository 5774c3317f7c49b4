/-
  Parts of the proof. No condition.
-/
import Derived.Test.YtleejngibkbjnaaGreatDoorW06
import Derived.Test.YtleejngibkbjnaaGreatDoorW05
open Go.Proofs.YtleejngibkbjnaaGreatDoor.Pm.PV renaming int → O
open Go.IntKind renaming i64 → J
open List renaming drop → qA, take → qB
open Nat renaming strongRecOn → qD
open Go.Proofs.Tryz
set_option linter.all false
set_option maxRecDepth 100000
set_option maxHeartbeats 32000000
namespace Go.Proofs.YtleejngibkbjnaaGreatDoor
namespace Sc
open Pm Ty Go.RowKit
theorem zkx(p:Pi)(n:Nat):∀ x∈pic p,Scoped n x:=λx hx=>by
 simp only[pic,gM,gL,uA]at hx;rcases hx with rfl|rfl|rfl|rfl|rfl|rfl
 .exact .int _ _
 .exact .int _ _
 .exact .int _ _
 .exact .bool _
 .exact .bool _
 .exact .bool _
theorem zbD{α:Type}(enc:α->List PV)(N:Nat)(l:List α)(k r:Nat)(hk:k<l.length)(hl:∀ x∈l,(enc x).length=N)(hr:r<N):(l.flatMap enc)[k * N+r]? =(enc l[k])[r]? :=by rw[<-zbE enc N l k hk hl,vZ,gD hr,wI]
def uq1(u:Int×List UInt8):List PV:=[O J u.1,.slice (bs u.2) u.2.length false]
def uq(us:List (Int×List UInt8)):List PV:=us.flatMap uq1
theorem zne(us:List (Int×List UInt8)):(uq us).length=us.length * 2:=zac uq1 2 us λ_ _=>rfl
theorem zwG(us:List (Int×List UInt8))(k:Nat)(hk:k<us.length):qB 2 (qA (k * 2) (uq us))=uq1 us[k]:=zbE uq1 2 us k hk λ_ _=>rfl
theorem uq_0(us:List (Int×List UInt8))(k:Nat)(hk:k<us.length):(uq us)[k * 2]? =some (O J us[k].1):=zbD uq1 2 us k 0 hk (λ_ _=>rfl) om
theorem uq_1(us:List (Int×List UInt8))(k:Nat)(hk:k<us.length):(uq us)[k * 2+1]? =some (.slice (bs us[k].2) us[k].2.length false):=zbD uq1 2 us k 1 hk (λ_ _=>rfl) om
theorem zwF(n:Nat)(us:List (Int×List UInt8)):∀ x∈uq us,Scoped n x:=λx hx=>by
 obtain⟨u,_,hx⟩:=wM.1 hx;simp only[uq1,gM,gL,uA]at hx;rcases hx with rfl|rfl
 .exact .int _ _
 .exact zk (zh _ _)
def znd(u:List UInt8):List PV:=[.slice (bs u) u.length false]
def usr(U:List (List UInt8)):PV:=.slice (U.flatMap znd) U.length false
theorem zxC(n:Nat)(U:List (List UInt8)):Scoped n (usr U):=zk λx hx=>by obtain⟨u,_,hx⟩:=wM.1 hx;simp only[znd,gM,gL,uA]at hx;rw[hx];exact zk (zh _ _)
def cdc(p:Pi)(U:List (List UInt8))(us:List (Int×List UInt8)):List PV:=pic p++[usr U,.slice (uq us) us.length false]
theorem ze0(p:Pi)(U:List (List UInt8))(us:List (Int×List UInt8)):(cdc p U us).length=8:=rfl
theorem zex(p:Pi)(U:List (List UInt8))(us:List (Int×List UInt8)):(cdc p U us).all PV.cell=true:=rfl
theorem zui(p:Pi)(U:List (List UInt8))(us:List (Int×List UInt8)):qB 6 (cdc p U us)=pic p:=rfl
theorem zuj(p:Pi)(U:List (List UInt8))(us:List (Int×List UInt8)):(cdc p U us)[7]? =some (.slice (uq us) us.length false):=rfl
theorem zuh(p:Pi)(U:List (List UInt8))(us:List (Int×List UInt8)):qB 8 (cdc p U us)=cdc p U us:=rfl
theorem zgN(n:Nat)(p:Pi)(U:List (List UInt8))(us:List (Int×List UInt8)):∀ x∈cdc p U us,Scoped n x:=λx hx=>by
 rcases uF.1 hx with hx|hx
 .exact zkx _ _ x hx
 .simp only[gM,gL,uA]at hx;rcases hx with rfl|rfl
  .exact zxC _ _
  .exact zk (zwF _ _)
structure It where
 k:Int
 s:Sq
 gc:Bool
 gb:Bool
 gt:Int
 p:Pi
 U:List (List UInt8)
 us:List (Int×List UInt8)
 pad:Int
def itc(x:It):List PV:=O J x.k::(sqc x.s++(.bool x.gc:: .bool x.gb:: O J x.gt::(cdc x.p x.U x.us++[O J x.pad])))
structure ItOk(x:It):Prop where
 s:SqOk x.s
 k:zgD x.k
 gt:zgD x.gt
 pad:zgD x.pad
 ut:∀ u∈x.us,zgD u.1
theorem zrI(s:Sq)(hs:SqOk s):(sqc s).length=135:=by simp[sqc,zd,hs.ia,hs.ie]
theorem zht(x:It)(h:SqOk x.s):(itc x).length=148:=by simp only[itc,gZ,gP,zrI x.s h,ze0,uS]
theorem ztn(x:It):(itc x).all PV.cell=true:=by simp[itc,sqc,bs,cdc,pic,usr,PV.cell]
theorem ztp(x:It):(itc x)[0]? =some (O J x.k):=rfl
theorem ztl(x:It)(h:SqOk x.s):qB 135 (qA 1 (itc x))=sqc x.s:=by show qB 135 (sqc x.s++_)=_;exact wZ (zrI x.s h)
theorem ztm(x:It)(h:SqOk x.s)(n:Nat):qA (136+n) (itc x)=qA n (.bool x.gc:: .bool x.gb:: O J x.gt::(cdc x.p x.U x.us++[O J x.pad])):=by
 have e:qA 136 (itc x)= .bool x.gc:: .bool x.gb:: O J x.gt::(cdc x.p x.U x.us++[O J x.pad]):=by show qA 135 (sqc x.s++_)=_;exact dE (zrI x.s h)
 rw[<-dL,e]
theorem zto(x:It)(h:SqOk x.s):qB 8 (qA 139 (itc x))=cdc x.p x.U x.us:=by have:=ztm x h 3;rw[this];rfl
theorem zw9(x:It)(h:SqOk x.s):qB 6 (qA 139 (itc x))=pic x.p:=by have:=ztm x h 3;rw[this];rfl
theorem ziC(x:It)(h:SqOk x.s)(n:Nat):(itc x)[136+n]? =(.bool x.gc:: .bool x.gb:: O J x.gt::(cdc x.p x.U x.us++[O J x.pad]))[n]? :=by have:=congrArg (·[0]?) (ztm x h n);simpa using this
theorem zvO(x:It)(h:SqOk x.s):(itc x)[147]? =some (O J x.pad):=ziC x h 11
theorem zyD(n:Nat)(x:It):∀ y∈itc x,Scoped n y:=λy hy=>by
 simp only[itc,gM,uF,gL,uA]at hy;rcases hy with rfl|hy|rfl|rfl|rfl|hy|rfl
 .exact .int _ _
 .exact zaf _ _ y hy
 .exact .bool _
 .exact .bool _
 .exact .int _ _
 .exact zgN _ _ _ _ y hy
 .exact .int _ _
end Sc
namespace Lg
open Go.ChangeShapes Go.WideShapes Go.ChangeAt Go.RowKit Pm Sc Lp
theorem zp6{ps:List PV}(h:Shp prog 39 ps):∃(c b:Bool) (t:Int),ps=[.bool c,.bool b,O J t]/\(-9223372036854775808<=t/\t<=9223372036854775807):=by
 obtain⟨pss,rfl,hf⟩:=h.fields underlying39
 match pss,hf with
 | [a,b,c],⟨ha,hb,hc,_⟩=>obtain⟨a,rfl⟩:=zdb ha;obtain⟨b,rfl⟩:=zdb hb;obtain⟨c,rfl,h3⟩:=zbw hc;exact⟨a,b,c,rfl,h3⟩
theorem zp7{ps:List PV}(h:Shp prog 45 ps):∃(p:Pi) (U:List (List UInt8)) (us:List (Int×List UInt8)),ps=cdc p U us/\U.length<=maxLen/\us.length<=maxLen/\∀ u∈us,zgD u.1:=by
 obtain⟨pss,rfl,hf⟩:=h.fields underlying45
 match pss,hf with
 | [p,u,l],⟨hp,hu,hl,_⟩=>
  obtain⟨p,rfl,_⟩:=zvc hp;obtain⟨U,rfl,hU,_⟩:=hu.of_list (enc:=znd) (good:=λ_=>True) underlying42 (λq hq=>by
   obtain⟨x,rfl⟩:=zjp hq;exact⟨x,rfl,trivial⟩)
  obtain⟨us,rfl,hm,hg⟩:=hl.of_list (enc:=uq1) (good:=λu=>zgD u.1) underlying43 (λq hq=>by
   obtain⟨t,x,rfl,ht⟩:=zrR hq;exact⟨(t,x),rfl,ht⟩)
  exact⟨p,U,us,rfl,hU,hm,hg⟩
theorem zrU{ps:List PV}(h:Shp prog 47 ps):∃ x:It,ps=itc x/\ItOk x:=by
 obtain⟨pss,rfl,hf⟩:=h.fields underlying47
 match pss,hf with
 | [k,s,g,c,p],⟨hk,hs,hg,hc,hp,_⟩=>obtain⟨k,rfl,h1⟩:=zbw hk;obtain⟨s,rfl,h2⟩:=zva hs;obtain⟨gc,gb,gt,rfl,h3⟩:=zp6 hg;obtain⟨p,U,us,rfl,_,_,h4⟩:=zp7 hc;obtain⟨n,rfl,h5⟩:=zbw hp;exact⟨⟨k,s,gc,gb,gt,p,U,us,n⟩,by simp[itc],⟨h2,h1,h3,h5,h4⟩⟩
theorem zp5{ps:List PV}(h:Shp prog 22 ps):∃ l:List It,ps=[.slice (l.flatMap itc) l.length false]/\∀ x∈l,ItOk x:=by obtain⟨l,rfl,_,hg⟩:=h.of_list (enc:=itc) (good:=ItOk) underlying22 (λq hq=>zrU hq);exact⟨l,rfl,hg⟩
end Lg
namespace Sc
open Pm Ty Go.RowKit
theorem zxD(U:List (List UInt8))(k:Nat)(hk:k<U.length):(U.flatMap znd)[k]? =some (.slice (bs U[k]) U[k].length false):=by have:=zbD znd 1 U k 0 hk (λ_ _=>rfl) om;rwa[sL,vQ]at this
theorem zzs(U:List (List UInt8)):(U.flatMap znd).length=U.length:=by rw[zac znd 1 U λ_ _=>rfl,sL]
def itL(l:List It):List PV:=l.flatMap itc
theorem zbg(l:List It)(h:∀ x∈l,SqOk x.s):(itL l).length=l.length * 148:=zac itc 148 l λx hx=>zht x (h x hx)
theorem znY(l:List It)(h:∀ x∈l,SqOk x.s)(k:Nat)(hk:k<l.length):qB 148 (qA (k * 148) (itL l))=itc l[k]:=zbE itc 148 l k hk λx hx=>zht x (h x hx)
theorem zfU(l:List It)(h:∀ x∈l,SqOk x.s)(k r:Nat)(hk:k<l.length)(hr:r<148):(itL l)[k * 148+r]? =(itc l[k])[r]? :=zbD itc 148 l k r hk (λx hx=>zht x (h x hx)) hr
theorem zdJ(n:Nat)(l:List It):∀ x∈itL l,Scoped n x:=λx hx=>by obtain⟨u,_,hx⟩:=wM.1 hx;exact zyD _ _ x hx
theorem zeP(l:List It)(h:∀ x∈l,SqOk x.s)(k r n:Nat)(hk:k<l.length)(hr:r+n<=148):qB n (qA (k * 148+r) (itL l))=qB n (qA r (itc l[k])):=by rw[<-znY l h k hk,List.drop_take,mI,Nat.min_eq_left om,dL]
def zvA(x:It):Bool:= !(decide (5000<x.pad)&&decide (x.pad<=1048576))
def ltI(x:It):Bool:=(zvA x&&(decide (x.U.length<=4)&&decide (x.us.length<=8)))&&((x.U.all λu=>decide (u.length<=400))&&(x.us.all λu=>decide (u.2.length<=3000)))
def ltB(l:List It):Bool:=decide (l.length<=60)&&l.all ltI
theorem zcu{α:Type}(f:α->Bool)(l:List α)(j:Nat)(h:j<l.length):(l.drop j).all f=(f l[j]&&(l.drop (j+1)).all f):=by rw[vY h];rfl
theorem zvK(l:List It)(f:Bool)(H:za)(hs:∀ x∈l,SqOk x.s):CallOk prog 4 [.slice (itL l) l.length f] H (.bool (ltB l)) H:=by
 have ln:=zbg l hs;have fin:∀(b:Bool) (K:za),Fin H (.bool b) H (.bool b) (H++K):=λb K=>Fin.base (.id (.bool _));have fin0:∀(b:Bool),Fin H (.bool b) H (.bool b) H:=λb=>Fin.now;unfold ltB;refine .go func4 ntmps4 results4 ?_;refine .e (.e ?_);by_cases h60:l.length<=60;rotate_left
 .have d1:decide ((60:Int)<(l.length:Int))=true:=gX om;refine .c (λh=> ?_) (λh=> ?_);rotate_left
  .simp_all
  rw[gW h60,vB];refine .e (.v (.bool false) ?_);exact fin0 _
 have d1:decide ((60:Int)<(l.length:Int))=false:=gW om;refine .c (λh=> ?_) (λh=> ?_)
 .simp_all
 rw[gX h60,uP];refine .skip (.e ?_);refine .l ?_;suffices hl1:∀ j:Nat,j<=l.length->(l.drop j).all ltI=l.all ltI->PL prog _ _ [(0,.slice (itL l) l.length f),(3,O J (j:Int))] H _ by exact .a (hl1 0 om rfl)
 intro j hj hf;induction hd:l.length - j using qD generalizing j with
 | _ d ih=>
  refine .round (.e ?_);refine .c (λh=> ?_) (λh=> ?_)
  .have hjl:j<l.length:=by simp_all
   have ip:=zfU l hs j 147 hjl om;have hc:=zeP l hs j 139 8 hjl om;have hx:=hs l[j] (uY hjl);rw[zvO _ hx]at ip;rw[zto _ hx]at hc;rw[zcu ltI l j hjl]at hf;have hnext:=λhf=>ih (l.length - (j+1)) om (j+1) om hf rfl;generalize l[j]=x at *;refine .skip (.b ?_);have c1:=zex x.p x.U x.us;have c2:=ze0 x.p x.U x.us;have c6:(cdc x.p x.U x.us)[6]? =some (usr x.U):=rfl;have c7:=zuj x.p x.U x.us;have c8:qA 8 (cdc x.p x.U x.us)=[]:=rfl;have ul:=zzs x.U;have ql:=zne x.us;refine .f (λK k=>by simp(disch:=omega) only[go_sem,ln,hc,c1,c2,c8,gQ];exact k) ?_;suffices hrest:PW prog _ _ [(0,.slice (itL l) l.length f),(3,O J (j:Int)),(4,.ptr H.length 0 0),(46,.bool (!(zvA x&&(decide (x.U.length<=4)&&decide (x.us.length<=8)))))] (H++[⟨45,0,cdc x.p x.U x.us⟩]) _ by
    unfold zvA at hrest;by_cases p1:5000<x.pad
    .have e1:decide (5000<x.pad)=true:=gX p1;by_cases p2:x.pad<=1048576
     .have e2:decide (x.pad<=1048576)=true:=gX p2;rw[e1,e2]at hrest;refine .g (nq2 ln (nq2 ip (nq2 e1 e2))) ?_;exact .a hrest
     .have e2:decide (x.pad<=1048576)=false:=gW p2;rw[e1,e2]at hrest;by_cases p3:x.U.length<=4
      .have e3:decide ((4:Int)<(x.U.length:Int))=false:=gW om;have e4:decide ((8:Int)<(x.us.length:Int))= !decide (x.us.length<=8):=by rw[gJ];simp;omega
       rw[gX p3]at hrest;refine .f (λK k=>by simp(disch:=omega) only[go_sem,ln,ip,e1,e2,c2,c6,usr,c7,e3,e4];exact k) ?_;exact .a hrest (by simp[kp,slot,Nat.beq]) rfl
      .have e3:decide ((4:Int)<(x.U.length:Int))=true:=gX om;rw[gW p3]at hrest;refine .f (λK k=>by simp(disch:=omega) only[go_sem,ln,ip,e1,e2,c2,c6,usr,c7,e3];exact k) ?_;exact .a hrest (by simp[kp,slot,Nat.beq]) rfl
    .have e1:decide (5000<x.pad)=false:=gW p1;rw[e1]at hrest;by_cases p3:x.U.length<=4
     .have e3:decide ((4:Int)<(x.U.length:Int))=false:=gW om;have e4:decide ((8:Int)<(x.us.length:Int))= !decide (x.us.length<=8):=by rw[gJ];simp;omega
      rw[gX p3]at hrest;refine .f (λK k=>by simp(disch:=omega) only[go_sem,ln,ip,e1,c2,c6,usr,c7,e3,e4];exact k) ?_;exact .a hrest (by simp[kp,slot,Nat.beq]) rfl
     .have e3:decide ((4:Int)<(x.U.length:Int))=true:=gX om;rw[gW p3]at hrest;refine .f (λK k=>by simp(disch:=omega) only[go_sem,ln,ip,e1,c2,c6,usr,c7,e3];exact k) ?_;exact .a hrest (by simp[kp,slot,Nat.beq]) rfl
   unfold ltI at hf;cases hA:(zvA x&&(decide (x.U.length<=4)&&decide (x.us.length<=8)))with
   | false=>
    rw[hA,vB,vB]at hf;refine .t (.e ?_);refine .v (.bool false) ?_;rw[show(l.all ltI)=false from hf.symm];exact fin _ _
   | true=>
    rw[hA,uP]at hf;simp only[gB,gY]at hA;obtain⟨_,hU4,hu8⟩:=hA;refine .us (.e ?_);refine .l ?_;suffices hl2:∀ k:Nat,k<=x.U.length->((((x.U.drop k).all λu=>decide (u.length<=400))&&(x.us.all λu=>decide (u.2.length<=3000)))&&(l.drop (j+1)).all ltI)=l.all ltI->PL prog _ _ [(0,.slice (itL l) l.length f),(3,O J (j:Int)),(4,.ptr H.length 0 0),(5,O J (k:Int))] (H++[⟨45,0,cdc x.p x.U x.us⟩]) _ by exact .a (hl2 0 om hf)
    clear hf;intro k hk hf;induction hd2:x.U.length - k using qD generalizing k with
    | _ d2 ih2=>
     refine .round (.f (λK k=>by simp(disch:=omega) only[go_sem,c2,c6,usr];exact k) ?_);refine .c (λh=> ?_) (λh=> ?_)
     .have hkU:k<x.U.length:=by grind
      have ua:=zxD x.U k hkU;rw[zcu _ x.U k hkU]at hf;have hn2:=λhf=>ih2 (x.U.length - (k+1)) om (k+1) om hf rfl;generalize x.U[k]=u at *;refine .skip (.b ?_);by_cases h4:u.length<=400
      .have d4:decide ((400:Int)<(u.length:Int))=false:=gW om;rw[gX h4,uP]at hf;refine .f (λK k=>by simp(disch:=omega) only[go_sem,c2,c6,usr,ua,ul,d4];exact k) ?_;refine .us (.e ?_);exact .a (hn2 hf)
      .have d4:decide ((400:Int)<(u.length:Int))=true:=gX om;rw[gW h4,vB,vB,vB]at hf;refine .f (λK k=>by simp(disch:=omega) only[go_sem,c2,c6,usr,ua,ul,d4];exact k) ?_;refine .t (.e ?_);refine .v (.bool false) ?_;rw[<-hf];exact fin _ _
     .have hkU:k=x.U.length:=by grind
      rw[hkU,wW,mV,uP]at hf;refine .exit ?_;clear ih2;refine .e (.l ?_);suffices hl3:∀ k:Nat,k<=x.us.length->(((x.us.drop k).all λu=>decide (u.2.length<=3000))&&(l.drop (j+1)).all ltI)=l.all ltI->PL prog _ _ [(0,.slice (itL l) l.length f),(3,O J (j:Int)),(4,.ptr H.length 0 0),(6,O J (k:Int))] (H++[⟨45,0,cdc x.p x.U x.us⟩]) _ by exact .a (hl3 0 om hf)
      clear hf hkU hk h hd2;intro k hk hf;induction hd3:x.us.length - k using qD generalizing k with
      | _ d3 ih3=>
       refine .round (.g (nq2 c2 c7) ?_);refine .c (λh=> ?_) (λh=> ?_)
       .have hku:k<x.us.length:=by grind
        have u1:=uq_1 x.us k hku;rw[zcu _ x.us k hku]at hf;have hn3:=λhf=>ih3 (x.us.length - (k+1)) om (k+1) om hf rfl;generalize x.us[k]=u at *;refine .skip (.b ?_);by_cases h4:u.2.length<=3000
        .have d4:decide ((3000:Int)<(u.2.length:Int))=false:=gW om;rw[gX h4,uP]at hf;refine .g (nq2 c2 (nq2 c7 (nq2 u1 (nq2 ql d4)))) ?_;refine .us (.e ?_);exact .a (hn3 hf)
        .have d4:decide ((3000:Int)<(u.2.length:Int))=true:=gX om;rw[gW h4,vB,vB]at hf;refine .g (nq2 c2 (nq2 c7 (nq2 u1 (nq2 ql d4)))) ?_;refine .t (.e ?_);refine .v (.bool false) ?_;rw[<-hf];exact fin _ _
       .have hku:k=x.us.length:=by grind
        rw[hku,wW,mV,uP]at hf;refine .exit (.e ?_);refine .keep [0,3] ?_;refine .view (Vs.trim (F1:=[(0,.slice (itL l) l.length f),(3,O J ((j+1:Nat):Int))]) (H1:=H) (λh=>h) (gV _) rfl ?_) (hnext hf);exact⟨.id (zk (zdJ _ _)),.id (.int _ _),trivial⟩
  .have hjl:j=l.length:=by grind
   subst hjl;rw[wW]at hf;rw[<-hf];refine .exit (.e ?_);refine .v (.bool true) ?_;exact fin0 _
end Sc
end Go.Proofs.YtleejngibkbjnaaGreatDoor
