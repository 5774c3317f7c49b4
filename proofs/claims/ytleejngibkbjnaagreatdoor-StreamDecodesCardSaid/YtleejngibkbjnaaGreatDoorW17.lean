/-
  Parts of the proof. No condition.
-/
import Derived.Test.YtleejngibkbjnaaGreatDoorW16
import Derived.Test.YtleejngibkbjnaaGreatDoorW06
open Go.Proofs.YtleejngibkbjnaaGreatDoor.Pm.PV renaming int → O
open Go.IntKind renaming i64 → J
open Go.Proofs.Tryz
set_option linter.all false
set_option maxRecDepth 100000
set_option maxHeartbeats 32000000
namespace Go.Proofs.YtleejngibkbjnaaGreatDoor.Sc
open Pm Ty Go.RowKit
theorem zzY(p:List UInt8)(n a k:Nat):∀ x∈(rA p n a).cells,Scoped k x:=λx hx=>by
 simp only[rA,gM,gL,uA]at hx;rcases hx with rfl|rfl|rfl
 .exact zk (zh _ _)
 .exact .int _ _
 .exact .int _ _
theorem zes(H:za)(i:Nat)(p:List UInt8)(n a:Nat)(h:HSc H):HSc (H.set i (rA p n a)):=HSc.set h (zzY _ _ _ _)
def rvU:Rr Nat->PV
 | .ok v _=>.tup [O J (v:Int),O J 0]
 | .er e _=>.tup [O J 0,O J ((e:Int)+1)]
def rvS:Rr Int->PV
 | .ok v _=>.tup [O J v,O J 0]
 | .er e _=>.tup [O J 0,O J ((e:Int)+1)]
theorem zha(k:Nat)(x y:Int):Scoped k (.tup [O J x,O J y]):=.tup λj x hx=>by have:=uE hx;simp only[gM,gL,uA]at this;rcases this with rfl|rfl<;>exact .int _ _
theorem zsl(k':IntKind)(s:Nat)(h:s<=40):za7 .shl .i64 1 k' (s:Int)=some (O J ((2^s:Nat):Int)):=by have h2:2^s<=2^40:=dF om h;simp only[za7,IntKind.bits];grind[w64]
theorem zj4(i:Nat)(p:List UInt8)(n a:Nat)(H:za)(hA:H[i]? =some (rA p n a))(ha:a<=n)(hn:n<=8 * p.length)(hp:p.length<=100000000):
  CallOk prog 206 [.ptr i 0 0] H (rvU (tkU p n a)) (H.set i (rA p n (tkU p n a).at)):=by
 have hi:=(gA.1 hA).1;have hself:=zam hA;have hA':=λK=>zas (K:=K) hA;refine .go func206 ntmps206 results206 ?_;refine .e (.g hA ?_);refine .us (.g (nq2 hA @rA.eq_1) ?_);refine .e (.l ?_);suffices hl:∀ j,j<=15->zrs p n 16 a=j+zrs p n (16 - j) (a+j)->a+j<=n->PL prog _ _ [(0,.ptr i 0 0),(4,.ptr H.length 0 0),(5,O J (j:Int))] (H++[rA p n (a+j)]) _ by exact .a (hl 0 om sp om)
 intro j hj hz hjn;induction hd:16 - j using Nat.strongRecOn generalizing j with
 | _ d ih=>
  subst hd;refine .round (.b ?_);by_cases h0:n=a+j
  .have t:=zb2 H.length p n (a+j) 1 (H++[rA p n (a+j)]) (hp0 _ _ _) hjn om om om;have hz0:zrs p n (16 - j) (a+j)=0:=zos om;have hr:tkU p n a= .er 3 a:=by unfold tkU;rw[gC om,gD om]
   refine .f (λK k=>by simp(disch:=omega) only[go_sem];refine VCx.call (t) rfl ?_;simp(disch:=omega) only[go_sem];exact k) ?_;refine .e (.t ?_);refine .e (.v (.tup [O J 0,O J 4]) ?_);rw[hr];exact .cut (show _=H.set i (rA p n a)++[_] by rw[hself]) sp (zes _ _ _ _ _) (.id (zha _ _ _))
  have t:=zee H.length p n (a+j) 1 (H++[rA p n (a+j)]) (hp0 _ _ _) om hn hp om;have hv1:vl p (a+j) 1=zal p (a+j):=by simp[vl]
  rw[hv1,hs0,show a+j+1=a+(j+1)from om]at t;have hub:=zch p (a+j);refine .f (λK k=>by simp(disch:=omega) only[go_sem];refine VCx.call (t) rfl ?_;simp(disch:=omega) only[go_sem];exact k) ?_;refine .e (.us ?_);by_cases h1:zal p (a+j)=1
  .have hz1:zrs p n (16 - j) (a+j)=0:=zor h1;rw[hz1,vQ]at hz;rw[h1];refine .e (.t ?_);refine .exit ?_;by_cases h2:n - (a+(j+1))<j
   .have t2:=zb2 H.length p n (a+(j+1)) j (H++[rA p n (a+(j+1))]) (hp0 _ _ _) om om om h2;have hr:tkU p n a= .er 3 a:=by unfold tkU;rw[gC om,gD om]
    refine .f (λK k=>by simp(disch:=omega) only[go_sem];refine VCx.call (t2) rfl ?_;simp(disch:=omega) only[go_sem];exact k) ?_;refine .e (.t ?_);refine .e (.v (.tup [O J 0,O J 4]) ?_);rw[hr];exact .cut (show _=H.set i (rA p n a)++[_] by rw[hself]) sp (zes _ _ _ _ _) (.id (zha _ _ _))
   .have t2:=zee H.length p n (a+(j+1)) j (H++[rA p n (a+(j+1))]) (hp0 _ _ _) om hn hp om;rw[hs0]at t2;have hr:tkU p n a= .ok (2^j+vl p (a+(j+1)) j - 1) (a+(2 * j+1)):=by unfold tkU;rw[gC om,gC om,hz,show a+j+1=a+(j+1)from om]
    have hvl:=zgQ p (a+(j+1)) j;have hpw:2^j<=2^15:=dF om hj;have hsum:((2^j:Nat):Int)+(vl p (a+(j+1)) j:Int) - 1=((2^j+vl p (a+(j+1)) j - 1:Nat):Int):=by omega
    rw[hr];simp only[Rr.at,rvU];rw[show a+(j+1)+j=a+(2 * j+1)from om]at t2;generalize vl p (a+(j+1)) j=w at *;refine .f (λK k=>by simp(disch:=omega) only[go_sem];refine VCx.call (t2) rfl ?_;simp(disch:=omega) only[go_sem];exact k) ?_;refine .e (.us ?_);refine .f (λK k=>by simp(disch:=omega) only[go_sem,hA',rA];exact k) ?_;have hpw2:2^j=2^j:=rfl;have hsh:=λk'=>zsl k' j om;generalize 2^j=m at *;refine .g (nq2 hsh hsum) ?_;refine .v (.tup [O J ((m+w - 1:Nat):Int),O J 0]) ?_;refine .cut (K:=[rA p n (a+(2 * j+1))]) ?_ sp (zes _ _ _ _ _) (.id (zha _ _ _));rw[uL _ _ hi];rfl
  .have h00:zal p (a+j)=0:=om;rw[h00];refine .e (.us ?_);have hzs:zrs p n (16 - j) (a+j)=zrs p n (16 - (j+1)) (a+(j+1))+1:=by rw[show 16 - j=(16 - (j+1))+1 from om,zlp om h00];rfl
   by_cases h15:j=15
   .have hr:tkU p n a= .er 2 a:=by subst h15;unfold tkU;rw[gD (by rw[hz,hzs];rfl)]
    have d:((j:Int)==15)=true:=by simp[h15]
    refine .g d ?_;refine .t (.e ?_);refine .v (.tup [O J 0,O J 3]) ?_;rw[hr];exact .cut (show _=H.set i (rA p n a)++[_] by rw[hself]) sp (zes _ _ _ _ _) (.id (zha _ _ _))
   .have d:((j:Int)==15)=false:=by grind
    refine .g d ?_;refine .us (.e ?_);exact .a (ih (16 - (j+1)) om (j+1) om om om rfl)
theorem zj5(i:Nat)(p:List UInt8)(n a:Nat)(H:za)(hA:H[i]? =some (rA p n a))(ha:a<=n)(hn:n<=8 * p.length)(hp:p.length<=100000000):
  CallOk prog 211 [.ptr i 0 0] H (rvS (tkS p n a)) (H.set i (rA p n (tkS p n a).at)):=by
 have t:=zj4 i p n a H hA ha hn hp;unfold tkS;cases hu:tkU p n a with
 | er e a1=>
  rw[hu]at t;have he:=(zgR hu).2;have d:((e:Int)+1 !=0)=true:=by simp;omega
  simp only[Rr.bind,rvU,rvS,Rr.at]at t |-;generalize H.set i (rA p n a1)=Hz at *;refine .go func211 ntmps211 results211 ?_;refine .e (.f (λK k=>by simp(disch:=omega) only[go_sem];refine VCx.call (t) rfl ?_;simp(disch:=omega) only[go_sem];exact k) ?_);refine .g d ?_;refine .t (.e ?_);exact .ret ⟨_,rfl,Fin.now⟩
 | ok w a1=>
  rw[hu]at t;have hb:=(zdR hu ha).1;simp only[Rr.bind,rvU,rvS,Rr.at]at t |-;generalize H.set i (rA p n a1)=Hz at *;have hm:(w:Int).tmod 2=((w%2:Nat):Int):=zlD w 2;refine .go func211 ntmps211 results211 ?_;refine .e (.f (λK k=>by simp(disch:=omega) only[go_sem];refine VCx.call (t) rfl ?_;simp(disch:=omega) only[go_sem];exact k) ?_);refine .e (.us ?_);by_cases h2:w%2=1
  .have hus:usg w=(((w+1) / 2:Nat):Int):=by unfold usg;rw[gD h2]
   rw[hus];have e1:(w:Int)+1=((w+1:Nat):Int):=om;have e2:(((w+1:Nat):Int)).tdiv 2=(((w+1) / 2:Nat):Int):=zoH _ 2;refine .g (nq2 hm h2) ?_;refine .t (.g (nq2 e1 e2) ?_);exact .ret ⟨_,rfl,Fin.now⟩
  .have h3:w%2=0:=om;have hus:usg w= -((w / 2:Nat):Int):=by unfold usg;rw[gC h2]
   rw[hus];have e2:(-(w:Int)).tdiv 2= -((w / 2:Nat):Int):=by simp_all
   refine .g (nq2 hm h3) ?_;refine .us (.f (λK k=>by simp(disch:=omega) only[go_sem,Int.zero_sub,e2];exact k) ?_);exact .ret ⟨_,rfl,Fin.now⟩
theorem zj6(i j v:Nat)(q:List UInt8)(n a:Nat)(H:za)(hA:H[i]? =some (rR j v n a))(hB:H[j]? =some (rB q v))(hne:i≠j)(ha:a<=n)(hn:n<=8 * q.length)(hq:q.length<=100000000):
  CallOk prog 280 [.ptr i 0 0] H (rvU (tkU q n a)) (H.set i (rR j v n (tkU q n a).at)):=by
 have hself:=zam hA;have lf:=zeJ i j v q n a H hA hB ha om;have hrl:(bs (zb (bl q))).length=8 * q.length:=by rw[zd,zca,zcK]
 refine .go func280 ntmps280 results280 ?_;refine .e (.e ?_);refine .l ?_;suffices hl:∀ k,k<=15->zrs q n 16 a=k+zrs q n (16 - k) (a+k)->a+k<=n->PL prog _ _ [(0,.ptr i 0 0),(4,O J (k:Int))] H _ by exact .a (hl 0 om sp om)
 intro k hk hz hkn;induction hd:16 - k using Nat.strongRecOn generalizing k with
 | _ d ih=>
  subst hd;have e1:(a:Int)+(k:Int)=((a+k:Nat):Int):=om;have hub:=zch q (a+k);refine .round ?_;by_cases h1:a+k<n/\zal q (a+k)=0
  .have d1:decide ((k:Int)<((n - a:Nat):Int))=true:=gX om;have hg:=zi1 q (a+k) om;rw[h1.2]at hg;refine .dn λK hK=> ?_;simp(disch:=omega) only[go_sem];refine VCy.call (lf) rfl ?_;simp(disch:=omega) only[go_sem,d1,hA,hB,rR,rB,e1,hrl,hg];refine hK _ _ ?_;refine .t (.skip ?_);refine .b (.e ?_);have hzs:zrs q n (16 - k) (a+k)=zrs q n (16 - (k+1)) (a+(k+1))+1:=by rw[show 16 - k=(16 - (k+1))+1 from om,zlp h1.1 h1.2];rfl
   by_cases h15:k=15
   .have hr:tkU q n a= .er 2 a:=by subst h15;unfold tkU;rw[gD (by rw[hz,hzs];rfl)]
    have d2:((k:Int)+1==16)=true:=by simp[h15]
    refine .g d2 ?_;refine .t (.e ?_);rw[hr];show PW _ _ _ _ H _;rw[<-hself];exact .ret ⟨_,rfl,.inl ⟨rfl,by rw[hself];exact hself.symm⟩⟩
   .have d2:((k:Int)+1==16)=false:=by rw[wS];omega
    refine .g d2 ?_;refine .us ?_;exact .a (ih (16 - (k+1)) om (k+1) om om om rfl) (by simp[kp,slot,Nat.beq]) rfl
  have hz0:zrs q n (16 - k) (a+k)=0:=by
   by_cases h2:a+k<n
   .exact zor om
   .exact zos om
  rw[hz0,vQ]at hz;suffices hrest:PW prog _ _ [(0,.ptr i 0 0),(4,O J (k:Int)),(25,.bool false)] H _ by
   by_cases h2:a+k<n
   .have d1:decide ((k:Int)<((n - a:Nat):Int))=true:=gX om;have hg:=zi1 q (a+k) om;rw[show zal q (a+k)=1 from om]at hg;refine .dn λK hK=> ?_;simp(disch:=omega) only[go_sem];refine VCy.call (lf) rfl ?_;simp(disch:=omega) only[go_sem,d1,hA,hB,rR,rB,e1,hrl,hg];refine hK _ _ ?_;exact .a hrest
   .have d1:decide ((k:Int)<((n - a:Nat):Int))=false:=gW om;refine .dn λK hK=> ?_;simp(disch:=omega) only[go_sem];refine VCy.call (lf) rfl ?_;simp(disch:=omega) only[go_sem,d1];refine hK _ _ ?_;exact .a hrest
  refine .u (.exit ?_);by_cases h3:n - a<2 * k+1
  .have hr:tkU q n a= .er 3 a:=by unfold tkU;rw[gC om,gD om]
   have d3:decide (((n - a:Nat):Int)<2 * (k:Int)+1)=true:=gX om;refine .f (λK k=>by simp(disch:=omega) only[go_sem,d3];refine VCx.call (lf) rfl ?_;simp(disch:=omega) only[go_sem,d3];exact k) ?_;refine .t (.e ?_);rw[hr];exact .ret ⟨_,rfl,.inl ⟨rfl,hself.symm⟩⟩
  .have hr:tkU q n a= .ok (2^k+vl q (a+k+1) k - 1) (a+(2 * k+1)):=by unfold tkU;rw[gC om,gC om,hz]
   have d3:decide (((n - a:Nat):Int)<2 * (k:Int)+1)=false:=gW om;have hvv:=zxL q n a om om;rw[hz]at hvv;have tk:=zeG i j v q n a (2 * k+1) H hA hB hne om hn hq om;rw[hvv]at tk;have hvl:=zgQ q (a+k+1) k;have hpw:2^k<=2^15:=dF om hk;have hp0:0<2^k:=Nat.pow_pos om;have e4:(2:Int) * (k:Int)+1=((2 * k+1:Nat):Int):=om;rw[hr];simp only[rvU,Rr.at];have hw1:1<=2^k+vl q (a+k+1) k/\2^k+vl q (a+k+1) k<=65536:=om;generalize 2^k+vl q (a+k+1) k=w at *;have e5:(w:Int) - 1=((w - 1:Nat):Int):=om;refine .f (λK k=>by simp(disch:=omega) only[go_sem,d3];refine VCx.call (lf) rfl ?_;simp(disch:=omega) only[go_sem,d3];exact k) ?_;refine .us (.f (λK k=>by simp(disch:=omega) only[go_sem,e4];refine VCx.call (tk) rfl ?_;simp(disch:=omega) only[go_sem,e4];exact k) ?_);refine .g e5 ?_;exact .ret ⟨_,rfl,Fin.now⟩
theorem zd6(i j v:Nat)(q:List UInt8)(n a:Nat)(H:za)(hA:H[i]? =some (rR j v n a))(hB:H[j]? =some (rB q v))(hne:i≠j)(ha:a<=n)(hn:n<=8 * q.length)(hq:q.length<=100000000):
  CallOk prog 282 [.ptr i 0 0] H (rvS (tkS q n a)) (H.set i (rR j v n (tkS q n a).at)):=by
 have t:=zj6 i j v q n a H hA hB hne ha hn hq;unfold tkS;cases hu:tkU q n a with
 | er e a1=>
  rw[hu]at t;have he:=(zgR hu).2;simp only[Rr.bind,rvU,rvS,Rr.at]at t |-;generalize H.set i (rR j v n a1)=Hz at *;refine .go func282 ntmps282 results282 ?_;refine .e (.f (λK k=>by simp(disch:=omega) only[go_sem];refine VCx.call (t) rfl ?_;simp(disch:=omega) only[go_sem];exact k) ?_);refine .e (.us ?_);refine .e ?_;exact .ret ⟨_,rfl,Fin.now⟩
 | ok w a1=>
  rw[hu]at t;have hb:=(zdR hu ha).1;simp only[Rr.bind,rvU,rvS,Rr.at]at t |-;generalize H.set i (rR j v n a1)=Hz at *;have hm:(w:Int).tmod 2=((w%2:Nat):Int):=zlD w 2;refine .go func282 ntmps282 results282 ?_;refine .e (.f (λK k=>by simp(disch:=omega) only[go_sem];refine VCx.call (t) rfl ?_;simp(disch:=omega) only[go_sem];exact k) ?_);by_cases h2:w%2=1
  .have hus:usg w=(((w+1) / 2:Nat):Int):=by unfold usg;rw[gD h2]
   rw[hus];have e1:(w:Int)+1=((w+1:Nat):Int):=om;have e2:(((w+1:Nat):Int)).tdiv 2=(((w+1) / 2:Nat):Int):=zoH _ 2;refine .g (nq2 hm h2) ?_;refine .t (.g (nq2 e1 e2) ?_);exact .ret ⟨_,rfl,Fin.now⟩
  .have h3:w%2=0:=om;have hus:usg w= -((w / 2:Nat):Int):=by unfold usg;rw[gC h2]
   rw[hus];have e2:(w:Int).tdiv 2=((w / 2:Nat):Int):=zoH _ 2;refine .g (nq2 hm h3) ?_;refine .us (.f (λK k=>by simp(disch:=omega) only[go_sem,Int.zero_sub,e2];exact k) ?_);exact .ret ⟨_,rfl,Fin.now⟩
end Go.Proofs.YtleejngibkbjnaaGreatDoor.Sc
