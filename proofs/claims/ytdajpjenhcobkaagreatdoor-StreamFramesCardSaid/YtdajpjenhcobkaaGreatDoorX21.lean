/-
  Parts of the proof. No condition.
-/
import Derived.Test.YtdajpjenhcobkaaGreatDoorX20
import Derived.Test.YtdajpjenhcobkaaGreatDoorX07
open Nat renaming pow_le_pow_right → qB
open Go.Proofs.Tryz renaming prog → qA
set_option linter.all false
set_option maxRecDepth 100000
set_option maxHeartbeats 32000000
namespace Go.Proofs.YtdajpjenhcobkaaGreatDoor.Sc
open Pm Ty Go.RowKit
def eg(v:Nat):List Bool:=za8 0 (Nat.log2 (v+1))++za8 (v+1) (Nat.log2 (v+1)+1)
theorem zxp(p:List UInt8)(n a k:Nat):∀ x∈(rA p n a).cells,Scoped k x:=λx hx=>by
 simp only[rA,List.mem_cons,List.not_mem_nil,or_false]at hx;rcases hx with rfl|rfl|rfl
 .exact zr (zh _ _)
 .exact .int _ _
 .exact .int _ _
theorem zd4(H:za)(i:Nat)(p:List UInt8)(n a:Nat)(h:HSc H):HSc (H.set i (rA p n a)):=HSc.set h (zxp _ _ _ _)
def rvU:Rr Nat->PV
 | .ok v _=>.tup [.int .i64 (v:Int),.int .i64 0]
 | .er e _=>.tup [.int .i64 0,.int .i64 ((e:Int)+1)]
def rvS:Rr Int->PV
 | .ok v _=>.tup [.int .i64 v,.int .i64 0]
 | .er e _=>.tup [.int .i64 0,.int .i64 ((e:Int)+1)]
theorem zgD(k:Nat)(x y:Int):Scoped k (.tup [.int .i64 x,.int .i64 y]):=.tup λj x hx=>by have:=List.mem_of_getElem? hx;simp only[List.mem_cons,List.not_mem_nil,or_false]at this;rcases this with rfl|rfl<;>exact .int _ _
theorem zqz(k':IntKind)(s:Nat)(h:s<=40):zbb .shl .i64 1 k' (s:Int)=some (.int .i64 ((2^s:Nat):Int)):=by have h2:2^s<=2^40:=qB om h;simp only[zbb,IntKind.bits];grind[w64]
theorem zjb(i:Nat)(p:List UInt8)(n a:Nat)(H:za)(hA:H[i]? =some (rA p n a))(ha:a<=n)(hn:n<=8 * p.length)(hp:p.length<=100000000):
  CallOk qA 220 [.ptr i 0 0] H (rvU (tkU p n a)) (H.set i (rA p n (tkU p n a).at)):=by
 have hi:=(List.getElem?_eq_some_iff.1 hA).1;have hself:=zai hA;have hA':=λK=>zay (K:=K) hA;refine .go Tryz.func220 Tryz.ntmps220 Tryz.results220 ?_;refine .e ?_;refine .g hA ?_;refine .us ?_;refine .f (λK k=>by simp(disch:=omega) only[go_sem,hA,rA];exact k) ?_;refine .e ?_;refine .l ?_;suffices hl:∀ j,j<=15->zrs p n 16 a=j+zrs p n (16 - j) (a+j)->a+j<=n->PL qA _ _ [(0,.ptr i 0 0),(4,.ptr H.length 0 0),(5,.int .i64 (j:Int))] (H++[rA p n (a+j)]) _ by exact .at [0,4,5] (hl 0 om sp om) rfl rfl
 intro j hj hz hjn;induction hd:16 - j using Nat.strongRecOn generalizing j with
 | _ d ih=>
  subst hd;refine .round ?_;refine .b ?_;by_cases h0:n=a+j
  .have t:=zbY H.length p n (a+j) 1 (H++[rA p n (a+j)]) (hp0 _ _ _) hjn om om om;have hz0:zrs p n (16 - j) (a+j)=0:=zm4 om;have hr:tkU p n a= .er 3 a:=by unfold tkU;rw[if_neg om,if_pos om]
   refine .f (λK k=>by simp(disch:=omega) only[go_sem];refine VCx.call (t) rfl ?_;simp(disch:=omega) only[go_sem];exact k) ?_;refine .e ?_;refine .t ?_;refine .e ?_;refine .v (.tup [.int .i64 0,.int .i64 4]) ?_;rw[hr];exact .cut (show _=H.set i (rA p n a)++[_] by rw[hself]) sp (zd4 _ _ _ _ _) (.id (zgD _ _ _))
  have t:=zdU H.length p n (a+j) 1 (H++[rA p n (a+j)]) (hp0 _ _ _) om hn hp om;have hv1:vl p (a+j) 1=zag p (a+j):=by simp[vl]
  rw[hv1,hs0,show a+j+1=a+(j+1)from om]at t;have hub:=zcd p (a+j);refine .f (λK k=>by simp(disch:=omega) only[go_sem];refine VCx.call (t) rfl ?_;simp(disch:=omega) only[go_sem];exact k) ?_;refine .e ?_;refine .us ?_;by_cases h1:zag p (a+j)=1
  .have hz1:zrs p n (16 - j) (a+j)=0:=zm3 h1;rw[hz1,Nat.add_zero]at hz;rw[h1];refine .e ?_;refine .t ?_;refine .exit ?_;by_cases h2:n - (a+(j+1))<j
   .have t2:=zbY H.length p n (a+(j+1)) j (H++[rA p n (a+(j+1))]) (hp0 _ _ _) om om om h2;have hr:tkU p n a= .er 3 a:=by unfold tkU;rw[if_neg om,if_pos om]
    refine .f (λK k=>by simp(disch:=omega) only[go_sem];refine VCx.call (t2) rfl ?_;simp(disch:=omega) only[go_sem];exact k) ?_;refine .e ?_;refine .t ?_;refine .e ?_;refine .v (.tup [.int .i64 0,.int .i64 4]) ?_;rw[hr];exact .cut (show _=H.set i (rA p n a)++[_] by rw[hself]) sp (zd4 _ _ _ _ _) (.id (zgD _ _ _))
   .have t2:=zdU H.length p n (a+(j+1)) j (H++[rA p n (a+(j+1))]) (hp0 _ _ _) om hn hp om;rw[hs0]at t2;have hr:tkU p n a= .ok (2^j+vl p (a+(j+1)) j - 1) (a+(2 * j+1)):=by unfold tkU;rw[if_neg om,if_neg om,hz,show a+j+1=a+(j+1)from om]
    have hvl:=zgg p (a+(j+1)) j;have hpw:2^j<=2^15:=qB om hj;have hsum:((2^j:Nat):Int)+(vl p (a+(j+1)) j:Int) - 1=((2^j+vl p (a+(j+1)) j - 1:Nat):Int):=by omega
    rw[hr];simp only[Rr.at,rvU];rw[show a+(j+1)+j=a+(2 * j+1)from om]at t2;generalize vl p (a+(j+1)) j=w at *;refine .f (λK k=>by simp(disch:=omega) only[go_sem];refine VCx.call (t2) rfl ?_;simp(disch:=omega) only[go_sem];exact k) ?_;refine .e ?_;refine .us ?_;refine .f (λK k=>by simp(disch:=omega) only[go_sem,hA',rA];exact k) ?_;have hpw2:2^j=2^j:=rfl;have hsh:=λk'=>zqz k' j om;generalize 2^j=m at *;refine .g (nq2 hsh hsum) ?_;refine .v (.tup [.int .i64 ((m+w - 1:Nat):Int),.int .i64 0]) ?_;refine .cut (K:=[rA p n (a+(2 * j+1))]) ?_ sp (zd4 _ _ _ _ _) (.id (zgD _ _ _));rw[List.set_append_left _ _ hi];rfl
  .have h00:zag p (a+j)=0:=om;rw[h00];refine .e ?_;refine .us ?_;have hzs:zrs p n (16 - j) (a+j)=zrs p n (16 - (j+1)) (a+(j+1))+1:=by rw[show 16 - j=(16 - (j+1))+1 from om,zkm om h00];rfl
   by_cases h15:j=15
   .have hr:tkU p n a= .er 2 a:=by subst h15;unfold tkU;rw[if_pos (by rw[hz,hzs];rfl)]
    have d:((j:Int)==15)=true:=by simp[h15]
    refine .g d ?_;refine .t ?_;refine .e ?_;refine .v (.tup [.int .i64 0,.int .i64 3]) ?_;rw[hr];exact .cut (show _=H.set i (rA p n a)++[_] by rw[hself]) sp (zd4 _ _ _ _ _) (.id (zgD _ _ _))
   .have d:((j:Int)==15)=false:=by grind
    refine .g d ?_;refine .us ?_;refine .e ?_;exact .at [0,4,5] (ih (16 - (j+1)) om (j+1) om om om rfl) rfl rfl
theorem zjc(i:Nat)(p:List UInt8)(n a:Nat)(H:za)(hA:H[i]? =some (rA p n a))(ha:a<=n)(hn:n<=8 * p.length)(hp:p.length<=100000000):
  CallOk qA 225 [.ptr i 0 0] H (rvS (tkS p n a)) (H.set i (rA p n (tkS p n a).at)):=by
 have t:=zjb i p n a H hA ha hn hp;unfold tkS;cases hu:tkU p n a with
 | er e a1=>
  rw[hu]at t;have he:=(zgh hu).2;have d:((e:Int)+1 !=0)=true:=by simp;omega
  simp only[Rr.bind,rvU,rvS,Rr.at]at t |-;generalize H.set i (rA p n a1)=Hz at *;refine .go Tryz.func225 Tryz.ntmps225 Tryz.results225 ?_;refine .e ?_;refine .f (λK k=>by simp(disch:=omega) only[go_sem];refine VCx.call (t) rfl ?_;simp(disch:=omega) only[go_sem];exact k) ?_;refine .g d ?_;refine .t ?_;refine .e ?_;exact .ret ⟨_,rfl,Fin.now⟩
 | ok w a1=>
  rw[hu]at t;have hb:=(zdz hu ha).1;simp only[Rr.bind,rvU,rvS,Rr.at]at t |-;generalize H.set i (rA p n a1)=Hz at *;have hm:(w:Int).tmod 2=((w%2:Nat):Int):=zkx w 2;refine .go Tryz.func225 Tryz.ntmps225 Tryz.results225 ?_;refine .e ?_;refine .f (λK k=>by simp(disch:=omega) only[go_sem];refine VCx.call (t) rfl ?_;simp(disch:=omega) only[go_sem];exact k) ?_;refine .e ?_;refine .us ?_;by_cases h2:w%2=1
  .have hus:usg w=(((w+1) / 2:Nat):Int):=by unfold usg;rw[if_pos h2]
   rw[hus];have e1:(w:Int)+1=((w+1:Nat):Int):=om;have e2:(((w+1:Nat):Int)).tdiv 2=(((w+1) / 2:Nat):Int):=zne _ 2;refine .g (nq2 hm h2) ?_;refine .t ?_;refine .g (nq2 e1 e2) ?_;exact .ret ⟨_,rfl,Fin.now⟩
  .have h3:w%2=0:=om;have hus:usg w= -((w / 2:Nat):Int):=by unfold usg;rw[if_neg h2]
   rw[hus];have e2:(-(w:Int)).tdiv 2= -((w / 2:Nat):Int):=by simp_all
   refine .g (nq2 hm h3) ?_;refine .us ?_;refine .f (λK k=>by simp(disch:=omega) only[go_sem,Int.zero_sub,e2];exact k) ?_;exact .ret ⟨_,rfl,Fin.now⟩
theorem zjd(i j v:Nat)(q:List UInt8)(n a:Nat)(H:za)(hA:H[i]? =some (rR j v n a))(hB:H[j]? =some (rB q v))(hne:i≠j)(ha:a<=n)(hn:n<=8 * q.length)(hq:q.length<=100000000):
  CallOk qA 276 [.ptr i 0 0] H (rvU (tkU q n a)) (H.set i (rR j v n (tkU q n a).at)):=by
 have hself:=zai hA;have lf:=zee i j v q n a H hA hB ha om;have hrl:(bs (zb (bl q))).length=8 * q.length:=by rw[zd,zb7,zcx]
 refine .go Tryz.func276 Tryz.ntmps276 Tryz.results276 ?_;refine .e ?_;refine .e ?_;refine .l ?_;suffices hl:∀ k,k<=15->zrs q n 16 a=k+zrs q n (16 - k) (a+k)->a+k<=n->PL qA _ _ [(0,.ptr i 0 0),(4,.int .i64 (k:Int))] H _ by exact .at [0,4] (hl 0 om sp om) rfl rfl
 intro k hk hz hkn;induction hd:16 - k using Nat.strongRecOn generalizing k with
 | _ d ih=>
  subst hd;have e1:(a:Int)+(k:Int)=((a+k:Nat):Int):=om;have hub:=zcd q (a+k);refine .round ?_;by_cases h1:a+k<n/\zag q (a+k)=0
  .have d1:decide ((k:Int)<((n - a:Nat):Int))=true:=decide_eq_true om;have hg:=zif q (a+k) om;rw[h1.2]at hg;(repeat refine .seq ?_);refine .draw mix kr λK hK=> ?_;simp(disch:=omega) only[go_sem];refine VCy.call (lf) rfl ?_;simp(disch:=omega) only[go_sem,d1,hA,hB,rR,rB,e1,hrl,hg];refine hK _ _ ?_;clear hK K;refine .t ?_;refine .skip ?_;refine .b ?_;refine .e ?_;have hzs:zrs q n (16 - k) (a+k)=zrs q n (16 - (k+1)) (a+(k+1))+1:=by rw[show 16 - k=(16 - (k+1))+1 from om,zkm h1.1 h1.2];rfl
   by_cases h15:k=15
   .have hr:tkU q n a= .er 2 a:=by subst h15;unfold tkU;rw[if_pos (by rw[hz,hzs];rfl)]
    have d2:((k:Int)+1==16)=true:=by simp[h15]
    refine .g d2 ?_;refine .t ?_;refine .e ?_;rw[hr];show PW _ _ _ _ H _;rw[<-hself];exact .ret ⟨_,rfl,.inl ⟨rfl,by rw[hself];exact hself.symm⟩⟩
   .have d2:((k:Int)+1==16)=false:=by rw[beq_eq_false_iff_ne];omega
    refine .g d2 ?_;refine .us ?_;exact .at [0,4] (ih (16 - (k+1)) om (k+1) om om om rfl) (by simp[kp,slot,Nat.beq]) rfl
  have hz0:zrs q n (16 - k) (a+k)=0:=by
   by_cases h2:a+k<n
   .exact zm3 om
   .exact zm4 om
  rw[hz0,Nat.add_zero]at hz;suffices hrest:PW qA _ _ [(0,.ptr i 0 0),(4,.int .i64 (k:Int)),(25,.bool false)] H _ by
   by_cases h2:a+k<n
   .have d1:decide ((k:Int)<((n - a:Nat):Int))=true:=decide_eq_true om;have hg:=zif q (a+k) om;rw[show zag q (a+k)=1 from om]at hg;(repeat refine .seq ?_);refine .draw mix kr λK hK=> ?_;simp(disch:=omega) only[go_sem];refine VCy.call (lf) rfl ?_;simp(disch:=omega) only[go_sem,d1,hA,hB,rR,rB,e1,hrl,hg];refine hK _ _ ?_;clear hK K;exact .at [0,4,25] hrest rfl rfl
   .have d1:decide ((k:Int)<((n - a:Nat):Int))=false:=decide_eq_false om;(repeat refine .seq ?_);refine .draw mix kr λK hK=> ?_;simp(disch:=omega) only[go_sem];refine VCy.call (lf) rfl ?_;simp(disch:=omega) only[go_sem,d1];refine hK _ _ ?_;clear hK K;exact .at [0,4,25] hrest rfl rfl
  refine .u ?_;refine .exit ?_;by_cases h3:n - a<2 * k+1
  .have hr:tkU q n a= .er 3 a:=by unfold tkU;rw[if_neg om,if_pos om]
   have d3:decide (((n - a:Nat):Int)<2 * (k:Int)+1)=true:=decide_eq_true om;refine .f (λK k=>by simp(disch:=omega) only[go_sem,d3];refine VCx.call (lf) rfl ?_;simp(disch:=omega) only[go_sem,d3];exact k) ?_;refine .t ?_;refine .e ?_;rw[hr];exact .ret ⟨_,rfl,.inl ⟨rfl,hself.symm⟩⟩
  .have hr:tkU q n a= .ok (2^k+vl q (a+k+1) k - 1) (a+(2 * k+1)):=by unfold tkU;rw[if_neg om,if_neg om,hz]
   have d3:decide (((n - a:Nat):Int)<2 * (k:Int)+1)=false:=decide_eq_false om;have hvv:=zvm q n a om om;rw[hz]at hvv;have tk:=zeb i j v q n a (2 * k+1) H hA hB hne om hn hq om;rw[hvv]at tk;have hvl:=zgg q (a+k+1) k;have hpw:2^k<=2^15:=qB om hk;have hp0:0<2^k:=Nat.pow_pos om;have e4:(2:Int) * (k:Int)+1=((2 * k+1:Nat):Int):=om;rw[hr];simp only[rvU,Rr.at];have hw1:1<=2^k+vl q (a+k+1) k/\2^k+vl q (a+k+1) k<=65536:=om;generalize 2^k+vl q (a+k+1) k=w at *;have e5:(w:Int) - 1=((w - 1:Nat):Int):=om;refine .f (λK k=>by simp(disch:=omega) only[go_sem,d3];refine VCx.call (lf) rfl ?_;simp(disch:=omega) only[go_sem,d3];exact k) ?_;refine .us ?_;refine .f (λK k=>by simp(disch:=omega) only[go_sem,e4];refine VCx.call (tk) rfl ?_;simp(disch:=omega) only[go_sem,e4];exact k) ?_;refine .g e5 ?_;exact .ret ⟨_,rfl,Fin.now⟩
theorem zdO(i j v:Nat)(q:List UInt8)(n a:Nat)(H:za)(hA:H[i]? =some (rR j v n a))(hB:H[j]? =some (rB q v))(hne:i≠j)(ha:a<=n)(hn:n<=8 * q.length)(hq:q.length<=100000000):
  CallOk qA 278 [.ptr i 0 0] H (rvS (tkS q n a)) (H.set i (rR j v n (tkS q n a).at)):=by
 have t:=zjd i j v q n a H hA hB hne ha hn hq;unfold tkS;cases hu:tkU q n a with
 | er e a1=>
  rw[hu]at t;have he:=(zgh hu).2;simp only[Rr.bind,rvU,rvS,Rr.at]at t |-;generalize H.set i (rR j v n a1)=Hz at *;refine .go Tryz.func278 Tryz.ntmps278 Tryz.results278 ?_;refine .e ?_;refine .f (λK k=>by simp(disch:=omega) only[go_sem];refine VCx.call (t) rfl ?_;simp(disch:=omega) only[go_sem];exact k) ?_;refine .e ?_;refine .us ?_;refine .e ?_;exact .ret ⟨_,rfl,Fin.now⟩
 | ok w a1=>
  rw[hu]at t;have hb:=(zdz hu ha).1;simp only[Rr.bind,rvU,rvS,Rr.at]at t |-;generalize H.set i (rR j v n a1)=Hz at *;have hm:(w:Int).tmod 2=((w%2:Nat):Int):=zkx w 2;refine .go Tryz.func278 Tryz.ntmps278 Tryz.results278 ?_;refine .e ?_;refine .f (λK k=>by simp(disch:=omega) only[go_sem];refine VCx.call (t) rfl ?_;simp(disch:=omega) only[go_sem];exact k) ?_;by_cases h2:w%2=1
  .have hus:usg w=(((w+1) / 2:Nat):Int):=by unfold usg;rw[if_pos h2]
   rw[hus];have e1:(w:Int)+1=((w+1:Nat):Int):=om;have e2:(((w+1:Nat):Int)).tdiv 2=(((w+1) / 2:Nat):Int):=zne _ 2;refine .g (nq2 hm h2) ?_;refine .t ?_;refine .g (nq2 e1 e2) ?_;exact .ret ⟨_,rfl,Fin.now⟩
  .have h3:w%2=0:=om;have hus:usg w= -((w / 2:Nat):Int):=by unfold usg;rw[if_neg h2]
   rw[hus];have e2:(w:Int).tdiv 2=((w / 2:Nat):Int):=zne _ 2;refine .g (nq2 hm h3) ?_;refine .us ?_;refine .f (λK k=>by simp(disch:=omega) only[go_sem,Int.zero_sub,e2];exact k) ?_;exact .ret ⟨_,rfl,Fin.now⟩
end Go.Proofs.YtdajpjenhcobkaaGreatDoor.Sc
