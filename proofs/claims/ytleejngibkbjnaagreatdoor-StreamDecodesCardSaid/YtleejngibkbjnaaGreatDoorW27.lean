/-
  Parts of the proof. No condition.
-/
import Derived.Test.YtleejngibkbjnaaGreatDoorW19
open Go.Proofs.YtleejngibkbjnaaGreatDoor.Pm.PV renaming int → O
open Go.IntKind renaming i64 → J
open List renaming take → qA, drop → qD
open Nat renaming reduceAdd → qB, strongRecOn → qE
open Go.Proofs.Tryz
set_option linter.all false
set_option maxRecDepth 100000
set_option maxHeartbeats 32000000
namespace Go.Proofs.YtleejngibkbjnaaGreatDoor
namespace Sc
open Pm Ty Go.RowKit
theorem zld(i j v:Nat)(q:List UInt8)(n a:Nat)(H:za)(hA:H[i]? =some (rR j v n a))(hB:H[j]? =some (rB q v))(hne:i≠j)(ha:a<=n)(hn:n<=8 * q.length)(hq:q.length<=100000000):
  CallOk prog 281 [.ptr i 0 0] H (rvF (tkF q n a)) (H.set i (rR j v n (tkF q n a).at)):=by
 have hself:=zam hA;cases hf:tkF q n a with
 | ok b a1=>
  obtain⟨rfl,h2,rfl⟩:=zdS hf;have t:=zeG i j v q n a 1 _ hA hB hne om hn hq om;rw[show vl q a 1=zal q a by simp[vl]]at t;have e1:((zal q a:Int)==1)=decide (zal q a=1):=by rw[gJ];simp;omega
  simp only[rvF,Rr.at];generalize H.set i (rR j v n (a+1))=Hz at *;refine .go func281 ntmps281 results281 ?_;refine .e (.f (λK k=>by simp(disch:=omega) only[go_sem];refine VCx.call (t) rfl ?_;simp(disch:=omega) only[go_sem];exact k) ?_);refine .g e1 ?_;exact .ret ⟨_,rfl,Fin.now⟩
 | er e a1=>obtain⟨rfl,rfl,h2⟩:=zgS hf;have t:=zgp i j v q n a1 1 _ hA hB om om om om;simp only[rvF,Rr.at,hself];refine .go func281 ntmps281 results281 ?_;refine .e (.f (λK k=>by simp(disch:=omega) only[go_sem];refine VCx.call (t) rfl ?_;simp(disch:=omega) only[go_sem];exact k) ?_);refine .e ?_;exact .ret ⟨_,rfl,Fin.now⟩
def uG(H:za)(i j v n a:Nat)(X:za)(B4 B5:Blk)(K:za):za:=H.set i (rR j v n a)++(X++B4::B5::K)
def mW(m:Mb):Blk:=⟨142,1,mbc m⟩
theorem zag(m:Mb):(mW m).ver=1:=rfl
theorem zah(m:Mb):(mW m).cells=mbc m:=rfl
theorem zcO(m:Mb):(mW m).e=142:=rfl
theorem za5(m:Mb):(⟨142,1,mbc m⟩:Blk)=mW m:=rfl
def sB(s:St):Blk:=⟨319,1,stc s⟩
theorem zg4(s:St):(sB s).ver=1:=rfl
theorem zg5(s:St):(sB s).cells=stc s:=rfl
theorem zr8(s:St):(sB s).e=319:=rfl
theorem zlV(s:St):(⟨319,1,stc s⟩:Blk)=sB s:=rfl
section
variable (H:za) (i j v n a:Nat) (X:za) (B4 B5:Blk) (K:za)
theorem zdu(hX:X.length=4):(uG H i j v n a X B4 B5 K).length=H.length+6+K.length:=by simp[uG,hX];omega
theorem zhQ(L:za):uG H i j v n a X B4 B5 K++L=uG H i j v n a X B4 B5 (K++L):=by simp[uG]
theorem zuS(hi:i<H.length):(uG H i j v n a X B4 B5 K)[i]? =some (rR j v n a):=by unfold uG;rw[gK (by simpa using hi)];simp[hi]
theorem zuR{B:Blk}(hj:H[j]? =some B)(hne:i≠j):(uG H i j v n a X B4 B5 K)[j]? =some B:=by unfold uG;rw[gK (by simpa using(gA.1 hj).1),gR hne];exact hj
theorem zlA(hi:i<H.length)(a':Nat):(uG H i j v n a X B4 B5 K).set i (rR j v n a')=uG H i j v n a' X B4 B5 K:=by unfold uG;rw[uL _ _ (by simpa using hi),vL]
theorem zq9(hX:X.length=4):(uG H i j v n a X B4 B5 K)[H.length+4]? =some B4:=by unfold uG;rw[gN sp,gS,show H.length+4 - H.length=4 from om,gN om,hX];rfl
theorem zq8(hX:X.length=4):(uG H i j v n a X B4 B5 K)[H.length+5]? =some B5:=by unfold uG;rw[gN sp,gS,show H.length+5 - H.length=5 from om,gN om,hX];rfl
theorem zxF(hX:X.length=4)(B:Blk):(uG H i j v n a X B4 B5 (B::K))[H.length+6]? =some B:=by unfold uG;rw[gN sp,gS,show H.length+6 - H.length=6 from om,gN om,hX];rfl
theorem zlB(hX:X.length=4)(B:Blk):(uG H i j v n a X B4 B5 K).set (H.length+4) B=uG H i j v n a X B B5 K:=by unfold uG;rw[uC _ _ sp,gS,show H.length+4 - H.length=4 from om,uC _ _ om,hX];rfl
theorem zjj(hX:X.length=4)(B:Blk):(uG H i j v n a X B4 B5 K).set (H.length+5) B=uG H i j v n a X B4 B K:=by unfold uG;rw[uC _ _ sp,gS,show H.length+5 - H.length=5 from om,uC _ _ om,hX];rfl
end
theorem zAd(m:Mb)(n:Nat):∀ x∈(mW m).cells,Scoped n x:=λx hx=>zfg [m] n x (by simpa[mW]using hx)
theorem zzR(s:St)(n:Nat):∀ x∈(sB s).cells,Scoped n x:=λx hx=>by simp only[sB,stc,gM,gL,uA]at hx;rcases hx with rfl|rfl|rfl|rfl|rfl|rfl|rfl|rfl<;>exact .int _ _
theorem ztu(H:za)(i j v n a a':Nat)(X:za)(m m':Mb)(s s':St)(hi:i<H.length)(hj:j<H.length)(hX:X.length=4)(h:HSc (uG H i j v n a X (mW m) (sB s) [])):HSc (uG H i j v n a' X (mW m') (sB s') []):=by have h1:=HSc.set (id:=i) (k:=rR j v n a') h (zwV j v n a' _ (by rw[zdu _ _ _ _ _ _ _ _ _ _ hX];omega));rw[zlA _ _ _ _ _ _ _ _ _ _ hi]at h1;have h2:=HSc.set (id:=H.length+4) (k:=mW m') h1 (zAd m' _);rw[zlB _ _ _ _ _ _ _ _ _ _ hX]at h2;have h3:=HSc.set (id:=H.length+5) (k:=sB s') h2 (zzR s' _);rwa[zjj _ _ _ _ _ _ _ _ _ _ hX]at h3
def rvK:Rr (Mb×Bool)->PV
 | .ok x _=>.tup [.bool x.2,O J 0]
 | .er e _=>.tup [.bool false,O J ((e:Int)+1)]
def zd4(m:Mb):Mb:={ m with ca:=false,cb:=false,cc:=false,cd:=false,ce:=false,cf:=false }
def mKd:Rr (Mb×Bool)->Mb
 | .ok x _=>zd4 x.1
 | .er _ _=>zMb
end Sc
namespace Sc
open Pm Ty Go.RowKit
theorem zx6(n:Nat)(x:Rr (Mb×Bool)):Scoped n (rvK x):=by
 cases x<;>
 exact .tup (zO λx hx=>by
  simp only[gM,gL,uA]at hx;rcases hx with rfl|rfl
  .exact .bool _
  .exact .int _ _)
section
variable (H:za) (i j v:Nat) (q:List UInt8) (n a:Nat) (X:za) (c:Cx) (s:St) (hi:i<H.length) (hB:H[j]? =some (rB q v)) (hne:i≠j) (hX:X.length=4) (ha:a<=n) (hn:n<=8 * q.length) (hq:q.length<=100000000)
include hi hB hne hX ha hn hq
theorem ztf:CallOk prog 267 [.ptr i 0 0,.agg (cxc c),.ptr (H.length+4) 1 0] (uG H i j v n a X (mW zMb) (sB s) []) (rvK (zb0 c q n a)) (uG H i j v n (match zb0 c q n a with| .ok _ a1=>a1| .er _ a1=>a1) X (mW (mKd (zb0 c q n a))) (sB s) []):=by
 have hj:=(gA.1 hB).1;have g6:=λa B4 B5 K B=>zxF H i j v n a X B4 B5 K hX B;have g5:=λa B4 B5 K=>zq8 H i j v n a X B4 B5 K hX;have g4:=λa B4 B5 K=>zq9 H i j v n a X B4 B5 K hX;have s5:=λa B4 B5 K B=>zjj H i j v n a X B4 B5 K hX B;have s4:=λa B4 B5 K B=>zlB H i j v n a X B4 B5 K hX B;have c1:=zew c;have cx0:(cxc c)[0]? =some (O J c.t):=rfl;have hzl:=zu zMb zW;have hzl2:=zu { zMb with k:=2 } zW;have hlen:=zdu H i j v n a X (mW zMb) (sB s) [] hX;have fin:∀(w:PV) (a':Nat) (m:Mb) (_:Scoped (H.length+6) w),Fin (uG H i j v n a X (mW zMb) (sB s) []) w (uG H i j v n a' X (mW m) (sB s) []) w (uG H i j v n a' X (mW m) (sB s) [⟨205,0,cxc c⟩]):=λw a' m hw=>by refine .cut (K:=[⟨205,0,cxc c⟩]) (zhQ H i j v n a' X (mW m) (sB s) [] _).symm (by rw[zdu _ _ _ _ _ _ _ _ _ _ hX,zdu _ _ _ _ _ _ _ _ _ _ hX]) (ztu H i j v n a a' X zMb m s s hi hj hX) ?_;rw[zdu _ _ _ _ _ _ _ _ _ _ hX];exact .id hw
 have tu:=zj6 i j v q n a (uG H i j v n a X (mW zMb) (sB s) [⟨205,0,cxc c⟩]) (zuS _ _ _ _ _ _ _ _ _ _ hi) (zuR _ _ _ _ _ _ _ _ _ _ hB hne) hne ha hn hq;rw[zlA _ _ _ _ _ _ _ _ _ _ hi]at tu;generalize hres:zb0 c q n a=res;have hrs:=zx6 (H.length+6) res;unfold zb0 at hres;refine .go func267 ntmps267 results267 ?_;refine .g c1 ?_;refine .a (F1:=[(0,.ptr i 0 0),(2,.ptr (H.length+4) 1 0),(4,.ptr (H.length+6) 0 0)]) (H1:=uG H i j v n a X (mW zMb) (sB s) [⟨205,0,cxc c⟩]) ?_ (by simp[kp,slot,Nat.beq,hlen]) (zhQ _ _ _ _ _ _ _ _ _ _ _);by_cases ht1:c.t=1
 .have q1:(c.t==1)=true:=by simp[ht1]
  rw[gD ht1]at hres;subst hres;refine .g (nq2 g6 (nq2 cx0 q1)) ?_;refine .t (.f (λK k=>by simp(disch:=omega) only[go_sem,g4,s4,zag,zah,zcO,ziz,za5,hzl];exact k) ?_);refine .e ?_;exact .ret ⟨_,rfl,fin _ a _ hrs⟩
 have q1:(c.t==1)=false:=by simp[ht1]
 rw[gC ht1]at hres;refine .g (nq2 g6 (nq2 cx0 q1)) ?_;refine .us ?_;cases hu:tkU q n a with
 | er e a1=>
  rw[hu]at tu hres;simp only[rvU,Rr.at]at tu;rw[Rr.bind_er]at hres;subst hres;have d0:((e:Int)+1 !=0)=true:=by simp;omega
  have he:=(zgR hu).2;refine .f (λK k=>by simp(disch:=omega) only[go_sem];refine VCx.call (tu) rfl ?_;simp(disch:=omega) only[go_sem];exact k) ?_;refine .g d0 ?_;refine .t (.e ?_);exact .ret ⟨_,rfl,fin _ a1 zMb hrs⟩
 | ok w a1=>
  have hb:=zdR hu ha;rw[hu]at tu hres;simp only[rvU,Rr.at]at tu;rw[Rr.bind_ok]at hres;refine .f (λK k=>by simp(disch:=omega) only[go_sem];refine VCx.call (tu) rfl ?_;simp(disch:=omega) only[go_sem];exact k) ?_;by_cases hw0:w=0
  .have d0:((w:Int)==0)=true:=by simp[hw0]
   rw[gC (by split<;>omega),gC (by split<;>omega),gD hw0]at hres;subst hres;refine .g d0 ?_;refine .t (.e ?_);exact .ret ⟨_,rfl,fin _ a1 zMb hrs⟩
  have d0:((w:Int)==0)=false:=by rw[wS];omega
  refine .g d0 ?_;refine .us (.e ?_);refine .to [0,2,8,10] [(0,.ptr i 0 0),(2,.ptr (H.length+4) 1 0),(8,O J (w:Int)),(10,O J ((if c.t=2 then 3 else 7:Nat):Int))] (uG H i j v n a1 X (mW zMb) (sB s) [⟨205,0,cxc c⟩]) ?_ ?_
  .by_cases ht2:c.t=2
   .have q2:(c.t==2)=true:=by simp[ht2]
    rw[gD ht2];refine .g (nq2 g6 (nq2 cx0 q2)) ?_;refine .t (.e ?_);exact⟨rfl,rfl⟩
   .have q2:(c.t==2)=false:=by simp[ht2]
    rw[gC ht2];refine .g (nq2 g6 (nq2 cx0 q2)) ?_;refine .u ?_;exact .skip ⟨rfl,rfl⟩
  have hL:(if c.t=2 then 3 else 7:Nat)<=7:=by split<;>omega
  generalize (if c.t=2 then 3 else 7:Nat)=last at *;by_cases h1:last<w
  .have d1:decide ((last:Int)<(w:Int))=true:=gX om;rw[gD h1]at hres;subst hres;refine .g d1 ?_;refine .t (.e ?_);exact .ret ⟨_,rfl,fin _ a1 zMb hrs⟩
  have d1:decide ((last:Int)<(w:Int))=false:=gW om;rw[gC h1]at hres;refine .g d1 ?_;refine .us ?_;by_cases h2:w=last
  .have d2:((w:Int)==(last:Int))=true:=by simp[h2]
   rw[gD h2]at hres;subst hres;refine .g d2 ?_;refine .t (.f (λK k=>by simp(disch:=omega) only[go_sem,g4,s4,zag,zah,zcO,ziz,za5,hzl];exact k) ?_);refine .e ?_;exact .ret ⟨_,rfl,fin _ a1 _ hrs⟩
  have d2:((w:Int)==(last:Int))=false:=by rw[wS];omega
  rw[gC h2,gC hw0]at hres;subst hres;refine .g d2 ?_;refine .us ?_;have h6:w=1\/w=2\/w=3\/w=4\/w=5\/w=6:=om;clear h1 h2 d1 d2 hb hL tu d0 hw0 hu;refine .f (λK k=>by simp(disch:=omega) only[go_sem,g4,s4,zag,zah,zcO,ziz,za5,hzl];exact k) ?_;rcases h6 with rfl|rfl|rfl|rfl|rfl|rfl;all_goals
   refine .f (λK k=>by simp(disch:=omega) only[go_sem,g4,s4,zag,zah,zcO,zs0,za5,hzl2,qB];exact k) ?_;refine .e ?_;exact .ret ⟨_,rfl,fin _ a1 _ hrs⟩
end
end Sc
namespace Sc
open Pm Ty Go.RowKit
def zz1(H:za)(i j v n:Nat)(X:za)(x:Rr (Mb×St)):PV->za->Prop:=λw H'=>
 match x with
 | .ok y a=>w= O J 0/\H'=uG H i j v n a X (mW y.1) (sB y.2) []
 | .er e _=>w=ecd e/\∃ a m s,a<=n/\m.lv.length=384/\H'=uG H i j v n a X (mW m) (sB s) []
theorem za6{H:za}{i j v n a a':Nat}{X:za}{m m':Mb}{s s':St}{R:PV->za->Prop}{e:Int}{K:za}(hi:i<H.length)(hj:j<H.length)(hX:X.length=4)(hR:R (O J e) (uG H i j v n a' X (mW m') (sB s') [])):zop (uG H i j v n a X (mW m) (sB s) []) R (O J e) (uG H i j v n a' X (mW m') (sB s') K):=
 .inr (.inr λhs=>⟨O J e,uG H i j v n a' X (mW m') (sB s') [],hR,by rw[zdu _ _ _ _ _ _ _ _ _ _ hX,zdu _ _ _ _ _ _ _ _ _ _ hX];exact gV _,by
  have h:=ztu H i j v n a a' X m m' s s' hi hj hX hs;have:=CutH.base (K:=K) h;rwa[zhQ]at this,.id (.int _ _)⟩)
theorem zyq(m:Mb)(d k:Nat)(hd:d<2)(hk:k<2)(x:Int):(mbc m).set (5+d * 4+k * 2) (O J x)=mbc (zaE m d k x (vYm m d k)):=by have h1:d=0\/d=1:=om;have h2:k=0\/k=1:=om;rcases h1 with rfl|rfl<;>rcases h2 with rfl|rfl<;>rfl
theorem zyp(m:Mb)(d k:Nat)(hd:d<2)(hk:k<2)(x y:Int):(mbc (zaE m d k x (vYm m d k))).set (5+d * 4+k * 2+1) (O J y)=mbc (zaE m d k x y):=by have h1:d=0\/d=1:=om;have h2:k=0\/k=1:=om;rcases h1 with rfl|rfl<;>rcases h2 with rfl|rfl<;>rfl
theorem zys(m:Mb)(d k:Nat)(hd:d<2)(hk:k<2)(x y:Int):(mbc (zaE m d k x y))[5+d * 4+k * 2]? =some (O J x):=by have h1:d=0\/d=1:=om;have h2:k=0\/k=1:=om;rcases h1 with rfl|rfl<;>rcases h2 with rfl|rfl<;>rfl
theorem zyt(m:Mb)(d k:Nat)(hd:d<2)(hk:k<2)(x y:Int):qA 2 (qD (5+d * 4+k * 2) (mbc (zaE m d k x y)))=[O J x,O J y]:=by have h1:d=0\/d=1:=om;have h2:k=0\/k=1:=om;rcases h1 with rfl|rfl<;>rcases h2 with rfl|rfl<;>rfl
theorem zyn(m:Mb)(d:Nat)(hd:d<2):(mbc m)[1+d]? =some (.bool (usd m d)):=by have h1:d=0\/d=1:=om;rcases h1 with rfl|rfl<;>rfl
theorem zkI(m:Mb):(mbc m)[3]? =some (.bool m.fp):=rfl
theorem zzN(s:St)(d:Nat)(hd:d<2):(stc s)[4+d * 2]? =some (O J (sXs s d)):=by have h1:d=0\/d=1:=om;rcases h1 with rfl|rfl<;>rfl
theorem zxX(s:St)(d:Nat)(hd:d<2):(stc s)[4+d * 2+1]? =some (O J (sYs s d)):=by have h1:d=0\/d=1:=om;rcases h1 with rfl|rfl<;>rfl
theorem zxU(s:St)(d:Nat)(hd:d<2)(x y:Int):qA (4+d * 2) (stc s)++ O J x:: O J y::qD (4+d * 2+(1+1)) (stc s)=stc (zbx s d x y):=by have h1:d=0\/d=1:=om;rcases h1 with rfl|rfl<;>rfl
section
variable (H:za) (i j v:Nat) (q:List UInt8) (n:Nat) (X:za) (c:Cx) (hi:i<H.length) (hB:H[j]? =some (rB q v)) (hne:i≠j) (hX:X.length=4) (hn:n<=8 * q.length) (hq:q.length<=100000000)
include hi hB hne hX hn hq
theorem zq7(m:Mb)(s:St)(a:Nat)(hml:m.lv.length=384)(hs:vrS s)(ha:a<=n)(hk:m.k=2):CallEx prog 268 [.ptr i 0 0,.agg (cxc c),.ptr (H.length+4) 1 0,.ptr (H.length+5) 1 0] (uG H i j v n a X (mW m) (sB s) []) (zz1 H i j v n X (zbr c q n m s a)):=by
 have hj:=(gA.1 hB).1;have g6:=λa B4 B5 K B=>zxF H i j v n a X B4 B5 K hX B;have g5:=λa B4 B5 K=>zq8 H i j v n a X B4 B5 K hX;have g4:=λa B4 B5 K=>zq9 H i j v n a X B4 B5 K hX;have s5:=λa B4 B5 K B=>zjj H i j v n a X B4 B5 K hX B;have s4:=λa B4 B5 K B=>zlB H i j v n a X B4 B5 K hX B;have gi:=λa B4 B5 K=>zuS H i j v n a X B4 B5 K hi;have gj:=λa B4 B5 K=>zuR H i j v n a X B4 B5 K hB hne;have si:=λa B4 B5 K a'=>zlA H i j v n a X B4 B5 K hi a';have c1:=zew c;have l1:(cxc c).length=4:=rfl;have tk1:qA 4 (cxc c)=cxc c:=rfl;have hlen:=zdu H i j v n a X (mW m) (sB s) [] hX;have bo:=λK=>zhE c K;have fo:=λK=>zhy c K;generalize hres:zbr c q n m s a=res;unfold zbr at hres;rw[gD hk]at hres;refine CallEx.body (F0:=[(0,.ptr i 0 0),(1,.agg (cxc c)),(2,.ptr (H.length+4) 1 0),(3,.ptr (H.length+5) 1 0)]) func268 rfl ntmps268 results268 rfl kr rfl ?_;refine .g c1 ?_;refine .a (F1:=[(0,.ptr i 0 0),(2,.ptr (H.length+4) 1 0),(3,.ptr (H.length+5) 1 0),(5,.ptr (H.length+6) 0 0)]) (H1:=uG H i j v n a X (mW m) (sB s) [⟨205,0,cxc c⟩]) ?_ (by simp[kp,slot,Nat.beq,hlen]) (zhQ _ _ _ _ _ _ _ _ _ _ _);refine .e ?_;clear hlen;suffices hrest:∀(m:Mb) (a:Nat),m.lv.length=384->a<=n->zbs c q n 2 0 m s a=res->PW prog _ _ [(0,.ptr i 0 0),(2,.ptr (H.length+4) 1 0),(3,.ptr (H.length+5) 1 0),(5,.ptr (H.length+6) 0 0)] (uG H i j v n a X (mW m) (sB s) [⟨205,0,cxc c⟩]) _ by
  have hlm:=zu m hml;refine .m (nq2 g6 (nq2 tk1 l1)) bo ?_;cases hbv:bcx c with
  | false=>
   rw[hbv,gC (by decide),Rr.bind_ok]at hres;refine .us ?_;exact .a (hrest m a hml ha hres)
  | true=>
   rw[hbv,gD rfl]at hres;have bt:=zld i j v q n a _ (gi a (mW m) (sB s) [⟨205,0,cxc c⟩]) (gj _ _ _ _) hne ha hn hq;rw[si]at bt;refine .t ?_;cases hf:tkF q n a with
   | ok b a1=>
    obtain⟨rfl,h2,_⟩:=zdS hf;rw[hf,Rr.bind_ok,Rr.bind_ok]at hres;rw[hf]at bt;simp only[rvF,Rr.at]at bt;refine .x λK hK=> ?_;simp(maxSteps:=9^9) (disch:=omega) only[go_sem];refine VCx.call (bt) rfl ?_;simp(maxSteps:=9^9) (disch:=omega) only[go_sem,g4,s4,zag,zah,zcO,hlm,zkF,za5];refine hK _ _ ?_;clear hK K;refine .e (.us ?_);exact .a (hrest { m with fp:=b } (a+1) hml om hres)
   | er e a1=>obtain⟨rfl,rfl,h2⟩:=zgS hf;rw[hf,Rr.bind_er,Rr.bind_er]at hres;rw[hf]at bt;simp only[rvF,Rr.at]at bt;refine .x λK hK=> ?_;simp(maxSteps:=9^9) (disch:=omega) only[go_sem];refine VCx.call (bt) rfl ?_;simp(maxSteps:=9^9) (disch:=omega) only[go_sem,g4,s4,zag,zah,zcO,hlm,zkF,za5];refine hK _ _ ?_;clear hK K;refine .e (.t ?_);refine .e (.ret ⟨_,rfl,za6 hi hj hX ?_⟩);rw[<-hres];exact⟨rfl,a1,{ m with fp:=false },s,ha,hml,rfl⟩
 clear hres ha hml;intro m a hml ha hres;refine .e (.l ?_);suffices hl1:∀(d:Nat) (m1:Mb) (s1:St) (a1:Nat),d<=2->SameU m m1->vrS s1->a1<=n->zbs c q n (2 - d) d m1 s1 a1=res->PL prog _ _ [(0,.ptr i 0 0),(2,.ptr (H.length+4) 1 0),(3,.ptr (H.length+5) 1 0),(5,.ptr (H.length+6) 0 0),(10,O J (d:Int))] (uG H i j v n a1 X (mW m1) (sB s1) [⟨205,0,cxc c⟩]) _ by exact .a (hl1 0 m s a om (.refl m) hs ha hres)
 clear hres ha hs;intro d m1 s1 a1 hd hm1 hs1 ha1 hres;induction hdd:2 - d using qE generalizing d m1 s1 a1 with
 | _ dd ih=>
  refine .round (.e ?_);refine .c (λh=> ?_) (λh=> ?_);rotate_left
  .have h6:d=2:=by grind
   subst h6;refine .exit ?_;simp only[vK,zbs]at hres;refine .e (.ret ⟨_,rfl,za6 hi hj hX ?_⟩);rw[<-hres];exact⟨rfl,rfl⟩
  have h6:d<2:=by grind
  obtain⟨n',hn'⟩:∃ n',2 - d=n'+1:=⟨1 - d,om⟩;rw[hn',zbs]at hres;have hnx:=λm1 s1 a1=>ih (2 - (d+1)) om (d+1) m1 s1 a1 om;rw[show 2 - (d+1)=n' from om]at hnx;have hdr:zdY c q n m1 s1 d a1=if usd m1 d then zaS c q n d (nvM m1) 0 m1 s1 a1 else .ok (m1,s1) a1:=rfl
  have env2:nvM m1=nvM m:=by unfold nvM;rw[hm1.2.2.2.1]
  have hum:∀ m2,SameU m m2->usd m2 d=usd m d:=λm2 h=>by unfold usd;rw[h.2.1,h.2.2.1]
  rw[hdr,hum m1 hm1,env2]at hres;have hnv:=zwZ m;refine .skip (.b ?_);refine .e (.l ?_);have hud:=λm2=>zyn m2 d h6;cases hu:usd m d with
  | false=>
   rw[hu,gC (by decide),Rr.bind_ok]at hres;refine .round ?_;have hu1:usd m1 d=false:=by simp_all
   refine .f (λK k=>by simp(maxSteps:=9^9) (disch:=omega) only[go_sem,g4,zag,zah,hud,hu1];exact k) ?_;refine .u (.exit ?_);refine .e ?_;exact .a (hnx m1 s1 a1 hm1 hs1 ha1 hres rfl)
  | true=>
   rw[hu,gD rfl]at hres;suffices hl2:∀(k:Nat) (m2:Mb) (s2:St) (a2:Nat),k<=nvM m->SameU m m2->vrS s2->a2<=n->((zaS c q n d (nvM m - k) k m2 s2 a2).bind λx a1=>zbs c q n n' (d+1) x.1 x.2 a1)=res->
     PL prog _ _ [(0,.ptr i 0 0),(2,.ptr (H.length+4) 1 0),(3,.ptr (H.length+5) 1 0),(5,.ptr (H.length+6) 0 0),(10,O J (d:Int)),(11,O J (k:Int))] (uG H i j v n a2 X (mW m2) (sB s2) [⟨205,0,cxc c⟩]) _ by
    exact .a (hl2 0 m1 s1 a1 om hm1 hs1 ha1 hres)
   clear ih hres hs1 ha1 hdr env2 hm1;intro k m2 s2 a2 hk2 hm2 hs2 ha2 hres;induction hkk:nvM m - k using qE generalizing k m2 s2 a2 with
   | _ kk ih2=>
    have hu2:usd m2 d=true:=by simp_all
    have hfp:m2.fp=m.fp:=hm2.2.2.2.1;have hml2:m2.lv.length=384:=by rw[hm2.1];exact hml
    by_cases h7:k=nvM m
    .subst h7;simp only[vK,zaS,Rr.bind_ok]at hres;refine .round ?_;cases hmf:m.fp with
     | true=>
      have h8:nvM m=2:=by unfold nvM;rw[hmf];rfl
      rw[h8];refine .f (λK k=>by simp(maxSteps:=9^9) (disch:=omega) only[go_sem,g4,zag,zah,hud,hu2];exact k) ?_;refine .u (.exit ?_);refine .e ?_;exact .a (hnx m2 s2 a2 hm2 hs2 ha2 hres rfl)
     | false=>
      have h8:nvM m=1:=by unfold nvM;rw[hmf];rfl
      have h9:m2.fp=false:=by rw[hfp,hmf]
      rw[h8];refine .f (λK k=>by simp(maxSteps:=9^9) (disch:=omega) only[go_sem,g4,zag,zah,hud,hu2];exact k) ?_;refine .t (.skip ?_);refine .b (.f (λK k=>by simp(maxSteps:=9^9) (disch:=omega) only[go_sem,g4,zag,zah,zkI,h9];exact k) ?_);refine .t (.exit ?_);refine .e ?_;exact .a (hnx m2 s2 a2 hm2 hs2 ha2 hres rfl)
    have h8:k<nvM m:=om;have hk22:k<2:=om;obtain⟨n2,hn2⟩:∃ n2,nvM m - k=n2+1:=⟨nvM m - k - 1,om⟩;rw[hn2,zaS,Rr.bind_bind]at hres;have hnx2:=λm1 s1 a1=>ih2 (nvM m - (k+1)) om (k+1) m1 s1 a1 om;rw[show nvM m - (k+1)=n2 from om]at hnx2;clear ih2;have dk:decide ((k:Int)<2)=true:=gX om;have hfk:k=1->m2.fp=true:=λe=>by simp_all[nvM]
    refine .round (.f (λK k=>by simp(maxSteps:=9^9) (disch:=omega) only[go_sem,g4,zag,zah,hud,hu2,dk];exact k) ?_);refine .t (.skip ?_);refine .b ?_;suffices h13:PW prog _ _ [(0,.ptr i 0 0),(2,.ptr (H.length+4) 1 0),(3,.ptr (H.length+5) 1 0),(5,.ptr (H.length+6) 0 0),(10,O J (d:Int)),(11,O J (k:Int)),(54,.bool false)] (uG H i j v n a2 X (mW m2) (sB s2) [⟨205,0,cxc c⟩]) _ by
     have k01:k=0\/k=1:=om;rcases k01 with rfl|rfl
     .refine .e ?_;exact .a h13
     .have hf2:=hfk rfl;refine .f (λK k=>by simp(maxSteps:=9^9) (disch:=omega) only[go_sem,g4,zag,zah,zkI,hf2];exact k) ?_;exact .a h13
    refine .us ?_;suffices h14:PW prog _ _ [(0,.ptr i 0 0),(2,.ptr (H.length+4) 1 0),(3,.ptr (H.length+5) 1 0),(5,.ptr (H.length+6) 0 0),(10,O J (d:Int)),(11,O J (k:Int)),(62,.bool (m2.fp||fcx c))] (uG H i j v n a2 X (mW m2) (sB s2) [⟨205,0,cxc c⟩]) _ by
     cases hf2:m2.fp with
     | true=>
      rw[hf2]at h14;refine .f (λK k=>by simp(maxSteps:=9^9) (disch:=omega) only[go_sem,g4,zag,zah,zkI,hf2];exact k) ?_;exact .a h14
     | false=>rw[hf2]at h14;refine .x λK hK=> ?_;simp(maxSteps:=9^9) (disch:=omega) only[go_sem,g4,zag,zah,zkI,hf2,g6,tk1,l1];refine VCx.call (fo _) rfl ?_;simp(maxSteps:=9^9) (disch:=omega) only[go_sem];refine hK _ _ ?_;clear hK K;exact .a h14
    unfold zc1 at hres;have hsv:=hs2 d;clear hfp hfk hu2;suffices hrest:∀(m3:Mb) (a3:Nat),SameU m m3->a3<=n->((((tkD q n (sXs s2 d) 63 a3).bind λx a2=>(tkD q n (sYs s2 d) 63 a2).bind λy a3=>.ok (zaE m3 d k x y,zbx s2 d x y) a3).bind λv a=>(zaS c q n d n2 (k+1) v.1 v.2 a).bind λx a1=>zbs c q n n' (d+1) x.1 x.2 a1)=res)->
      PW prog _ _ [(0,.ptr i 0 0),(2,.ptr (H.length+4) 1 0),(3,.ptr (H.length+5) 1 0),(5,.ptr (H.length+6) 0 0),(10,O J (d:Int)),(11,O J (k:Int))] (uG H i j v n a3 X (mW m3) (sB s2) [⟨205,0,cxc c⟩]) _ by
     have hlm:=zu m2 hml2;cases hsel:(m2.fp||fcx c)with
     | false=>
      rw[hsel,gC (by decide),Rr.bind_ok]at hres;refine .us ?_;exact .a (hrest m2 a2 hm2 ha2 hres)
     | true=>
      rw[hsel,gD rfl]at hres;refine .t ?_;by_cases han:a2<n
      .have hf:tkF q n a2= .ok (decide (zal q a2=1)) (a2+1):=by unfold tkF;rw[gD han]
       rw[hf,Rr.bind_ok,Rr.bind_ok]at hres;have hub:=zch q a2;have t:=zeG i j v q n a2 1 _ (gi a2 (mW m2) (sB s2) [⟨205,0,cxc c⟩]) (gj _ _ _ _) hne om hn hq om;rw[si,show vl q a2 1=zal q a2 by simp[vl]]at t;have hbn:((decide (zal q a2=1)).toNat:Int)=(zal q a2:Int):=by have:zal q a2=0\/zal q a2=1:=om;rcases this with e|e<;>rw[e]<;>rfl
       rw[hbn]at hres;have hst:=zs1 m2 d k h6 hk22 (zal q a2:Int);refine .f (λK k=>by simp(maxSteps:=9^9) (disch:=omega) only[go_sem];refine VCx.call (t) rfl ?_;simp(maxSteps:=9^9) (disch:=omega) only[go_sem];exact k) ?_;refine .e (.us ?_);refine .f (λK k=>by simp(maxSteps:=9^9) (disch:=omega) only[go_sem,g4,s4,zag,zah,zcO,hlm,hst,za5];exact k) ?_;exact .a (hrest _ (a2+1) (hm2.trans (zia m2 d k _)) om hres)
      .have hf:tkF q n a2= .er 3 a2:=by unfold tkF;rw[gC han]
       rw[hf,Rr.bind_er,Rr.bind_er,Rr.bind_er]at hres;have t:=zgp i j v q n a2 1 _ (gi a2 (mW m2) (sB s2) [⟨205,0,cxc c⟩]) (gj _ _ _ _) om om om om;refine .f (λK k=>by simp(maxSteps:=9^9) (disch:=omega) only[go_sem];refine VCx.call (t) rfl ?_;simp(maxSteps:=9^9) (disch:=omega) only[go_sem];exact k) ?_;refine .e (.t ?_);refine .e (.ret ⟨_,rfl,za6 hi hj hX ?_⟩);rw[<-hres];exact⟨rfl,a2,m2,s2,ha2,hml2,rfl⟩
    clear hres ha2 hml2 hm2;intro m3 a3 hm3 ha3 hres;have hml3:m3.lv.length=384:=by rw[hm3.1];exact hml
    have hlm:=zu m3 hml3;have t1:=zd6 i j v q n a3 _ (gi a3 (mW m3) (sB s2) [⟨205,0,cxc c⟩]) (gj _ _ _ _) hne ha3 hn hq;rw[si]at t1;unfold tkD at hres;simp only[show((63:Nat):Int)=63 from rfl]at hres;cases h1:tkS q n a3 with
    | er e a4=>
     have he:=zft h1;rw[h1]at t1 hres;simp only[rvS,Rr.at,Rr.bind_er]at t1 hres;have d0:((e:Int)+1 !=0)=true:=by simp;omega
     refine .f (λK k=>by simp(maxSteps:=9^9) (disch:=omega) only[go_sem];refine VCx.call (t1) rfl ?_;simp(maxSteps:=9^9) (disch:=omega) only[go_sem];exact k) ?_;refine .g d0 ?_;refine .t (.e ?_);refine .ret ⟨_,rfl,za6 hi hj hX ?_⟩;rw[<-hres];exact⟨rfl,a4,m3,s2,om,hml3,rfl⟩
    | ok dx a4=>
     have hb:=zcS h1 ha3;rw[h1]at t1 hres;simp only[rvS,Rr.at]at t1;rw[Rr.bind_ok]at hres;refine .f (λK k=>by simp(maxSteps:=9^9) (disch:=omega) only[go_sem];refine VCx.call (t1) rfl ?_;simp(maxSteps:=9^9) (disch:=omega) only[go_sem];exact k) ?_;refine .e (.us ?_);have gx:=zzN s2 d h6;have sx:=zyq m3 d k h6 hk22;have hmx:∀ x,(mbc (zaE m3 d k x (vYm m3 d k))).length=408:=λx=>zu _ (by rw[zeb];exact hml3);have gxx:=zys m3 d k h6 hk22;(repeat refine .seq ?_);refine .drawt [] [] mix kr λK hK=> ?_;simp(maxSteps:=9^9) (disch:=omega) only[go_sem,g4,g5,s4,zg4,zg5,zag,zah,zcO,gx,sx,hlm,za5];refine hK _ _ ?_;clear hK K;have vr0:=λK=>zdt (sXs s2 d+dx) 0 K;have evr:vrg (sXs s2 d+dx) 0=win (sXs s2 d+dx) 63:=by unfold vrg;simp[win]
     rw[evr]at vr0;generalize hxx:sXs s2 d+dx=x at *;refine .a (F1:=[(0,.ptr i 0 0),(2,.ptr (H.length+4) 1 0),(3,.ptr (H.length+5) 1 0),(5,.ptr (H.length+6) 0 0),(10,O J (d:Int)),(11,O J (k:Int))]) (H1:=uG H i j v n a4 X (mW (zaE m3 d k x (vYm m3 d k))) (sB s2) [⟨205,0,cxc c⟩]) ?_ rfl rfl;cases hwx:win x 63 with
     | false=>
      rw[hwx]at vr0 hres;rw[gC (by decide)]at hres;simp only[Rr.bind_er]at hres;refine .x λK hK=> ?_;simp(maxSteps:=9^9) (disch:=omega) only[go_sem,g4,zag,zah,gxx];refine VCx.call (vr0 _) rfl ?_;simp(maxSteps:=9^9) (disch:=omega) only[go_sem];refine hK _ _ ?_;clear hK K;refine .t (.e ?_);refine .ret ⟨_,rfl,za6 hi hj hX ?_⟩;rw[<-hres];exact⟨rfl,a4,_,s2,hb.2.2,by rw[zeb];exact hml3,rfl⟩
     | true=>
      have hxb:=zfs hwx;rw[hwx]at vr0 hres;rw[gD rfl,Rr.bind_ok]at hres;refine .x λK hK=> ?_;simp(maxSteps:=9^9) (disch:=omega) only[go_sem,g4,zag,zah,gxx];refine VCx.call (vr0 _) rfl ?_;simp(maxSteps:=9^9) (disch:=omega) only[go_sem];refine hK _ _ ?_;clear hK K;refine .us ?_;have t2:=zd6 i j v q n a4 _ (gi a4 (mW (zaE m3 d k x (vYm m3 d k))) (sB s2) [⟨205,0,cxc c⟩]) (gj _ _ _ _) hne hb.2.2 hn hq;rw[si]at t2;cases h2:tkS q n a4 with
      | er e a5=>
       have he:=zft h2;rw[h2]at t2 hres;simp only[rvS,Rr.at,Rr.bind_er]at t2 hres;have d0:((e:Int)+1 !=0)=true:=by simp;omega
       refine .f (λK k=>by simp(maxSteps:=9^9) (disch:=omega) only[go_sem];refine VCx.call (t2) rfl ?_;simp(maxSteps:=9^9) (disch:=omega) only[go_sem];exact k) ?_;refine .g d0 ?_;refine .t (.e ?_);refine .ret ⟨_,rfl,za6 hi hj hX ?_⟩;rw[<-hres];exact⟨rfl,a5,_,s2,om,by rw[zeb];exact hml3,rfl⟩
      | ok dy a5=>
       have hb2:=zcS h2 hb.2.2;rw[h2]at t2 hres;simp only[rvS,Rr.at]at t2;rw[Rr.bind_ok]at hres;refine .f (λK k=>by simp(maxSteps:=9^9) (disch:=omega) only[go_sem];refine VCx.call (t2) rfl ?_;simp(maxSteps:=9^9) (disch:=omega) only[go_sem];exact k) ?_;refine .e (.us ?_);have gy:=zxX s2 d h6;have sy:=zyp m3 d k h6 hk22 x;have hmx1:=hmx x;have gvv:=zyt m3 d k h6 hk22;have hmxy:∀ y,(mbc (zaE m3 d k x y)).length=408:=λy=>zu _ (by rw[zeb];exact hml3);(repeat refine .seq ?_);refine .drawt [] [] mix kr λK hK=> ?_;simp(maxSteps:=9^9) (disch:=omega) only[go_sem,g4,g5,s4,zg4,zg5,zag,zah,zcO,gy,sy,hmx1,za5];refine hK _ _ ?_;clear hK K;have vr1:=λK=>zdt x (sYs s2 d+dy) K;have evr1:vrg x (sYs s2 d+dy)=win (sYs s2 d+dy) 63:=by unfold vrg;rw[hwx,uP]
       rw[evr1]at vr1;generalize hyy:sYs s2 d+dy=y at *;refine .a (F1:=[(0,.ptr i 0 0),(2,.ptr (H.length+4) 1 0),(3,.ptr (H.length+5) 1 0),(5,.ptr (H.length+6) 0 0),(10,O J (d:Int)),(11,O J (k:Int))]) (H1:=uG H i j v n a5 X (mW (zaE m3 d k x y)) (sB s2) [⟨205,0,cxc c⟩]) ?_ rfl rfl;cases hwy:win y 63 with
       | false=>
        rw[hwy]at vr1 hres;rw[gC (by decide)]at hres;simp only[Rr.bind_er]at hres;refine .x λK hK=> ?_;simp(maxSteps:=9^9) (disch:=omega) only[go_sem,g4,zag,zah,gvv,hmxy,qB];refine VCx.call (vr1 _) rfl ?_;simp(maxSteps:=9^9) (disch:=omega) only[go_sem];refine hK _ _ ?_;clear hK K;refine .t (.e ?_);refine .ret ⟨_,rfl,za6 hi hj hX ?_⟩;rw[<-hres];exact⟨rfl,a5,_,s2,hb2.2.2,by rw[zeb];exact hml3,rfl⟩
       | true=>have hyb:=zfs hwy;rw[hwy]at vr1 hres;rw[gD rfl,Rr.bind_ok,Rr.bind_ok]at hres;refine .x λK hK=> ?_;simp(maxSteps:=9^9) (disch:=omega) only[go_sem,g4,zag,zah,gvv,hmxy,qB];refine VCx.call (vr1 _) rfl ?_;simp(maxSteps:=9^9) (disch:=omega) only[go_sem];refine hK _ _ ?_;clear hK K;refine .us ?_;have svv:=zxU s2 d h6;have l8:(stc s2).length=8:=rfl;(repeat refine .seq ?_);refine .drawt [] [] mix kr λK hK=> ?_;simp(maxSteps:=9^9) (disch:=omega) only[go_sem,g4,g5,s5,zg4,zg5,zr8,zag,zah,gvv,hmxy,svv,l8,zlV,qB];refine hK _ _ ?_;clear hK K;refine .e ?_;exact .a (hnx2 (zaE m3 d k x y) (zbx s2 d x y) a5 (hm3.trans (zh9 m3 d k x y)) (zly hs2 d om om) hb2.2.2 hres rfl)
end
end Sc
namespace Sc
open Pm Ty Go.RowKit
def zlF(q:List UInt8)(n:Nat)(m:Mb)(s:St)(k a:Nat):Rr (Mb×St):=(tkD q n (dcS s (k - 3)) 4095 a).bind λd a1=>(zda q n 1 a1).bind λl a2=>.ok (zaF m k (l.set 0 d),zdy s (k - 3) d) a2
theorem zzO(s:St)(p:Nat)(h:p<3):(stc s)[1+p]? =some (O J (dcS s p)):=by have:p=0\/p=1\/p=2:=om;rcases this with rfl|rfl|rfl<;>rfl
theorem zxW(s:St)(p:Nat)(h:p<3)(x:Int):(stc s).set (1+p) (O J x)=stc (zdy s p x):=by have:p=0\/p=1\/p=2:=om;rcases this with rfl|rfl|rfl<;>rfl
section
variable (H:za) (i j v:Nat) (q:List UInt8) (n:Nat) (X:za) (K:za) (hi:i<H.length) (hB:H[j]? =some (rB q v)) (hne:i≠j) (hX:X.length=4) (hn:n<=8 * q.length) (hq:q.length<=100000000)
include hi hB hne hX hn hq
theorem zqz(m:Mb)(s:St)(k a:Nat)(hml:m.lv.length=384)(hs:dcR s)(ha:a<=n)(hk:k<6):CallEx prog 284 [.ptr i 0 0,.ptr (H.length+4) 1 0,.ptr (H.length+5) 1 0,O J (k:Int)] (uG H i j v n a X (mW m) (sB s) K)
  (λw H'=>match zlF q n m s k a with
   | .ok y a'=>w= O J 0/\H'=uG H i j v n a' X (mW y.1) (sB y.2) K
   | .er e _=>w=ecd e/\∃ a m s,a<=n/\m.lv.length=384/\H'=uG H i j v n a X (mW m) (sB s) K):=by
 have hj:=(gA.1 hB).1;have g5:=λa B4 B5=>zq8 H i j v n a X B4 B5 K hX;have g4:=λa B4 B5=>zq9 H i j v n a X B4 B5 K hX;have s5:=λa B4 B5 B=>zjj H i j v n a X B4 B5 K hX B;have s4:=λa B4 B5 B=>zlB H i j v n a X B4 B5 K hX B;have gi:=λa B4 B5=>zuS H i j v n a X B4 B5 K hi;have gj:=λa B4 B5=>zuR H i j v n a X B4 B5 K hB hne;have si:=λa B4 B5 a'=>zlA H i j v n a X B4 B5 K hi a';have hlm:=zu m hml;have hzl:z64.length=64:=by simp[z64]
 have po:=λK=>zsJ k K hk;have lo:=λx K=>zg9 x K;have hq3:k - 3<3:=om;have hsk:=hs (k - 3);have gd:=zzO s (k - 3) hq3;have sd:=zxW s (k - 3) hq3;have l8:(stc s).length=8:=rfl;have hsL:=λm l=>znT m k l;have t1:=zd6 i j v q n a _ (gi a (mW m) (sB s)) (gj _ _ _) hne ha hn hq;rw[si]at t1;generalize hres:zlF q n m s k a=res;unfold zlF tkD at hres;simp only[show((4095:Nat):Int)=4095 from rfl]at hres;refine CallEx.body (F0:=[(0,.ptr i 0 0),(1,.ptr (H.length+4) 1 0),(2,.ptr (H.length+5) 1 0),(3,O J (k:Int))]) func284 rfl ntmps284 results284 rfl kr rfl ?_;refine .e ?_;cases h1:tkS q n a with
 | er e a1=>
  have he:=zft h1;rw[h1]at t1 hres;simp only[rvS,Rr.at,Rr.bind_er]at t1 hres;have d0:((e:Int)+1 !=0)=true:=by simp;omega
  refine .f (λK k=>by simp(disch:=omega) only[go_sem];refine VCx.call (t1) rfl ?_;simp(disch:=omega) only[go_sem];exact k) ?_;refine .g d0 ?_;refine .t (.e ?_);refine .ret ⟨_,rfl,.inl ?_⟩;rw[<-hres];exact⟨rfl,a1,m,s,om,hml,rfl⟩
 | ok dx a1=>
  have hb:=zcS h1 ha;rw[h1]at t1 hres;simp only[rvS,Rr.at]at t1;rw[Rr.bind_ok]at hres;refine .f (λK k=>by simp(disch:=omega) only[go_sem];refine VCx.call (t1) rfl ?_;simp(disch:=omega) only[go_sem];exact k) ?_;refine .e (.us ?_);have po1:=λK=>po K;refine .dn λK hK=> ?_;simp(disch:=omega) only[go_sem];refine VCy.call (po1 _) rfl ?_;simp(disch:=omega) only[go_sem,g5,zg4,zg5,gd];refine hK _ _ ?_;clear hK K;have lo1:=λK=>lo (dcS s (k - 3)+dx) K;generalize hxx:dcS s (k - 3)+dx=x at *;cases hwx:win x 4095 with
  | false=>
   rw[hwx]at lo1 hres;rw[gC (by decide)]at hres;simp only[Rr.bind_er]at hres;refine .x λK hK=> ?_;simp(disch:=omega) only[go_sem];refine VCx.call (lo1 _) rfl ?_;simp(disch:=omega) only[go_sem];refine hK _ _ ?_;clear hK K;refine .t (.e ?_);refine .ret ⟨_,rfl,.inl ?_⟩;rw[<-hres];exact⟨rfl,a1,m,s,hb.2.2,hml,rfl⟩
  | true=>
   have hxb:=zfs hwx;rw[hwx]at lo1 hres;rw[gD rfl,Rr.bind_ok]at hres;refine .x λK hK=> ?_;simp(disch:=omega) only[go_sem];refine VCx.call (lo1 _) rfl ?_;simp(disch:=omega) only[go_sem];refine hK _ _ ?_;clear hK K;refine .us (.y [H.length+5] [(2,[0]),(32,[0]),(36,[0]),(37,[0]),(38,[0])] [] [34] λK hK=> ?_);refine sqz ?_;refine VCj.read (λ_ _=>po1 _) rfl ?_;simp(disch:=omega) only[go_sem,g5,s5,zg4,zg5,zr8,sd,l8,zlV];refine hK _ _ ?_;clear hK K;cases hbk:zda q n 1 a1 with
   | er e a2=>
    have hbe:=zlI _ _ _ _ hbk hb.2.2;rw[hbk,Rr.bind_er]at hres;have hil:(is z64).length=64:=by rw[zj,hzl]
    have hic:=zq z64;have d9:=zU m k z64 hk hzl hml;have hlm9:=zu _ d9;have hs0:=znU m k z64 x hk hzl hml;have d8:=zU m k (z64.set 0 x) hk (by rw[gS];exact hzl) hml;refine .y [i,H.length+4] [(0,[0]),(1,[1]),(40,[1]),(42,[0]),(46,[1]),(47,[1]),(48,[1])] [] [] λK hK=> ?_;refine sqz ?_;refine VCj.wr1 (gi a1 (mW m) (sB (zdy s (k - 3) x))) (λL hL hG=>zgO i j v q n a1 1 L hL ((hG.out _ (by simp;omega)).trans (gj _ _ _)) hne hb.2.2 hn hq om) (by simp(disch:=omega) only[go_sem]) (.inl rfl) rfl ?_;rw[si,hbk];simp only[rvB,Rr.at];generalize hZ:is z64=Z at *;simp(disch:=omega) only[go_sem,g4,s4,zag,zah,zcO,hlm,hil,hic];refine hK _ _ ?_;clear hK K;rw[<-hZ];simp only[hsL,za5];refine .f (λK k=>by simp(disch:=omega) only[go_sem,g4,s4,zag,zah,zcO,hlm9,hs0,za5];exact k) ?_;refine .e (.ret ⟨_,rfl,.inl ?_⟩);rw[<-hres];exact⟨rfl,a2,_,_,om,d8,rfl⟩
   | ok l a2=>
    have hbo:=zfv _ _ _ _ hbk hb.2.2;have hll:l.length=64:=by rw[hbo.2.2,hzl]
    rw[hbk,Rr.bind_ok]at hres;have hil:(is l).length=64:=by rw[zj,hll]
    have hic:=zq l;have d9:=zU m k l hk hll hml;have hlm9:=zu _ d9;have hs0:=znU m k l x hk hll hml;refine .y [i,H.length+4] [(0,[0]),(1,[1]),(40,[1]),(42,[0]),(46,[1]),(47,[1]),(48,[1])] [] [] λK hK=> ?_;refine sqz ?_;refine VCj.wr1 (gi a1 (mW m) (sB (zdy s (k - 3) x))) (λL hL hG=>zgO i j v q n a1 1 L hL ((hG.out _ (by simp;omega)).trans (gj _ _ _)) hne hb.2.2 hn hq om) (by simp(disch:=omega) only[go_sem]) (.inl rfl) rfl ?_;rw[si,hbk];simp only[rvB,Rr.at];simp(disch:=omega) only[go_sem,g4,s4,zag,zah,zcO,hlm,hil,hic];refine hK _ _ ?_;clear hK K;simp only[hsL,za5];refine .f (λK k=>by simp(disch:=omega) only[go_sem,g4,s4,zag,zah,zcO,hlm9,hs0,za5];exact k) ?_;refine .e (.ret ⟨_,rfl,.inl ?_⟩);rw[<-hres];exact⟨rfl,rfl⟩
end
end Sc
namespace Sc
open Pm Ty Go.RowKit
def alc(m:Mb):Mb:={ m with ca:=true,cb:=true,cc:=true,cd:=true,ce:=true,cf:=true }
def zhU(c:Cx)(q:List UInt8)(n:Nat)(m:Mb)(s:St)(a:Nat):Rr (Mb×St):=(zbO c q n true m s a).bind λz a3=>(zbL q n true z.1 a3).bind λm a4=>zax q n 6 m z.2 a4
theorem zr3(m:Mb)(n:Nat)(b:Bool):(zcf m n b).k=m.k:=by grind[zcf]
theorem zyv(m:Mb):qA 18 (mbc m)++ .bool true:: .bool true:: .bool true:: .bool true:: .bool true:: .bool true::qD 24 (mbc m)=mbc (alc m):=rfl
theorem zyu(m:Mb)(k:Nat)(hk:k<6):(mbc m)[18+k]? =some (.bool (zN (cdl m) k)):=by have:k=0\/k=1\/k=2\/k=3\/k=4\/k=5:=om;rcases this with rfl|rfl|rfl|rfl|rfl|rfl<;>rfl
theorem zoK(s:St):(stc s)[0]? =some (O J s.q):=rfl
theorem zxV(s:St)(x:Int):(stc s).set 0 (O J x)=stc { s with q:=x }:=rfl
theorem zxN{q:List UInt8}{n:Nat}{m:Mb}{s:St}{k a:Nat}{y:Mb×St}{a1:Nat}(h:zlF q n m s k a= .ok y a1)(ha:a<=n)(hml:m.lv.length=384)(hk:k<6)(hs:dcR s):a1<=n/\y.1.lv.length=384/\y.1.k=m.k/\dcR y.2:=by
 unfold zlF at h;cases h1:tkD q n (dcS s (k - 3)) 4095 a with
 | er e a2=>rw[h1]at h;cases h
 | ok d a2=>
  have b1:=zhS h1 ha;rw[h1,Rr.bind_ok]at h;cases h2:zda q n 1 a2 with
  | er e a3=>rw[h2]at h;cases h
  | ok l a3=>have b2:=zfv _ _ _ _ h2 b1.2.2;rw[h2,Rr.bind_ok]at h;injection h with e1 e2;subst e1 e2;exact⟨b2.2.1,zU m k _ hk (by rw[gS,b2.2.2];simp[z64]) hml,rfl,zpD hs (k - 3) om⟩
section
variable (H:za) (i j v:Nat) (q:List UInt8) (n:Nat) (X:za) (c:Cx) (hi:i<H.length) (hB:H[j]? =some (rB q v)) (hne:i≠j) (hX:X.length=4) (hn:n<=8 * q.length) (hq:q.length<=100000000)
include hi hB hne hX hn hq
theorem zum(m:Mb)(s:St)(a:Nat)(hml:m.lv.length=384)(hs:dcR s)(hsq:1<=s.q/\s.q<=31)(ha:a<=n)(hk:m.k=1\/m.k=2):CallEx prog 269 [.ptr i 0 0,.agg (cxc c),.ptr (H.length+4) 1 0,.ptr (H.length+5) 1 0] (uG H i j v n a X (mW m) (sB s) []) (zz1 H i j v n X (zhU c q n (alc m) s a)):=by
 have hj:=(gA.1 hB).1;have g6:=λa B4 B5 K B=>zxF H i j v n a X B4 B5 K hX B;have g5:=λa B4 B5 K=>zq8 H i j v n a X B4 B5 K hX;have g4:=λa B4 B5 K=>zq9 H i j v n a X B4 B5 K hX;have s5:=λa B4 B5 K B=>zjj H i j v n a X B4 B5 K hX B;have s4:=λa B4 B5 K B=>zlB H i j v n a X B4 B5 K hX B;have gi:=λa B4 B5 K=>zuS H i j v n a X B4 B5 K hi;have gj:=λa B4 B5 K=>zuR H i j v n a X B4 B5 K hB hne;have si:=λa B4 B5 K a'=>zlA H i j v n a X B4 B5 K hi a';have c1:=zew c;have l1:(cxc c).length=4:=rfl;have tk1:qA 4 (cxc c)=cxc c:=rfl;have hlen:=zdu H i j v n a X (mW m) (sB s) [] hX;have bo:=λK=>zhE c K;have hzl:z64.length=64:=by simp[z64]
 generalize hres:zhU c q n (alc m) s a=res;unfold zhU zbO at hres;rw[gD rfl]at hres;refine CallEx.body (F0:=[(0,.ptr i 0 0),(1,.agg (cxc c)),(2,.ptr (H.length+4) 1 0),(3,.ptr (H.length+5) 1 0)]) func269 rfl ntmps269 results269 rfl kr rfl ?_;refine .g c1 ?_;refine .a (F1:=[(0,.ptr i 0 0),(2,.ptr (H.length+4) 1 0),(3,.ptr (H.length+5) 1 0),(5,.ptr (H.length+6) 0 0)]) (H1:=uG H i j v n a X (mW m) (sB s) [⟨205,0,cxc c⟩]) ?_ (by simp[kp,slot,Nat.beq,hlen]) (zhQ _ _ _ _ _ _ _ _ _ _ _);refine .e ?_;clear hlen;suffices hrest:∀(m:Mb) (a:Nat),m.lv.length=384->(m.k=1\/m.k=2)->a<=n->(((tkS q n a).bind λd a2=>if vqB (s.q+d)then Rr.ok ({ alc m with dl:=d },{ s with q:=s.q+d }) a2 else .er 2 a2).bind λz a3=>(zbL q n true z.1 a3).bind λm a4=>zax q n 6 m z.2 a4)=res->PW prog _ _ [(0,.ptr i 0 0),(2,.ptr (H.length+4) 1 0),(3,.ptr (H.length+5) 1 0),(5,.ptr (H.length+6) 0 0)] (uG H i j v n a X (mW m) (sB s) [⟨205,0,cxc c⟩]) _ by
  have hlm:=zu m hml;refine .m (nq2 g6 (nq2 tk1 l1)) bo ?_;cases hbv:bcx c with
  | false=>
   rw[hbv,gC (by decide),Rr.bind_ok]at hres;refine .us ?_;exact .a (hrest m a hml hk ha hres)
  | true=>
   rw[hbv,gD rfl]at hres;have bt:=zld i j v q n a _ (gi a (mW m) (sB s) [⟨205,0,cxc c⟩]) (gj _ _ _ _) hne ha hn hq;rw[si]at bt;refine .t ?_;cases hf:tkF q n a with
   | ok b a1=>
    obtain⟨rfl,h2,_⟩:=zdS hf;rw[hf,Rr.bind_ok,Rr.bind_ok]at hres;rw[hf]at bt;simp only[rvF,Rr.at]at bt;refine .x λK hK=> ?_;simp(disch:=omega) only[go_sem];refine VCx.call (bt) rfl ?_;simp(disch:=omega) only[go_sem,g4,s4,zag,zah,zcO,hlm,zkH,za5];refine hK _ _ ?_;clear hK K;refine .e (.us ?_);exact .a (hrest { m with fd:=b } (a+1) hml hk om hres)
   | er e a1=>obtain⟨rfl,rfl,h2⟩:=zgS hf;rw[hf]at bt hres;simp only[Rr.bind_er]at hres;simp only[rvF,Rr.at]at bt;refine .x λK hK=> ?_;simp(disch:=omega) only[go_sem];refine VCx.call (bt) rfl ?_;simp(disch:=omega) only[go_sem,g4,s4,zag,zah,zcO,hlm,zkH,za5];refine hK _ _ ?_;clear hK K;refine .e (.t ?_);refine .e (.ret ⟨_,rfl,za6 hi hj hX ?_⟩);rw[<-hres];exact⟨rfl,a1,{ m with fd:=false },s,ha,hml,rfl⟩
 clear hres ha hml hk;intro m a hml hk ha hres;have hlm:=zu m hml;have t1:=zd6 i j v q n a _ (gi a (mW m) (sB s) [⟨205,0,cxc c⟩]) (gj _ _ _ _) hne ha hn hq;rw[si]at t1;cases h1:tkS q n a with
 | er e a1=>
  have he:=zft h1;rw[h1]at t1 hres;simp only[rvS,Rr.at,Rr.bind_er]at t1 hres;have d0:((e:Int)+1 !=0)=true:=by simp;omega
  refine .x λK hK=> ?_;simp(disch:=omega) only[go_sem];refine VCx.call (t1) rfl ?_;simp(disch:=omega) only[go_sem,g4,s4,zag,zah,zcO,hlm,zkG,za5];refine hK _ _ ?_;clear hK K;refine .g d0 ?_;refine .t (.e ?_);refine .ret ⟨_,rfl,za6 hi hj hX ?_⟩;rw[<-hres];exact⟨rfl,a1,{ m with dl:=0 },s,om,hml,rfl⟩
 | ok d a1=>
  have hb:=zcS h1 ha;rw[h1]at t1 hres;simp only[rvS,Rr.at]at t1;rw[Rr.bind_ok]at hres;refine .x λK hK=> ?_;simp(disch:=omega) only[go_sem];refine VCx.call (t1) rfl ?_;simp(disch:=omega) only[go_sem,g4,s4,zag,zah,zcO,hlm,zkG,za5];refine hK _ _ ?_;clear hK K;refine .e (.us ?_);have l8:(stc s).length=8:=rfl;(repeat refine .seq ?_);refine .drawt [] [] mix kr λK hK=> ?_;simp(disch:=omega) only[go_sem,g4,g5,s5,zg4,zg5,zr8,zag,zah,zw3,zoK,zxV,l8,zlV];refine hK _ _ ?_;clear hK K;refine .a (F1:=[(0,.ptr i 0 0),(2,.ptr (H.length+4) 1 0),(3,.ptr (H.length+5) 1 0),(5,.ptr (H.length+6) 0 0)]) (H1:=uG H i j v n a1 X (mW { m with dl:=d }) (sB { s with q:=s.q+d }) [⟨205,0,cxc c⟩]) ?_ rfl rfl;cases hv:vqB (s.q+d)with
  | false=>
   rw[hv,gC (by decide),Rr.bind_er]at hres;suffices h59:PW prog _ _ [(0,.ptr i 0 0),(2,.ptr (H.length+4) 1 0),(3,.ptr (H.length+5) 1 0),(5,.ptr (H.length+6) 0 0),(59,.bool true)] (uG H i j v n a1 X (mW { m with dl:=d }) (sB { s with q:=s.q+d }) [⟨205,0,cxc c⟩]) _ by
    by_cases g1:s.q+d<1
    .have d1:decide (s.q+d<1)=true:=gX g1;refine .f (λK k=>by simp(disch:=omega) only[go_sem,g5,zg4,zg5,zoK,d1];exact k) ?_;exact .a h59
    .have d1:decide (s.q+d<1)=false:=gW g1;have d2:decide (31<s.q+d)=true:=gX (by
      unfold vqB at hv;simp at hv;omega)
     refine .f (λK k=>by simp(disch:=omega) only[go_sem,g5,zg4,zg5,zoK,d1,d2];exact k) ?_;exact .a h59
   refine .t (.e ?_);refine .ret ⟨_,rfl,za6 hi hj hX ?_⟩;rw[<-hres];exact⟨rfl,a1,{ m with dl:=d },_,hb.2.2,hml,rfl⟩
  | true=>
   rw[hv,gD rfl,Rr.bind_ok]at hres;have hqb:1<=s.q+d/\s.q+d<=31:=by simp_all[vqB]
   have d1:decide (s.q+d<1)=false:=gW om;have d2:decide (31<s.q+d)=false:=gW om;refine .f (λK k=>by simp(disch:=omega) only[go_sem,g5,zg4,zg5,zoK,d1,d2];exact k) ?_;refine .us ?_;have hlm1:=zu { m with dl:=d } hml;refine .f (λK k=>by simp(disch:=omega) only[go_sem,g4,s4,zag,zah,zcO,hlm1,zyv,za5,qB];exact k) ?_;have hdc:dcR { s with q:=s.q+d }:=λk=>hs k;generalize hs2e:({ s with q:=s.q+d }:St)=s2 at *;have hM:({ alc m with dl:=d }:Mb)=alc { m with dl:=d }:=rfl;rw[hM]at hres;have hMl:(alc { m with dl:=d }).lv.length=384:=hml;have hMk:(alc { m with dl:=d }).k=1\/(alc { m with dl:=d }).k=2:=hk;generalize alc { m with dl:=d }=m9 at *;refine .a (F1:=[(0,.ptr i 0 0),(2,.ptr (H.length+4) 1 0),(3,.ptr (H.length+5) 1 0)]) (H1:=uG H i j v n a1 X (mW m9) (sB s2) [⟨205,0,cxc c⟩]) ?_ rfl rfl;suffices hlv:∀(m:Mb) (a:Nat),m.lv.length=384->(m.k=1\/m.k=2)->a<=n->zax q n 6 m s2 a=res->PW prog _ _ [(0,.ptr i 0 0),(2,.ptr (H.length+4) 1 0),(3,.ptr (H.length+5) 1 0)] (uG H i j v n a X (mW m) (sB s2) [⟨205,0,cxc c⟩]) _ by
    rcases hMk with e1|e2
    .have dk:(m9.k==2)=false:=by rw[e1];rfl
     unfold zbL at hres;rw[gW (show ¬ m9.k=2 from om),vB,gC (by decide),Rr.bind_ok]at hres;refine .f (λK k=>by simp(disch:=omega) only[go_sem,g4,zag,zah,zdX,dk];exact k) ?_;refine .us ?_;exact .a (hlv m9 a1 hMl (.inl e1) hb.2.2 hres)
    .have dk:(m9.k==2)=true:=by rw[e2];rfl
     unfold zbL at hres;rw[gX e2,uP,gD rfl]at hres;refine .f (λK k=>by simp(disch:=omega) only[go_sem,g4,zag,zah,zdX,dk];exact k) ?_;refine .t (.e ?_);refine .l ?_;suffices hl1:∀(k:Nat) (m1:Mb) (a1:Nat),k<=6->m1.lv.length=384->m1.k=2->a1<=n->((zc9 q n (6 - k) m1 a1).bind λm a4=>zax q n 6 m s2 a4)=res->PL prog _ _ [(0,.ptr i 0 0),(2,.ptr (H.length+4) 1 0),(3,.ptr (H.length+5) 1 0),(10,O J (k:Int))] (uG H i j v n a1 X (mW m1) (sB s2) [⟨205,0,cxc c⟩]) _ by exact .a (hl1 0 m9 a1 om hMl e2 hb.2.2 hres)
     clear hres hMl e2 dk t1 h1 hb;intro k m1 a1 hk6 hml1 hk1 ha1 hres;induction hdd:6 - k using qE generalizing k m1 a1 with
     | _ dd ih=>
      refine .round (.e ?_);have hlm1:=zu m1 hml1;refine .c (λh=> ?_) (λh=> ?_);rotate_left
      .have h6:k=6:=by grind
       subst h6;refine .exit ?_;have co:=λK=>zpF m1 K hml1;have ehl:hlM m1=zg7 m1:=by simp_all[hlM,dR]
       have tkm:qA 408 (mbc m1)=mbc m1:=gH om;rw[ehl]at co;simp only[vK,zc9]at hres;cases hac:zg7 m1 with
       | true=>
        rw[hac]at co hres;rw[gD rfl,Rr.bind_ok]at hres;refine .x λK hK=> ?_;simp(disch:=omega) only[go_sem,g4,zag,zah,hlm1,tkm];refine VCx.call (co _) rfl ?_;simp(disch:=omega) only[go_sem];refine hK _ _ ?_;clear hK K;refine .us ?_;exact .a (hlv m1 a1 hml1 (.inr hk1) ha1 hres)
       | false=>rw[hac]at co hres;rw[gC (by decide),Rr.bind_er]at hres;refine .x λK hK=> ?_;simp(disch:=omega) only[go_sem,g4,zag,zah,hlm1,tkm];refine VCx.call (co _) rfl ?_;simp(disch:=omega) only[go_sem];refine hK _ _ ?_;clear hK K;refine .t (.e ?_);refine .ret ⟨_,rfl,za6 hi hj hX ?_⟩;rw[<-hres];exact⟨rfl,a1,m1,s2,ha1,hml1,rfl⟩
      have h6:k<6:=by grind
      obtain⟨n',hn'⟩:∃ n',6 - k=n'+1:=⟨5 - k,om⟩;have hkn:5 - n'=k:=om;rw[hn',zc9,hkn,Rr.bind_bind]at hres;have hnx:=λm1 a1=>ih (6 - (k+1)) om (k+1) m1 a1 om;rw[show 6 - (k+1)=n' from om]at hnx;have hst:=λb=>zs2 m1 k b h6;refine .skip (.b ?_);refine .y [i,H.length+4] [(0,[0]),(2,[1]),(74,[1]),(76,[0]),(80,[1]),(81,[1]),(82,[1])] [] [] λK hK=> ?_;refine sqz ?_;refine VCj.wr1 (gi a1 (mW m1) (sB s2) [⟨205,0,cxc c⟩]) (λL hL hG=>zld i j v q n a1 L hL ((hG.out _ (by simp;omega)).trans (gj _ _ _ _)) hne ha1 hn hq) (by simp(disch:=omega) only[go_sem]) (.inl rfl) rfl ?_;rw[si];cases hf:tkF q n a1 with
      | ok b a2=>
       obtain⟨rfl,h2,_⟩:=zdS hf;rw[hf,Rr.bind_ok]at hres;simp only[rvF,Rr.at];simp(disch:=omega) only[go_sem,g4,s4,zag,zah,zcO,hlm1,hst,za5];refine hK _ _ ?_;clear hK K;refine .e (.us ?_);refine .e ?_;exact .a (hnx (zcf m1 k b) (a1+1) (by rw[zed];exact hml1) (by rw[zr3];exact hk1) om hres rfl)
      | er e a2=>obtain⟨rfl,rfl,h2⟩:=zgS hf;rw[hf,Rr.bind_er]at hres;simp only[rvF,Rr.at];simp(disch:=omega) only[go_sem,g4,s4,zag,zah,zcO,hlm1,hst,za5];refine hK _ _ ?_;clear hK K;refine .e (.t ?_);refine .e (.ret ⟨_,rfl,za6 hi hj hX ?_⟩);rw[<-hres];exact⟨rfl,a2,zcf m1 k false,s2,ha1,by rw[zed];exact hml1,rfl⟩
   clear hres hMl hMk t1 h1 hlm1;intro m a hml hk ha hres;refine .e (.l ?_);suffices hl1:∀(k:Nat) (m1:Mb) (s1:St) (a1:Nat),k<=6->m1.lv.length=384->dcR s1->(m1.k=1\/m1.k=2)->a1<=n->zax q n (6 - k) m1 s1 a1=res->PL prog _ _ [(0,.ptr i 0 0),(2,.ptr (H.length+4) 1 0),(3,.ptr (H.length+5) 1 0),(11,O J (k:Int))] (uG H i j v n a1 X (mW m1) (sB s1) [⟨205,0,cxc c⟩]) _ by exact .a (hl1 0 m s2 a om hml hdc hk ha hres)
   clear hres ha hml hk hdc;intro k m1 s1 a1 hk6 hml hs1 hk ha hres;induction hdd:6 - k using qE generalizing k m1 s1 a1 with
   | _ dd ih=>
    refine .round (.e ?_);have hlm1:=zu m1 hml;refine .c (λh=> ?_) (λh=> ?_);rotate_left
    .have h6:k=6:=by grind
     subst h6;refine .exit ?_;simp only[vK,zax]at hres;refine .e (.ret ⟨_,rfl,za6 hi hj hX ?_⟩);rw[<-hres];exact⟨rfl,rfl⟩
    have h6:k<6:=by grind
    obtain⟨n',hn'⟩:∃ n',6 - k=n'+1:=⟨5 - k,om⟩;have hkn:5 - n'=k:=om;rw[hn',zax,hkn]at hres;have hnx:=λm1 s1 a1=>ih (6 - (k+1)) om (k+1) m1 s1 a1 om;rw[show 6 - (k+1)=n' from om]at hnx;clear ih;have hgx:=zyu m1 k h6;refine .skip (.b ?_);refine .f (λK k=>by simp(disch:=omega) only[go_sem,g4,zag,zah,hgx];exact k) ?_;generalize zN (cdl m1) k=fg at *;cases fg with
    | false=>
     rw[gC (by decide)]at hres;refine .t (.exit ?_);refine .e ?_;exact .a (hnx m1 s1 a1 hml hs1 hk ha hres rfl)
    | true=>
     rw[gD rfl]at hres;refine .us ?_;have hsL:=λm l=>znT m k l;by_cases hk2:m1.k=2
     .rw[gD hk2]at hres;have d1:(m1.k==2)=true:=by simp[hk2]
      refine .f (λK k=>by simp(disch:=omega) only[go_sem,g4,zag,zah,zdX,d1];exact k) ?_;refine .t (.y [i,H.length+4] [(0,[0]),(2,[1]),(108,[1]),(110,[0]),(114,[1]),(115,[1]),(116,[1])] [] [] λK hK=> ?_);refine sqz ?_;refine VCj.wr1 (gi a1 (mW m1) (sB s1) [⟨205,0,cxc c⟩]) (λL hL hG=>zgO i j v q n a1 0 L hL ((hG.out _ (by simp;omega)).trans (gj _ _ _ _)) hne ha hn hq om) (by simp(disch:=omega) only[go_sem]) (.inl rfl) rfl ?_;rw[si];cases hbk:zda q n 0 a1 with
      | er e a2=>
       have hbe:=zlI _ _ _ _ hbk ha;rw[hbk,Rr.bind_er]at hres;simp only[rvB,Rr.at];have hil:(is z64).length=64:=by rfl
       have hic:=zq z64;have d9:=zU m1 k z64 h6 hzl hml;have d0:((e:Int)+1==0)=false:=by simp;omega
       have d7:((e:Int)+1 !=0)=true:=by simp;omega
       generalize hZ:is z64=Z at *;simp(disch:=omega) only[go_sem,g4,s4,zag,zah,zcO,hlm1,hil,hic];refine hK _ _ ?_;clear hK K;rw[<-hZ];simp only[hsL,za5];refine .g d0 ?_;refine .us (.g d7 ?_);refine .t (.e ?_);refine .ret ⟨_,rfl,za6 hi hj hX ?_⟩;rw[<-hres];exact⟨rfl,a2,zaF m1 k z64,s1,om,d9,rfl⟩
      | ok l a2=>
       have hbo:=zfv _ _ _ _ hbk ha;have hll:l.length=64:=om;rw[hbk,Rr.bind_ok]at hres;simp only[rvB,Rr.at];have hil:(is l).length=64:=by rw[zj,hll]
       have hic:=zq l;have d9:=zU m1 k l h6 hll hml;have hlm9:=zu _ d9;have hgl:=zs3 m1 k l h6 hll hml;have ez:=zwX l hll;simp(disch:=omega) only[go_sem,g4,s4,zag,zah,zcO,hlm1,hil,hic];refine hK _ _ ?_;clear hK K;simp only[hsL,za5];by_cases hz:l=z64
       .rw[gD hz]at hres;rw[gX hz]at ez;refine .f (λK k=>by simp(disch:=omega) only[go_sem,g4,zag,zah,hlm9,hgl,hil,ez];exact k) ?_;refine .t (.e ?_);refine .e (.t ?_);refine .e (.ret ⟨_,rfl,za6 hi hj hX ?_⟩);rw[<-hres];exact⟨rfl,a2,zaF m1 k l,s1,hbo.2.1,d9,rfl⟩
       .rw[gC hz]at hres;rw[gW hz]at ez;refine .f (λK k=>by simp(disch:=omega) only[go_sem,g4,zag,zah,hlm9,hgl,hil,ez];exact k) ?_;refine .us (.e ?_);refine .us (.e ?_);exact .a (hnx (zaF m1 k l) s1 a2 d9 hs1 hk hbo.2.1 hres rfl)
     .rw[gC hk2]at hres;have d1:(m1.k==2)=false:=by simp[hk2]
      have hin:((zlF q n m1 s1 k a1).bind λy a=>zax q n n' y.1 y.2 a)=res:=by rw[<-hres];unfold zlF;rw[Rr.bind_bind];congr 1;funext d a;rw[Rr.bind_bind];rfl
      have ir:=zqz H i j v q n X [⟨205,0,cxc c⟩] hi hB hne hX hn hq m1 s1 k a1 hml hs1 ha h6;refine .f (λK k=>by simp(disch:=omega) only[go_sem,g4,zag,zah,zdX,d1];exact k) ?_;refine .u (.x λK hK=> ?_);simp(disch:=omega) only[go_sem];refine VCx.callR ir rfl λw H' hR=> ?_;cases hti:zlF q n m1 s1 k a1 with
      | er e a2=>
       rw[hti]at hR hin;obtain⟨rfl,a4,m4,s4',h1,h2,rfl⟩:=hR;rw[Rr.bind_er]at hin;have d7:((e:Int)+1 !=0)=true:=by simp;omega
       simp(disch:=omega) only[go_sem,ecd];refine hK _ _ ?_;clear hK K;refine .g d7 ?_;refine .t (.e ?_);refine .ret ⟨_,rfl,za6 hi hj hX ?_⟩;rw[<-hin];exact⟨rfl,a4,m4,s4',h1,h2,rfl⟩
      | ok y a2=>obtain⟨b1,b2,b3,b4⟩:=zxN hti ha hml h6 hs1;rw[hti]at hR hin;obtain⟨rfl,rfl⟩:=hR;rw[Rr.bind_ok]at hin;simp(disch:=omega) only[go_sem];refine hK _ _ ?_;clear hK K;refine .e (.us ?_);refine .e ?_;exact .a (hnx y.1 y.2 a2 b2 b4 (by rw[b3];exact hk) b1 hin rfl)
end
end Sc
namespace Sc
open Pm Ty Go.RowKit
def zd0(k:Int)(x:Rr (Mb×St)):Rr (Mb×St):=x.bind λy a=>.ok (y.1,aft y.2 k) a
theorem zuC(s:St)(d:Nat):sXs (aft s 2) d=sXs s d:=by unfold sXs aft;simp
theorem zuB(s:St)(d:Nat):sYs (aft s 2) d=sYs s d:=by unfold sYs aft;simp
theorem zuA(s:St)(d:Nat)(x y:Int):zbx (aft s 2) d x y=aft (zbx s d x y) 2:=by unfold zbx;split<;>rfl
theorem zrn(c:Cx)(q:List UInt8)(n:Nat)(m:Mb)(s:St)(d k a:Nat):zc1 c q n m (aft s 2) d k a=zd0 2 (zc1 c q n m s d k a):=by unfold zc1 zd0;rw[zuC,zuB];simp only[Rr.bind_bind,Rr.bind_ok,zuA]
theorem zlE(c:Cx)(q:List UInt8)(n d:Nat):∀(r k:Nat) (m:Mb) (s:St) (a:Nat),zaS c q n d r k m (aft s 2) a=zd0 2 (zaS c q n d r k m s a)
 | 0,k,m,s,a=>rfl
 | r+1,k,m,s,a=>by simp only[zaS,zrn,zd0,Rr.bind_bind,Rr.bind_ok];congr 1;funext x a1;exact zlE c q n d r (k+1) x.1 x.2 a1
theorem zlG(c:Cx)(q:List UInt8)(n:Nat):∀(r d:Nat) (m:Mb) (s:St) (a:Nat),zbs c q n r d m (aft s 2) a=zd0 2 (zbs c q n r d m s a)
 | 0,d,m,s,a=>rfl
 | r+1,d,m,s,a=>by
  have h1:zdY c q n m (aft s 2) d a=zd0 2 (zdY c q n m s d a):=by
   unfold zdY;split
   .exact zlE c q n d _ 0 m s a
   .rfl
  simp only[zbs,h1,zd0,Rr.bind_bind,Rr.bind_ok];congr 1;funext x a1;exact zlG c q n r (d+1) x.1 x.2 a1
theorem zro(c:Cx)(q:List UInt8)(n:Nat)(m:Mb)(s:St)(a:Nat):zbr c q n m (aft s m.k) a=zd0 m.k (zbr c q n m s a):=by
 unfold zbr;split
 .rename_i h;rw[h];simp only[zd0,Rr.bind_bind];congr 1;funext x a1;exact zlG c q n 2 0 x s a1
 .rfl
theorem zlH(c:Cx)(q:List UInt8)(n:Nat)(hl:Bool)(m:Mb)(s:St)(k:Int)(a:Nat):zbO c q n hl m (aft s k) a=zd0 k (zbO c q n hl m s a):=by
 unfold zbO;split
 .simp only[zd0,Rr.bind_bind];congr 1;funext x a1;congr 1;funext d a2;show(if vqB (s.q+d)=true then _ else _)=_;split<;>rfl
 .rfl
theorem zze(s:St)(p:Nat):dcS (aft s 1) p=dcS s p:=by unfold dcS aft;simp
theorem zuD(s:St)(p:Nat)(x:Int):zdy (aft s 1) p x=aft (zdy s p x) 1:=by unfold zdy;split<;>(try split)<;>rfl
theorem zfu(q:List UInt8)(n:Nat):∀(r:Nat) (m:Mb) (s:St) (k:Int) (a:Nat),(m.k=2\/k=1)->zax q n r m (aft s k) a=zd0 k (zax q n r m s a)
 | 0,m,s,k,a,_=>rfl
 | r+1,m,s,k,a,h=>by
  simp only[zax];split
  .split
   .simp only[zd0,Rr.bind_bind];congr 1;funext l a1;split
    .rfl
    .exact zfu q n r _ s k a1 (by rename_i h2 _;exact .inl h2)
   .rename_i h2;rcases h with h|rfl
    .exact absurd h h2
    rw[zze];simp only[zd0,Rr.bind_bind];congr 1;funext d a1;congr 1;funext l a2;rw[zuD];exact zfu q n r _ _ 1 a2 (.inr rfl)
  .exact zfu q n r m s k a h
theorem zp9(m:Mb)(d k:Nat)(x:Int):cdl (zec m d k x)=cdl m:=by unfold zec;split<;>split<;>rfl
theorem zp8(m:Mb)(d k:Nat)(x y:Int):cdl (zaE m d k x y)=cdl m:=by unfold zaE;split<;>split<;>rfl
theorem Rr.bind_eq{α β:Type}{x:Rr α}{f:α->Nat->Rr β}{y:β}{a:Nat}(h:x.bind f= .ok y a):∃ v a1,x= .ok v a1/\f v a1= .ok y a:=by
 cases x with
 | ok v a1=>exact⟨v,a1,rfl,h⟩
 | er e a1=>cases h
theorem zxK{c:Cx}{q:List UInt8}{n:Nat}{m:Mb}{s:St}{d k a:Nat}{y:Mb×St}{a1:Nat}(h:zc1 c q n m s d k a= .ok y a1):cdl y.1=cdl m:=by
 unfold zc1 at h;obtain⟨m',a2,h1,h⟩:=Rr.bind_eq h;obtain⟨x,a3,_,h⟩:=Rr.bind_eq h;obtain⟨z,a4,_,h⟩:=Rr.bind_eq h;injection h with e1 _;subst e1;rw[zp8];split at h1
 .obtain⟨b,a5,_,h1⟩:=Rr.bind_eq h1;injection h1 with e1 _;subst e1;rw[zp9]
 .injection h1 with e1 _;rw[e1]
theorem zrk{c:Cx}{q:List UInt8}{n d:Nat}:∀(r k:Nat) (m:Mb) (s:St) (a:Nat) {y:Mb×St} {a1:Nat},zaS c q n d r k m s a= .ok y a1->cdl y.1=cdl m
 | 0,k,m,s,a,y,a1,h=>by
  simp only[zaS]at h;injection h with e1 _;rw[<-e1]
 | r+1,k,m,s,a,y,a1,h=>by simp only[zaS]at h;obtain⟨x,a2,h1,h⟩:=Rr.bind_eq h;rw[zrk r (k+1) x.1 x.2 a2 h,zxK h1]
theorem zrr{c:Cx}{q:List UInt8}{n:Nat}:∀(r d:Nat) (m:Mb) (s:St) (a:Nat) {y:Mb×St} {a1:Nat},zbs c q n r d m s a= .ok y a1->cdl y.1=cdl m
 | 0,d,m,s,a,y,a1,h=>by
  simp only[zbs]at h;injection h with e1 _;rw[<-e1]
 | r+1,d,m,s,a,y,a1,h=>by
  simp only[zbs]at h;obtain⟨x,a2,h1,h⟩:=Rr.bind_eq h;rw[zrr r (d+1) x.1 x.2 a2 h];unfold zdY at h1;split at h1
  .exact zrk _ _ _ _ _ h1
  .injection h1 with e1 _;rw[<-e1]
theorem zxM{c:Cx}{q:List UInt8}{n:Nat}{m:Mb}{s:St}{a:Nat}{y:Mb×St}{a1:Nat}(h:zbr c q n m s a= .ok y a1):cdl y.1=cdl m:=by
 unfold zbr at h;split at h
 .obtain⟨m',a2,h1,h⟩:=Rr.bind_eq h;rw[zrr _ _ _ _ _ h];split at h1
  .obtain⟨b,a5,_,h1⟩:=Rr.bind_eq h1;injection h1 with e1 _;rw[<-e1];rfl
  .injection h1 with e1 _;rw[e1]
 .injection h with e1 _;rw[<-e1]
theorem zjk{q:List UInt8}{n:Nat}{m:Mb}(hm:cdl m=[false,false,false,false,false,false])(s:St)(a:Nat):zax q n 6 m s a= .ok (m,s) a:=by simp only[zax,hm];rfl
theorem zrv(c:Cx)(q:List UInt8)(n:Nat)(m:Mb)(s:St)(a:Nat):zbO c q n true (alc m) s a=(zbO c q n true m s a).bind λz a=>.ok (alc z.1,z.2) a:=by
 unfold zbO;rw[gD rfl,gD rfl];cases hb:bcx c with
 | false=>
  rw[gC (by decide),gC (by decide),Rr.bind_ok,Rr.bind_ok,Rr.bind_bind];congr 1;funext d a2;split<;>rfl
 | true=>rw[gD rfl,gD rfl];simp only[Rr.bind_bind,Rr.bind_ok];congr 1;funext b a1;congr 1;funext d a2;split<;>rfl
theorem zrx(q:List UInt8)(n:Nat)(m:Mb)(a:Nat):zc9 q n 6 (alc m) a=zc9 q n 6 m a:=by simp only[zc9];congr 1
def zyb(c:Cx)(q:List UInt8)(n:Nat)(m:Mb)(hl:Bool)(s:St)(a:Nat):Rr (Mb×St):=(zbr c q n (zd4 m) (aft s m.k) a).bind λy a2=>if hl then zhU c q n (alc y.1) y.2 a2 else .ok y a2
theorem zoE{c:Cx}{q:List UInt8}{n a:Nat}{m:Mb}{hl:Bool}{a1:Nat}(h:zb0 c q n a= .ok (m,hl) a1):(m=inMb/\hl=true)\/(m=zMb/\hl=false)\/∃ v,m=zqq v:=by
 unfold zb0 at h;split at h
 .injection h with e _;injection e with e1 e2;exact .inl ⟨e1.symm,e2.symm⟩
 .obtain⟨v,a2,_,h⟩:=Rr.bind_eq h;generalize (if c.t=2 then 3 else 7:Nat)=last at h;split at h
  .cases h
  .split at h
   .injection h with e _;injection e with e1 e2;exact .inl ⟨e1.symm,e2.symm⟩
   .split at h
    .injection h with e _;injection e with e1 e2;exact .inr (.inl ⟨e1.symm,e2.symm⟩)
    .injection h with e _;injection e with e1 e2;exact .inr (.inr ⟨v,e1.symm⟩)
theorem zni{c:Cx}{q:List UInt8}{n:Nat}{hl:Bool}{m:Mb}{s:St}{a:Nat}{y:Mb×St}{a1:Nat}(h:zbO c q n hl m s a= .ok y a1):y.1.k=m.k:=by
 unfold zbO at h;split at h
 .obtain⟨m',a2,h1,h⟩:=Rr.bind_eq h;obtain⟨d,a3,_,h⟩:=Rr.bind_eq h;split at h
  .injection h with e _;rw[<-e];show m'.k=m.k;split at h1
   .obtain⟨b,a4,_,h1⟩:=Rr.bind_eq h1;injection h1 with e1 _;rw[<-e1]
   .injection h1 with e1 _;rw[e1]
  .cases h
 .injection h with e _;rw[<-e]
theorem zpJ(c:Cx)(q:List UInt8)(n:Nat)(m:Mb)(s:St)(a:Nat)(hk:m.k=1\/m.k=2)(hc:m.k=1->alc m=m)(ha:a<=n)(hml:m.lv.length=384):
  zhU c q n (alc m) (aft s m.k) a=(zbO c q n true m s a).bind λz a3=>(zbL q n true z.1 a3).bind λm a4=>(zax q n 6 m z.2 a4).bind λw a5=>.ok (w.1,aft w.2 w.1.k) a5:=by
 have key:∀(z:Mb×St) (a2:Nat),z.1.lv.length=384->z.1.k=m.k->a2<=n->((zbL q n true z.1 a2).bind λm' a4=>zax q n 6 m' (aft z.2 m.k) a4)=(zbL q n true z.1 a2).bind λm' a4=>(zax q n 6 m' z.2 a4).bind λw a5=>.ok (w.1,aft w.2 w.1.k) a5:=by
  intro z a2 hzl hzk hz;cases h2:zbL q n true z.1 a2 with
  | er e a3=>rfl
  | ok m4 a3=>
   obtain⟨c1,c2,c3⟩:=zkb h2 hz;rw[Rr.bind_ok,Rr.bind_ok,zfu q n 6 m4 z.2 m.k a3 om,zd0];cases h3:zax q n 6 m4 z.2 a3 with
   | er e a4=>rfl
   | ok w a4=>have:=(zfc 6 m4 z.2 a3 h3 c1 om (by rw[c2];exact hzl)).2.2;rw[Rr.bind_ok,Rr.bind_ok,this,c3,hzk]
 rcases hk with e|e
 .rw[hc e];unfold zhU;rw[zlH,zd0,Rr.bind_bind];cases h1:zbO c q n true m s a with
  | er e a2=>rfl
  | ok z a2=>obtain⟨b1,b2,_⟩:=zhT h1 ha;simp only[Rr.bind_ok];exact key z a2 (by rw[b2];exact hml) (zni h1) b1
 .unfold zhU;rw[zrv,zlH,zd0,Rr.bind_bind,Rr.bind_bind];cases h1:zbO c q n true m s a with
  | er e a2=>rfl
  | ok z a2=>
   obtain⟨b1,b2,_⟩:=zhT h1 ha;simp only[Rr.bind_ok];have e2:z.1.k=2:=by rw[zni h1,e]
   have hco:zbL q n true (alc z.1) a2=zbL q n true z.1 a2:=by unfold zbL;rw[show(alc z.1).k=2 from e2,e2,zrx];rfl
   rw[hco];exact key z a2 (by rw[b2];exact hml) (zni h1) b1
theorem zya{c:Cx}{q:List UInt8}{n a a1:Nat}{m:Mb}{hl:Bool}{s:St}(h:zb0 c q n a= .ok (m,hl) a1)(ha:a<=n)(hs:vrS s):zyb c q n m hl s a1=zj8 c q n hl m s a1:=by
 obtain⟨ha1,hlv⟩:=zka h ha;have hml:m.lv.length=384:=by rw[show m.lv=zl384 from hlv];exact zW
 unfold zyb zj8;rcases zoE h with⟨rfl,rfl⟩|⟨rfl,rfl⟩|⟨v,rfl⟩
 .have e1:zbr c q n (zd4 inMb) (aft s inMb.k) a1= .ok (zd4 inMb,aft s inMb.k) a1:=rfl;have e2:zbr c q n inMb s a1= .ok (inMb,s) a1:=rfl;rw[e1,e2,Rr.bind_ok,Rr.bind_ok,gD rfl];exact zpJ c q n inMb s a1 (.inl rfl) (λ_=>rfl) ha1 hml
 .have e1:zbr c q n (zd4 zMb) (aft s zMb.k) a1= .ok (zd4 zMb,aft s zMb.k) a1:=rfl;have e2:zbr c q n zMb s a1= .ok (zMb,s) a1:=rfl;have e3:zbO c q n false zMb s a1= .ok (zMb,s) a1:=rfl;have e4:zbL q n false zMb a1= .ok zMb a1:=rfl;rw[e1,e2,Rr.bind_ok,Rr.bind_ok,gC (by decide),e3,Rr.bind_ok,e4,Rr.bind_ok,zjk rfl,Rr.bind_ok];rfl
 .rw[show zd4 (zqq v)=zqq v from rfl,zro,zd0,Rr.bind_bind];cases hp:zbr c q n (zqq v) s a1 with
  | er e a2=>rfl
  | ok y a2=>
   obtain⟨b1,b2,b3,_⟩:=zj9 hp ha1 hs;have hcd:=zxM hp;simp only[Rr.bind_ok];rw[<-b3];cases hl with
   | true=>
    rw[gD rfl];exact zpJ c q n y.1 y.2 a2 (.inr b3) (λe=>by rw[b3]at e;cases e) b1 (by rw[b2];exact hml)
   | false=>
    have e3:zbO c q n false y.1 y.2 a2= .ok y a2:=rfl;have e4:zbL q n false y.1 a2= .ok y.1 a2:=by unfold zbL;rw[mN,gC (by decide)]
    rw[gC (by decide),e3,Rr.bind_ok,e4,Rr.bind_ok,zjk hcd,Rr.bind_ok]
def zAb(H:za)(i j v n:Nat)(x:Rr (Mb×St)):PV->za->Prop:=λw H'=>w=rvM x/\
 match x with
 | .ok _ a=>H'=H.set i (rR j v n a)
 | .er _ _=>∃ a,a<=n/\H'=H.set i (rR j v n a)
theorem zj7(H:za)(i j v n a:Nat)(K:za)(x:Rr (Mb×St))(hj:j<H.length)(hx:match x with| .ok _ a'=>a=a'| .er _ _=>a<=n):zop H (zAb H i j v n x) (rvM x) (H.set i (rR j v n a)++K):=
 .inr (.inr λhs=>⟨rvM x,H.set i (rR j v n a),by
  cases x with
  | ok y a'=>exact⟨rfl,by rw[show a=a' from hx]⟩
  | er e a'=>exact⟨rfl,a,hx,rfl⟩,by simp,CutH.base (zn2 _ _ _ _ _ _ hj hs),.id (zsb _ _)⟩)
theorem zoz(H:za)(i j v n a:Nat)(X:za)(B4 B5:Blk)(K:za)(k:Nat)(hX:X.length=4)(hk:k<4):(uG H i j v n a X B4 B5 K)[H.length+k]? =X[k]? :=by simp_all[uG,gN,gS,gK]
theorem zwH(H:za)(i j v n a:Nat)(X:za)(B4 B5:Blk)(K:za)(B:Blk)(k:Nat)(hX:X.length=4)(hk:k<4):(uG H i j v n a X B4 B5 K).set (H.length+k) B=uG H i j v n a (X.set k B) B4 B5 K:=by simp_all[uG,uC,gS,uL]
theorem zxP{c:Cx}{q:List UInt8}{n:Nat}{m:Mb}{s:St}{a:Nat}{y:Mb×St}{a1:Nat}(h:zhU c q n m s a= .ok y a1)(ha:a<=n)(hml:m.lv.length=384):a1<=n/\y.1.lv.length=384:=by unfold zhU at h;obtain⟨z,a2,h1,h⟩:=Rr.bind_eq h;obtain⟨m4,a3,h2,h⟩:=Rr.bind_eq h;obtain⟨b1,b2,_⟩:=zhT h1 ha;obtain⟨c1,c2,_⟩:=zkb h2 b1;obtain⟨d1,d2,_⟩:=zfc 6 m4 z.2 a3 h c1 om (by rw[c2,b2];exact hml);omega
theorem zwb{s:St}(h:dcR s)(k:Int):dcR (aft s k):=λp=>by have h0: -4095<=s.da/\s.da<=4095:=h 0;have h1: -4095<=s.db/\s.db<=4095:=h 1;have h2: -4095<=s.dc/\s.dc<=4095:=h 2;grind[dcS,aft]
theorem zrA(i j v:Nat)(q:List UInt8)(n a:Nat)(c:Cx)(s:St)(H:za)(hA:H[i]? =some (rR j v n a))(hB:H[j]? =some (rB q v))(hne:i≠j)(ha:a<=n)(hn:n<=8 * q.length)(hq:q.length<=100000000):
  CallEx prog 231 [.ptr i 0 0,.agg (cxc c),.agg (stc s)] H (zAb H i j v n (zdH c s q n a)):=by
 have hi:=(gA.1 hA).1;have hj:=(gA.1 hB).1;have hself:=zam hA;have c1:=zew c;have c2:=zlP s;have vo:=λK=>zj3 c K;have so:=λK=>zuM s K;have tk1:qA 4 (cxc c)=cxc c:=rfl;have tk2:qA 8 (stc s)=stc s:=rfl;have l1:(cxc c).length=4:=rfl;have l2:(stc s).length=8:=rfl;have hzl:=zdq;have hzc:=zfq;have tz:qA 408 zmv=zmv:=gH om;have dz:qD 408 zmv=[]:=uB om;generalize hres:zdH c s q n a=res;refine CallEx.body (F0:=[(0,.ptr i 0 0),(1,.agg (cxc c)),(2,.agg (stc s))]) func231 rfl ntmps231 results231 rfl kr rfl ?_;refine .f (λK k=>by simp(disch:=omega) only[go_sem,c1,c2,↓zjU,qB];exact k) ?_;unfold zdH at hres;suffices hrest:PW prog _ _ [(0,.ptr i 0 0),(4,.ptr H.length 0 0),(5,.ptr (H.length+1) 0 0),(6,.ptr (H.length+2) 0 0),(7,.ptr (H.length+3) 0 0),(20,.bool (!(vcx c&&zgi s)))] (H++[⟨205,0,cxc c⟩,⟨319,0,stc s⟩,⟨142,0,zmv⟩,⟨319,0,stc zSt⟩]) _ by
  cases hv:vcx c with
  | false=>
   rw[hv]at vo hrest;refine .x λK hK=> ?_;simp(disch:=omega) only[go_sem,tk1,l1];refine VCx.call (vo _) rfl ?_;simp(disch:=omega) only[go_sem];refine hK _ _ ?_;clear hK K;exact .a hrest
  | true=>rw[hv]at vo hrest;refine .x λK hK=> ?_;simp(disch:=omega) only[go_sem,tk1,l1];refine VCx.call (vo _) rfl ?_;simp(disch:=omega) only[go_sem,tk2,l2];refine VCx.call (so _) rfl ?_;simp(disch:=omega) only[go_sem];refine hK _ _ ?_;clear hK K;exact .a hrest
 cases hval:(vcx c&&zgi s)with
 | false=>
  rw[hval,gC (by decide)]at hres;refine .t (.f (λK k=>by simp(disch:=omega) only[go_sem,↓zjU,hzl,hzc,tz,dz,stc];exact k) ?_);refine .w (.tup [.agg zmv,.agg (stc zSt),O J 1]) (nq2 hzl (nq2 tz (nq2 @stc.eq_1 @zSt.eq_1))) ?_;rw[<-hres];have:=zj7 H i j v n a [⟨205,0,cxc c⟩,⟨319,0,stc s⟩,⟨142,0,zmv⟩,⟨319,0,stc zSt⟩] (.er 0 a) hj ha;rw[hself]at this;exact this
 | true=>
  rw[hval,gD rfl]at hres;rw[gB]at hval;obtain⟨hsq,hv,hd⟩:=zlx hval.2;refine .us ?_;(repeat refine .seq ?_);refine .view (Vs.place 142) ?_;refine .view (Vs.place 319) ?_;refine .eq rfl (show _=H++[⟨205,0,cxc c⟩,⟨319,0,stc s⟩,⟨142,0,zmv⟩,⟨319,0,stc zSt⟩,⟨142,0,[]⟩,⟨319,0,[]⟩] by simp) ?_;have s0:(stc s)[0]? =some (O J s.q):=rfl;refine .y [H.length+4,H.length+5] [(9,[0]),(10,[1])] [(9,0),(10,1)] [] λK hK=> ?_;simp(disch:=omega) only[go_sem,↓zjU,apn,aps,s0,hzl,hzc,dz,stc,qB];refine hK _ _ ?_;clear hK K;obtain⟨X,hXe⟩:∃ X:za,X=[⟨205,0,cxc c⟩,⟨319,0,stc s⟩,⟨142,0,zmv⟩,⟨319,0,stc zSt⟩]:=⟨_,rfl⟩;have hX:X.length=4:=by rw[hXe];rfl
  refine .a (F1:=[(0,.ptr i 0 0),(4,.ptr H.length 0 0),(5,.ptr (H.length+1) 0 0),(6,.ptr (H.length+2) 0 0),(7,.ptr (H.length+3) 0 0),(9,.ptr (H.length+4) 1 0),(10,.ptr (H.length+5) 1 0)]) (H1:=uG H i j v n a X (mW zMb) (sB (aft s 0)) []) ?_ rfl (by unfold uG;rw[hself,hXe];rfl);have hX0:X[0]? =some ⟨205,0,cxc c⟩:=by rw[hXe];rfl
  have hX1:X[1]? =some ⟨319,0,stc s⟩:=by rw[hXe];rfl
  have hX2:X[2]? =some ⟨142,0,zmv⟩:=by rw[hXe];rfl
  have hX3:X[3]? =some ⟨319,0,stc zSt⟩:=by rw[hXe];rfl
  have gx:=λa B4 B5 k hk=>zoz H i j v n a X B4 B5 [] k hX hk;have g0:=λa B4 B5=>(gx a B4 B5 0 om).trans hX0;have kr:=ztf H i j v q n a X c (aft s 0) hi hB hne hX ha hn hq;have g0:=λa B4 B5=>by simpa using(gx a B4 B5 0 om).trans hX0
  have g1:=λa B4 B5=>(gx a B4 B5 1 om).trans hX1;have g5:=λa B4 B5=>zq8 H i j v n a X B4 B5 [] hX;have g4:=λa B4 B5=>zq9 H i j v n a X B4 B5 [] hX;have s5:=λa B4 B5 B=>zjj H i j v n a X B4 B5 [] hX B;unfold mtk at hres;suffices h12:∀(m':Mb) (s':St) (a':Nat) (e:Int),a'<=n->m'.lv.length=384->((e=0/\res= .ok (m',s') a')\/∃(e' a0:Nat),e=(e':Int)+1/\res= .er e' a0)->
    PW prog _ _ [(6,.ptr (H.length+2) 0 0),(7,.ptr (H.length+3) 0 0),(9,.ptr (H.length+4) 1 0),(10,.ptr (H.length+5) 1 0),(12,O J e)] (uG H i j v n a' X (mW m') (sB s') []) _ by
   suffices h10:∀(m':Mb) (s':St) (hl:Bool) (a':Nat),a'<=n->m'.lv.length=384->dcR s'->(1<=s'.q/\s'.q<=31)->(hl=true->m'.k=1\/m'.k=2)->(if hl then zhU c q n (alc m') s' a' else .ok (m',s') a')=res->
     PW prog _ _ [(0,.ptr i 0 0),(4,.ptr H.length 0 0),(6,.ptr (H.length+2) 0 0),(7,.ptr (H.length+3) 0 0),(9,.ptr (H.length+4) 1 0),(10,.ptr (H.length+5) 1 0),(11,.bool hl),(12,O J 0)] (uG H i j v n a' X (mW m') (sB s') []) _ by
    cases hkd:zb0 c q n a with
    | er e a1=>
     rw[hkd]at kr hres;rw[Rr.bind_er]at hres;have d0:((e:Int)+1==0)=false:=by simp;omega
     simp only[rvK,mKd]at kr;refine .x λK hK=> ?_;simp(disch:=omega) only[go_sem,g0,l1,tk1];refine VCx.call (kr) rfl ?_;simp(disch:=omega) only[go_sem];refine hK _ _ ?_;clear hK K;refine .g d0 ?_;refine .us (.g d0 ?_);refine .us (.g d0 ?_);refine .us ?_;exact .a (h12 zMb (aft s 0) a1 _ (zrq hkd ha) zW (.inr ⟨e,a1,rfl,hres.symm⟩))
    | ok x a1=>
     obtain⟨m,hl⟩:=x;obtain⟨ha1,hlv⟩:=zka hkd ha;have hml:(zd4 m).lv.length=384:=by rw[show(zd4 m).lv=zl384 from hlv];exact zW
     have hre:=zya hkd ha hv;rw[hkd]at kr hres;rw[Rr.bind_ok]at hres;dsimp only at hres;rw[<-hre]at hres;unfold zyb at hres;simp only[rvK,mKd]at kr;have dv:=λk=>zwb hd k;refine .x λK hK=> ?_;simp(disch:=omega) only[go_sem,g0,l1,tk1];refine VCx.call (kr) rfl ?_;simp(disch:=omega) only[go_sem];refine hK _ _ ?_;clear hK K;have hkl:hl=true->m.k=1\/m.k=2:=λe=>by
      rcases zoE hkd with⟨rfl,rfl⟩|⟨rfl,rfl⟩|⟨v,rfl⟩
      .exact .inl rfl
      .cases e
      .exact .inr rfl
     have mk:(mbc (zd4 m))[0]? =some (O J m.k):=rfl;have gs4:qA 4 (qD 4 (stc s))=[O J s.va,O J s.vb,O J s.vc,O J s.vd]:=rfl;have gs3:qA 3 (qD 1 (stc s))=[O J s.da,O J s.db,O J s.dc]:=rfl;have ls:∀ t,(stc t).length=8:=λ_=>rfl;by_cases hk2:m.k=2
     .have dk:(m.k==2)=true:=by simp[hk2]
      have dk1:(m.k==1)=false:=by simp[hk2]
      have st4:qA 4 (stc (aft s 0))++ O J s.va:: O J s.vb:: O J s.vc:: O J s.vd::qD 8 (stc (aft s 0))=stc (aft s 2):=rfl;rw[hk2]at hres;have va:vrS (aft s 2):=λd=>by rw[zuC,zuB];exact hv d
      have vr:=zq7 H i j v q n X c hi hB hne hX hn hq (zd4 m) (aft s 2) a1 hml va ha1 hk2;refine .f (λK k=>by simp(disch:=omega) only[go_sem,g4,zag,zah,mk,dk];exact k) ?_;refine .t (.f (λK k=>by simp(disch:=omega) only[go_sem,g1,g5,s5,zg4,zg5,zr8,gs4,ls,st4,zlV,qB];exact k) ?_);refine .x λK hK=> ?_;simp(disch:=omega) only[go_sem,g0,l1,tk1];refine VCx.callR vr rfl λw H' hR=> ?_;cases htp:zbr c q n (zd4 m) (aft s 2) a1 with
      | er e a2=>
       rw[htp]at hR hres;obtain⟨rfl,a4,m4,s4',h1,h2,rfl⟩:=hR;rw[Rr.bind_er]at hres;have d0:((e:Int)+1==0)=false:=by simp;omega
       simp(disch:=omega) only[go_sem,ecd];refine hK _ _ ?_;clear hK K;refine .g d0 ?_;refine .us (.g d0 ?_);refine .us ?_;exact .a (h12 m4 s4' a4 _ h1 h2 (.inr ⟨e,a2,rfl,hres.symm⟩))
      | ok y a2=>
       obtain⟨b1,b2,b3,b4⟩:=zj9 htp ha1 va;rw[htp]at hR hres;obtain⟨rfl,rfl⟩:=hR;rw[Rr.bind_ok]at hres;have yk:y.1.k=2:=by rw[b3];exact hk2
       have dy1:(y.1.k==1)=false:=by rw[yk];rfl
       simp(disch:=omega) only[go_sem];refine hK _ _ ?_;clear hK K;refine .f (λK k=>by simp(disch:=omega) only[go_sem,g4,zag,zah,zdX,dy1];exact k) ?_;refine .us ?_;exact .a (h10 y.1 y.2 hl a2 b1 (by rw[b2];exact hml) (zmT b4 (dv 2)) (by rw[b4.1];exact hsq) (λ_=>.inr yk) hres)
     have dk:(m.k==2)=false:=by simp[hk2]
     have ep:∀ t,zbr c q n (zd4 m) t a1= .ok (zd4 m,t) a1:=λt=>by unfold zbr;rw[gC (show ¬(zd4 m).k=2 from hk2)]
     rw[ep,Rr.bind_ok]at hres;refine .f (λK k=>by simp(disch:=omega) only[go_sem,g4,zag,zah,mk,dk];exact k) ?_;refine .us ?_;by_cases hk1:m.k=1
     .have dk1:(m.k==1)=true:=by simp[hk1]
      have st3:qA 1 (stc (aft s 0))++ O J s.da:: O J s.db:: O J s.dc::qD 4 (stc (aft s 0))=stc (aft s 1):=rfl;rw[hk1]at hres;refine .f (λK k=>by simp(disch:=omega) only[go_sem,g4,zag,zah,mk,dk1];exact k) ?_;refine .t (.f (λK k=>by simp(disch:=omega) only[go_sem,g1,g5,s5,zg4,zg5,zr8,gs3,ls,st3,zlV,qB];exact k) ?_);exact .a (h10 (zd4 m) (aft s 1) hl a1 ha1 hml (dv 1) hsq hkl hres)
     .have dk1:(m.k==1)=false:=by simp[hk1]
      have e0:aft s m.k=aft s 0:=by unfold aft;rw[gC hk1,gC hk1,gC hk1,gC hk2,gC hk2,gC hk2,gC hk2];rfl
      rw[e0]at hres;refine .f (λK k=>by simp(disch:=omega) only[go_sem,g4,zag,zah,mk,dk1];exact k) ?_;refine .us ?_;exact .a (h10 (zd4 m) (aft s 0) hl a1 ha1 hml (dv 0) hsq hkl hres)
   clear hres kr;intro m' s' hl a' ha' hml' hd' hq' hkl hres;cases hl with
   | false=>
    rw[gC (by decide)]at hres;refine .e (.us ?_);exact .a (h12 m' s' a' 0 ha' hml' (.inl ⟨rfl,hres.symm⟩))
   | true=>
    rw[gD rfl]at hres;have br:=zum H i j v q n X c hi hB hne hX hn hq m' s' a' hml' hd' hq' ha' (hkl rfl);refine .e (.t ?_);refine .x λK hK=> ?_;simp(disch:=omega) only[go_sem,g0,l1,tk1];refine VCx.callR br rfl λw H' hR=> ?_;cases htb:zhU c q n (alc m') s' a' with
    | er e a2=>
     rw[htb]at hR hres;obtain⟨rfl,a4,m4,s4',h1,h2,rfl⟩:=hR;simp(disch:=omega) only[go_sem,ecd];refine hK _ _ ?_;clear hK K;exact .a (h12 m4 s4' a4 _ h1 h2 (.inr ⟨e,a2,rfl,hres.symm⟩))
    | ok y a2=>obtain⟨b1,b2⟩:=zxP htb ha' hml';rw[htb]at hR hres;obtain⟨rfl,rfl⟩:=hR;simp(disch:=omega) only[go_sem];refine hK _ _ ?_;clear hK K;exact .a (h12 y.1 y.2 a2 0 b1 b2 (.inl ⟨rfl,hres.symm⟩))
  clear hres kr;intro m' s' a' e ha' hml' hx;have hlm:=zu m' hml';have htm:qA 408 (mbc m')=mbc m':=gH om;have hcm:=zcC m';have lst:∀ t,(stc t).length=8:=λ_=>rfl;have tst:∀ t,qA 8 (stc t)=stc t:=λ_=>rfl;have cst:∀ t,(stc t).all PV.cell=true:=λ_=>rfl;have dst:qD 8 (stc zSt)=[]:=rfl;have g2:=λa B4 B5=>(gx a B4 B5 2 om).trans hX2;have g3:=λa B4 B5=>(gx a B4 B5 3 om).trans hX3;rcases hx with⟨rfl,hr⟩|⟨e',a0,rfl,hr⟩
  .refine .e (.us ?_);have sx2:=λB=>zwH H i j v n a' X (mW m') (sB s') [] B 2 hX om;have hX':∀ B,(X.set 2 B).length=4:=λB=>by rw[gS];exact hX
   have g3':∀ B,(uG H i j v n a' (X.set 2 B) (mW m') (sB s') [])[H.length+3]? =some ⟨319,0,stc zSt⟩:=λB=>by rw[zoz _ _ _ _ _ _ _ _ _ _ _ (hX' B) om,hXe];rfl
   have sx3:=λY B (hY:Y.length=4)=>zwH H i j v n a' Y (mW m') (sB s') [] B 3 hY om;have sx3':=λB B'=>sx3 (X.set 2 B) B' (hX' B);refine .y [H.length+2,H.length+3] [(6,[0]),(7,[1])] [] [] λK hK=> ?_;simp(disch:=omega) only[go_sem,g4,g5,g2,g3',sx2,sx3',zag,zah,zg4,zg5,hlm,htm,hzl,dz,hcm,lst,tst,cst,dst];refine hK _ _ ?_;clear hK K;have hX2':((X.set 2 ⟨142,0,mbc m'⟩).set 3 ⟨319,0,stc s'⟩).length=4:=by rw[gS,gS];exact hX
   have f2:(uG H i j v n a' ((X.set 2 ⟨142,0,mbc m'⟩).set 3 ⟨319,0,stc s'⟩) (mW m') (sB s') [])[H.length+2]? =some ⟨142,0,mbc m'⟩:=by rw[zoz _ _ _ _ _ _ _ _ _ _ _ hX2' om,hXe];rfl
   have f3:(uG H i j v n a' ((X.set 2 ⟨142,0,mbc m'⟩).set 3 ⟨319,0,stc s'⟩) (mW m') (sB s') [])[H.length+3]? =some ⟨319,0,stc s'⟩:=by rw[zoz _ _ _ _ _ _ _ _ _ _ _ hX2' om,hXe];rfl
   refine .w (.tup [.agg (mbc m'),.agg (stc s'),O J 0]) (nq2 f2 (nq2 f3 (nq2 hlm (nq2 htm (nq2 lst tst))))) ?_;rw[hr];exact zj7 H i j v n a' (((X.set 2 ⟨142,0,mbc m'⟩).set 3 ⟨319,0,stc s'⟩)++[mW m',sB s']) (.ok (m',s') a') hj rfl
  .have d0:((e':Int)+1 !=0)=true:=by simp;omega
   have se1:=zam (g2 a' (mW m') (sB s'));have se2:=zam (g3 a' (mW m') (sB s'));refine .g d0 ?_;refine .t (.f (λK k=>by simp(disch:=omega) only[go_sem,↓zjU,g2,g3,hzl,hzc,dz,lst,se1];exact k) ?_);refine .a (F1:=[(6,.ptr (H.length+2) 0 0),(7,.ptr (H.length+3) 0 0),(8,O J ((e':Int)+1))]) (H1:=uG H i j v n a' X (mW m') (sB s') []) ?_ rfl se2;refine .w (.tup [.agg zmv,.agg (stc zSt),O J ((e':Int)+1)]) (nq2 g2 (nq2 g3 (nq2 hzl (nq2 tz (nq2 lst tst))))) ?_;rw[hr];exact zj7 H i j v n a' (X++[mW m',sB s']) (.er e' a0) hj ha'
end Sc
end Go.Proofs.YtleejngibkbjnaaGreatDoor
