/-
  Parts of the proof. No condition.
-/
import Derived.Test.YtdajpjenhcobkaaGreatDoorX23
open List renaming getElem?_append_right → qA, length_set → qB, getElem?_eq_some_iff → qD, take → qF, set_append_right → qH, drop → qI, getElem?_append_left → qJ, take_of_length_le → qK, set_append_left → qN
open Nat renaming reduceAdd → qG, strongRecOn → qL, sub_self → qM
open Go.Proofs.Tryz renaming prog → qE
set_option linter.all false
set_option maxRecDepth 100000
set_option maxHeartbeats 32000000
namespace Go.Proofs.YtdajpjenhcobkaaGreatDoor
namespace Sc
open Pm Ty Go.RowKit
theorem zkf(i j v:Nat)(q:List UInt8)(n a:Nat)(H:za)(hA:H[i]? =some (rR j v n a))(hB:H[j]? =some (rB q v))(hne:i≠j)(ha:a<=n)(hn:n<=8 * q.length)(hq:q.length<=100000000):
  CallOk qE 277 [.ptr i 0 0] H (rvF (tkF q n a)) (H.set i (rR j v n (tkF q n a).at)):=by
 have hself:=zai hA;cases hf:tkF q n a with
 | ok b a1=>
  obtain⟨rfl,h2,rfl⟩:=zdA hf;have t:=zeb i j v q n a 1 _ hA hB hne om hn hq om;rw[show vl q a 1=zag q a by simp[vl]]at t;have e1:((zag q a:Int)==1)=decide (zag q a=1):=by rw[Bool.eq_iff_iff];simp;omega
  simp only[rvF,Rr.at];generalize H.set i (rR j v n (a+1))=Hz at *;refine .go Tryz.func277 Tryz.ntmps277 Tryz.results277 ?_;refine .e ?_;refine .f (λK k=>by simp(disch:=omega) only[go_sem];refine VCx.call (t) rfl ?_;simp(disch:=omega) only[go_sem];exact k) ?_;refine .g e1 ?_;exact .ret ⟨_,rfl,Fin.now⟩
 | er e a1=>obtain⟨rfl,rfl,h2⟩:=zgi hf;have t:=zfP i j v q n a1 1 _ hA hB om om om om;simp only[rvF,Rr.at,hself];refine .go Tryz.func277 Tryz.ntmps277 Tryz.results277 ?_;refine .e ?_;refine .f (λK k=>by simp(disch:=omega) only[go_sem];refine VCx.call (t) rfl ?_;simp(disch:=omega) only[go_sem];exact k) ?_;refine .e ?_;exact .ret ⟨_,rfl,Fin.now⟩
def uG(H:za)(i j v n a:Nat)(X:za)(B4 B5:Blk)(K:za):za:=H.set i (rR j v n a)++(X++B4::B5::K)
def mW(m:Mb):Blk:=⟨109,1,mbc m⟩
theorem zab(m:Mb):(mW m).ver=1:=rfl
theorem zac(m:Mb):(mW m).cells=mbc m:=rfl
theorem zcC(m:Mb):(mW m).e=109:=rfl
theorem za9(m:Mb):(⟨109,1,mbc m⟩:Blk)=mW m:=rfl
def sB(s:St):Blk:=⟨253,1,stc s⟩
theorem zgv(s:St):(sB s).ver=1:=rfl
theorem zgw(s:St):(sB s).cells=stc s:=rfl
theorem zqk(s:St):(sB s).e=253:=rfl
theorem zkP(s:St):(⟨253,1,stc s⟩:Blk)=sB s:=rfl
section
variable (H:za) (i j v n a:Nat) (X:za) (B4 B5:Blk) (K:za)
theorem zdf(hX:X.length=4):(uG H i j v n a X B4 B5 K).length=H.length+6+K.length:=by simp[uG,hX];omega
theorem zhh(L:za):uG H i j v n a X B4 B5 K++L=uG H i j v n a X B4 B5 (K++L):=by simp[uG]
theorem zsQ(hi:i<H.length):(uG H i j v n a X B4 B5 K)[i]? =some (rR j v n a):=by unfold uG;rw[qJ (by simpa using hi)];simp[hi]
theorem zsP{B:Blk}(hj:H[j]? =some B)(hne:i≠j):(uG H i j v n a X B4 B5 K)[j]? =some B:=by unfold uG;rw[qJ (by simpa using(qD.1 hj).1),List.getElem?_set_ne hne];exact hj
theorem zku(hi:i<H.length)(a':Nat):(uG H i j v n a X B4 B5 K).set i (rR j v n a')=uG H i j v n a' X B4 B5 K:=by unfold uG;rw[qN _ _ (by simpa using hi),List.set_set]
theorem zpx(hX:X.length=4):(uG H i j v n a X B4 B5 K)[H.length+4]? =some B4:=by unfold uG;rw[qA sp,qB,show H.length+4 - H.length=4 from om,qA om,hX];rfl
theorem zpw(hX:X.length=4):(uG H i j v n a X B4 B5 K)[H.length+5]? =some B5:=by unfold uG;rw[qA sp,qB,show H.length+5 - H.length=5 from om,qA om,hX];rfl
theorem zvh(hX:X.length=4)(B:Blk):(uG H i j v n a X B4 B5 (B::K))[H.length+6]? =some B:=by unfold uG;rw[qA sp,qB,show H.length+6 - H.length=6 from om,qA om,hX];rfl
theorem zkv(hX:X.length=4)(B:Blk):(uG H i j v n a X B4 B5 K).set (H.length+4) B=uG H i j v n a X B B5 K:=by unfold uG;rw[qH _ _ sp,qB,show H.length+4 - H.length=4 from om,qH _ _ om,hX];rfl
theorem zix(hX:X.length=4)(B:Blk):(uG H i j v n a X B4 B5 K).set (H.length+5) B=uG H i j v n a X B4 B K:=by unfold uG;rw[qH _ _ sp,qB,show H.length+5 - H.length=5 from om,qH _ _ om,hX];rfl
end
theorem zxD(m:Mb)(n:Nat):∀ x∈(mW m).cells,Scoped n x:=λx hx=>zeN [m] n x (by simpa[mW]using hx)
theorem zxk(s:St)(n:Nat):∀ x∈(sB s).cells,Scoped n x:=λx hx=>by simp only[sB,stc,List.mem_cons,List.not_mem_nil,or_false]at hx;rcases hx with rfl|rfl|rfl|rfl|rfl|rfl|rfl|rfl<;>exact .int _ _
theorem zrF(H:za)(i j v n a a':Nat)(X:za)(m m':Mb)(s s':St)(hi:i<H.length)(hj:j<H.length)(hX:X.length=4)(h:HSc (uG H i j v n a X (mW m) (sB s) [])):HSc (uG H i j v n a' X (mW m') (sB s') []):=by have h1:=HSc.set (id:=i) (k:=rR j v n a') h (zuH j v n a' _ (by rw[zdf _ _ _ _ _ _ _ _ _ _ hX];omega));rw[zku _ _ _ _ _ _ _ _ _ _ hi]at h1;have h2:=HSc.set (id:=H.length+4) (k:=mW m') h1 (zxD m' _);rw[zkv _ _ _ _ _ _ _ _ _ _ hX]at h2;have h3:=HSc.set (id:=H.length+5) (k:=sB s') h2 (zxk s' _);rwa[zix _ _ _ _ _ _ _ _ _ _ hX]at h3
def rvK:Rr (Mb×Bool)->PV
 | .ok x _=>.tup [.bool x.2,.int .i64 0]
 | .er e _=>.tup [.bool false,.int .i64 ((e:Int)+1)]
def zdN(m:Mb):Mb:={ m with ca:=false,cb:=false,cc:=false,cd:=false,ce:=false,cf:=false }
def mKd:Rr (Mb×Bool)->Mb
 | .ok x _=>zdN x.1
 | .er _ _=>zMb
end Sc
namespace Sc
open Pm Ty Go.RowKit
theorem zvG(n:Nat)(x:Rr (Mb×Bool)):Scoped n (rvK x):=by
 cases x<;>
 exact .tup (zO λx hx=>by
  simp only[List.mem_cons,List.not_mem_nil,or_false]at hx;rcases hx with rfl|rfl
  .exact .bool _
  .exact .int _ _)
section
variable (H:za) (i j v:Nat) (q:List UInt8) (n a:Nat) (X:za) (c:Cx) (s:St) (hi:i<H.length) (hB:H[j]? =some (rB q v)) (hne:i≠j) (hX:X.length=4) (ha:a<=n) (hn:n<=8 * q.length) (hq:q.length<=100000000)
include hi hB hne hX ha hn hq
theorem zry:CallOk qE 244 [.ptr i 0 0,.agg (cxc c),.ptr (H.length+4) 1 0] (uG H i j v n a X (mW zMb) (sB s) []) (rvK (zbW c q n a)) (uG H i j v n (match zbW c q n a with| .ok _ a1=>a1| .er _ a1=>a1) X (mW (mKd (zbW c q n a))) (sB s) []):=by
 have hj:=(qD.1 hB).1;have g6:=λa B4 B5 K B=>zvh H i j v n a X B4 B5 K hX B;have g5:=λa B4 B5 K=>zpw H i j v n a X B4 B5 K hX;have g4:=λa B4 B5 K=>zpx H i j v n a X B4 B5 K hX;have s5:=λa B4 B5 K B=>zix H i j v n a X B4 B5 K hX B;have s4:=λa B4 B5 K B=>zkv H i j v n a X B4 B5 K hX B;have c1:=zd6 c;have cx0:(cxc c)[0]? =some (.int .i64 c.t):=rfl;have hzl:=zu zMb zV;have hzl2:=zu { zMb with k:=2 } zV;have hlen:=zdf H i j v n a X (mW zMb) (sB s) [] hX;have fin:∀(w:PV) (a':Nat) (m:Mb) (_:Scoped (H.length+6) w),Fin (uG H i j v n a X (mW zMb) (sB s) []) w (uG H i j v n a' X (mW m) (sB s) []) w (uG H i j v n a' X (mW m) (sB s) [⟨125,0,cxc c⟩]):=λw a' m hw=>by refine .cut (K:=[⟨125,0,cxc c⟩]) (zhh H i j v n a' X (mW m) (sB s) [] _).symm (by rw[zdf _ _ _ _ _ _ _ _ _ _ hX,zdf _ _ _ _ _ _ _ _ _ _ hX]) (zrF H i j v n a a' X zMb m s s hi hj hX) ?_;rw[zdf _ _ _ _ _ _ _ _ _ _ hX];exact .id hw
 have tu:=zjd i j v q n a (uG H i j v n a X (mW zMb) (sB s) [⟨125,0,cxc c⟩]) (zsQ _ _ _ _ _ _ _ _ _ _ hi) (zsP _ _ _ _ _ _ _ _ _ _ hB hne) hne ha hn hq;rw[zku _ _ _ _ _ _ _ _ _ _ hi]at tu;generalize hres:zbW c q n a=res;have hrs:=zvG (H.length+6) res;unfold zbW at hres;refine .go Tryz.func244 Tryz.ntmps244 Tryz.results244 ?_;refine .g c1 ?_;refine .at [0,2,4] (F1:=[(0,.ptr i 0 0),(2,.ptr (H.length+4) 1 0),(4,.ptr (H.length+6) 0 0)]) (H1:=uG H i j v n a X (mW zMb) (sB s) [⟨125,0,cxc c⟩]) ?_ (by simp[kp,slot,Nat.beq,hlen]) (zhh _ _ _ _ _ _ _ _ _ _ _);by_cases ht1:c.t=1
 .have q1:(c.t==1)=true:=by simp[ht1]
  rw[if_pos ht1]at hres;subst hres;refine .g (nq2 g6 (nq2 cx0 q1)) ?_;refine .t ?_;refine .f (λK k=>by simp(disch:=omega) only[go_sem,g4,s4,zab,zac,zcC,zhW,za9,hzl];exact k) ?_;refine .e ?_;exact .ret ⟨_,rfl,fin _ a _ hrs⟩
 have q1:(c.t==1)=false:=by simp[ht1]
 rw[if_neg ht1]at hres;refine .g (nq2 g6 (nq2 cx0 q1)) ?_;refine .us ?_;cases hu:tkU q n a with
 | er e a1=>
  rw[hu]at tu hres;simp only[rvU,Rr.at]at tu;rw[Rr.bind_er]at hres;subst hres;have d0:((e:Int)+1 !=0)=true:=by simp;omega
  have he:=(zgh hu).2;refine .f (λK k=>by simp(disch:=omega) only[go_sem];refine VCx.call (tu) rfl ?_;simp(disch:=omega) only[go_sem];exact k) ?_;refine .g d0 ?_;refine .t ?_;refine .e ?_;exact .ret ⟨_,rfl,fin _ a1 zMb hrs⟩
 | ok w a1=>
  have hb:=zdz hu ha;rw[hu]at tu hres;simp only[rvU,Rr.at]at tu;rw[Rr.bind_ok]at hres;refine .f (λK k=>by simp(disch:=omega) only[go_sem];refine VCx.call (tu) rfl ?_;simp(disch:=omega) only[go_sem];exact k) ?_;by_cases hw0:w=0
  .have d0:((w:Int)==0)=true:=by simp[hw0]
   rw[if_neg (by split<;>omega),if_neg (by split<;>omega),if_pos hw0]at hres;subst hres;refine .g d0 ?_;refine .t ?_;refine .e ?_;exact .ret ⟨_,rfl,fin _ a1 zMb hrs⟩
  have d0:((w:Int)==0)=false:=by rw[beq_eq_false_iff_ne];omega
  refine .g d0 ?_;refine .us ?_;refine .e ?_;refine .to [0,2,8,10] [(0,.ptr i 0 0),(2,.ptr (H.length+4) 1 0),(8,.int .i64 (w:Int)),(10,.int .i64 ((if c.t=2 then 3 else 7:Nat):Int))] (uG H i j v n a1 X (mW zMb) (sB s) [⟨125,0,cxc c⟩]) ?_ ?_
  .by_cases ht2:c.t=2
   .have q2:(c.t==2)=true:=by simp[ht2]
    rw[if_pos ht2];refine .g (nq2 g6 (nq2 cx0 q2)) ?_;refine .t ?_;refine .e ?_;exact⟨rfl,rfl⟩
   .have q2:(c.t==2)=false:=by simp[ht2]
    rw[if_neg ht2];refine .g (nq2 g6 (nq2 cx0 q2)) ?_;refine .u ?_;exact .skip ⟨rfl,rfl⟩
  have hL:(if c.t=2 then 3 else 7:Nat)<=7:=by split<;>omega
  generalize (if c.t=2 then 3 else 7:Nat)=last at *;by_cases h1:last<w
  .have d1:decide ((last:Int)<(w:Int))=true:=decide_eq_true om;rw[if_pos h1]at hres;subst hres;refine .g d1 ?_;refine .t ?_;refine .e ?_;exact .ret ⟨_,rfl,fin _ a1 zMb hrs⟩
  have d1:decide ((last:Int)<(w:Int))=false:=decide_eq_false om;rw[if_neg h1]at hres;refine .g d1 ?_;refine .us ?_;by_cases h2:w=last
  .have d2:((w:Int)==(last:Int))=true:=by simp[h2]
   rw[if_pos h2]at hres;subst hres;refine .g d2 ?_;refine .t ?_;refine .f (λK k=>by simp(disch:=omega) only[go_sem,g4,s4,zab,zac,zcC,zhW,za9,hzl];exact k) ?_;refine .e ?_;exact .ret ⟨_,rfl,fin _ a1 _ hrs⟩
  have d2:((w:Int)==(last:Int))=false:=by rw[beq_eq_false_iff_ne];omega
  rw[if_neg h2,if_neg hw0]at hres;subst hres;refine .g d2 ?_;refine .us ?_;have h6:w=1\/w=2\/w=3\/w=4\/w=5\/w=6:=om;clear h1 h2 d1 d2 hb hL tu d0 hw0 hu;refine .f (λK k=>by simp(disch:=omega) only[go_sem,g4,s4,zab,zac,zcC,zhW,za9,hzl];exact k) ?_;rcases h6 with rfl|rfl|rfl|rfl|rfl|rfl;all_goals
   refine .f (λK k=>by simp(disch:=omega) only[go_sem,g4,s4,zab,zac,zcC,zrh,za9,hzl2,qG];exact k) ?_;refine .e ?_;exact .ret ⟨_,rfl,fin _ a1 _ hrs⟩
end
end Sc
namespace Sc
open Pm Ty Go.RowKit
def zxs(H:za)(i j v n:Nat)(X:za)(x:Rr (Mb×St)):PV->za->Prop:=λw H'=>
 match x with
 | .ok y a=>w= .int .i64 0/\H'=uG H i j v n a X (mW y.1) (sB y.2) []
 | .er e _=>w=ecd e/\∃ a m s,a<=n/\m.lv.length=384/\H'=uG H i j v n a X (mW m) (sB s) []
theorem zba{H:za}{i j v n a a':Nat}{X:za}{m m':Mb}{s s':St}{R:PV->za->Prop}{e:Int}{K:za}(hi:i<H.length)(hj:j<H.length)(hX:X.length=4)(hR:R (.int .i64 e) (uG H i j v n a' X (mW m') (sB s') [])):zm1 (uG H i j v n a X (mW m) (sB s) []) R (.int .i64 e) (uG H i j v n a' X (mW m') (sB s') K):=
 .inr (.inr λhs=>⟨.int .i64 e,uG H i j v n a' X (mW m') (sB s') [],hR,by rw[zdf _ _ _ _ _ _ _ _ _ _ hX,zdf _ _ _ _ _ _ _ _ _ _ hX];exact Nat.le_refl _,by
  have h:=zrF H i j v n a a' X m m' s s' hi hj hX hs;have:=CutH.base (K:=K) h;rwa[zhh]at this,.id (.int _ _)⟩)
theorem zv1(m:Mb)(d k:Nat)(hd:d<2)(hk:k<2)(x:Int):(mbc m).set (5+d * 4+k * 2) (.int .i64 x)=mbc (zaJ m d k x (vYm m d k)):=by have h1:d=0\/d=1:=om;have h2:k=0\/k=1:=om;rcases h1 with rfl|rfl<;>rcases h2 with rfl|rfl<;>rfl
theorem zv0(m:Mb)(d k:Nat)(hd:d<2)(hk:k<2)(x y:Int):(mbc (zaJ m d k x (vYm m d k))).set (5+d * 4+k * 2+1) (.int .i64 y)=mbc (zaJ m d k x y):=by have h1:d=0\/d=1:=om;have h2:k=0\/k=1:=om;rcases h1 with rfl|rfl<;>rcases h2 with rfl|rfl<;>rfl
theorem zv3(m:Mb)(d k:Nat)(hd:d<2)(hk:k<2)(x y:Int):(mbc (zaJ m d k x y))[5+d * 4+k * 2]? =some (.int .i64 x):=by have h1:d=0\/d=1:=om;have h2:k=0\/k=1:=om;rcases h1 with rfl|rfl<;>rcases h2 with rfl|rfl<;>rfl
theorem zv4(m:Mb)(d k:Nat)(hd:d<2)(hk:k<2)(x y:Int):qF 2 (qI (5+d * 4+k * 2) (mbc (zaJ m d k x y)))=[.int .i64 x,.int .i64 y]:=by have h1:d=0\/d=1:=om;have h2:k=0\/k=1:=om;rcases h1 with rfl|rfl<;>rcases h2 with rfl|rfl<;>rfl
theorem zvY(m:Mb)(d:Nat)(hd:d<2):(mbc m)[1+d]? =some (.bool (usd m d)):=by have h1:d=0\/d=1:=om;rcases h1 with rfl|rfl<;>rfl
theorem zjQ(m:Mb):(mbc m)[3]? =some (.bool m.fp):=rfl
theorem zxh(s:St)(d:Nat)(hd:d<2):(stc s)[4+d * 2]? =some (.int .i64 (sXs s d)):=by have h1:d=0\/d=1:=om;rcases h1 with rfl|rfl<;>rfl
theorem zvy(s:St)(d:Nat)(hd:d<2):(stc s)[4+d * 2+1]? =some (.int .i64 (sYs s d)):=by have h1:d=0\/d=1:=om;rcases h1 with rfl|rfl<;>rfl
theorem zvv(s:St)(d:Nat)(hd:d<2)(x y:Int):qF (4+d * 2) (stc s)++ .int .i64 x:: .int .i64 y::qI (4+d * 2+(1+1)) (stc s)=stc (zbr s d x y):=by have h1:d=0\/d=1:=om;rcases h1 with rfl|rfl<;>rfl
section
variable (H:za) (i j v:Nat) (q:List UInt8) (n:Nat) (X:za) (c:Cx) (hi:i<H.length) (hB:H[j]? =some (rB q v)) (hne:i≠j) (hX:X.length=4) (hn:n<=8 * q.length) (hq:q.length<=100000000)
include hi hB hne hX hn hq
theorem zpv(m:Mb)(s:St)(a:Nat)(hml:m.lv.length=384)(hs:vrS s)(ha:a<=n)(hk:m.k=2):CallEx qE 245 [.ptr i 0 0,.agg (cxc c),.ptr (H.length+4) 1 0,.ptr (H.length+5) 1 0] (uG H i j v n a X (mW m) (sB s) []) (zxs H i j v n X (zbp c q n m s a)):=by
 have hj:=(qD.1 hB).1;have g6:=λa B4 B5 K B=>zvh H i j v n a X B4 B5 K hX B;have g5:=λa B4 B5 K=>zpw H i j v n a X B4 B5 K hX;have g4:=λa B4 B5 K=>zpx H i j v n a X B4 B5 K hX;have s5:=λa B4 B5 K B=>zix H i j v n a X B4 B5 K hX B;have s4:=λa B4 B5 K B=>zkv H i j v n a X B4 B5 K hX B;have gi:=λa B4 B5 K=>zsQ H i j v n a X B4 B5 K hi;have gj:=λa B4 B5 K=>zsP H i j v n a X B4 B5 K hB hne;have si:=λa B4 B5 K a'=>zku H i j v n a X B4 B5 K hi a';have c1:=zd6 c;have l1:(cxc c).length=4:=rfl;have tk1:qF 4 (cxc c)=cxc c:=rfl;have hlen:=zdf H i j v n a X (mW m) (sB s) [] hX;have bo:=λK=>zg7 c K;have fo:=λK=>zgY c K;generalize hres:zbp c q n m s a=res;unfold zbp at hres;rw[if_pos hk]at hres;refine CallEx.body (F0:=[(0,.ptr i 0 0),(1,.agg (cxc c)),(2,.ptr (H.length+4) 1 0),(3,.ptr (H.length+5) 1 0)]) Tryz.func245 rfl Tryz.ntmps245 Tryz.results245 rfl kr rfl ?_;refine .g c1 ?_;refine .at [0,2,3,5] (F1:=[(0,.ptr i 0 0),(2,.ptr (H.length+4) 1 0),(3,.ptr (H.length+5) 1 0),(5,.ptr (H.length+6) 0 0)]) (H1:=uG H i j v n a X (mW m) (sB s) [⟨125,0,cxc c⟩]) ?_ (by simp[kp,slot,Nat.beq,hlen]) (zhh _ _ _ _ _ _ _ _ _ _ _);refine .e ?_;clear hlen;suffices hrest:∀(m:Mb) (a:Nat),m.lv.length=384->a<=n->zbq c q n 2 0 m s a=res->PW qE _ _ [(0,.ptr i 0 0),(2,.ptr (H.length+4) 1 0),(3,.ptr (H.length+5) 1 0),(5,.ptr (H.length+6) 0 0)] (uG H i j v n a X (mW m) (sB s) [⟨125,0,cxc c⟩]) _ by
  have hlm:=zu m hml;refine .m (nq2 g6 (nq2 tk1 l1)) bo ?_;cases hbv:bcx c with
  | false=>
   rw[hbv,if_neg (by decide),Rr.bind_ok]at hres;refine .us ?_;exact .at [0,2,3,5] (hrest m a hml ha hres) rfl rfl
  | true=>
   rw[hbv,if_pos rfl]at hres;have bt:=zkf i j v q n a _ (gi a (mW m) (sB s) [⟨125,0,cxc c⟩]) (gj _ _ _ _) hne ha hn hq;rw[si]at bt;refine .t ?_;cases hf:tkF q n a with
   | ok b a1=>
    obtain⟨rfl,h2,_⟩:=zdA hf;rw[hf,Rr.bind_ok,Rr.bind_ok]at hres;rw[hf]at bt;simp only[rvF,Rr.at]at bt;(repeat refine .seq ?_);refine .rg rfl λK hK=> ?_;simp(maxSteps:=3000000) (disch:=omega) only[go_sem];refine VCx.call (bt) rfl ?_;simp(maxSteps:=3000000) (disch:=omega) only[go_sem,g4,s4,zab,zac,zcC,hlm,zjN,za9];refine hK _ _ ?_;clear hK K;refine .e ?_;refine .us ?_;exact .at [0,2,3,5] (hrest { m with fp:=b } (a+1) hml om hres) rfl rfl
   | er e a1=>obtain⟨rfl,rfl,h2⟩:=zgi hf;rw[hf,Rr.bind_er,Rr.bind_er]at hres;rw[hf]at bt;simp only[rvF,Rr.at]at bt;(repeat refine .seq ?_);refine .rg rfl λK hK=> ?_;simp(maxSteps:=3000000) (disch:=omega) only[go_sem];refine VCx.call (bt) rfl ?_;simp(maxSteps:=3000000) (disch:=omega) only[go_sem,g4,s4,zab,zac,zcC,hlm,zjN,za9];refine hK _ _ ?_;clear hK K;refine .e ?_;refine .t ?_;refine .e ?_;refine .ret ⟨_,rfl,zba hi hj hX ?_⟩;rw[<-hres];exact⟨rfl,a1,{ m with fp:=false },s,ha,hml,rfl⟩
 clear hres ha hml;intro m a hml ha hres;refine .e ?_;refine .l ?_;suffices hl1:∀(d:Nat) (m1:Mb) (s1:St) (a1:Nat),d<=2->SameU m m1->vrS s1->a1<=n->zbq c q n (2 - d) d m1 s1 a1=res->PL qE _ _ [(0,.ptr i 0 0),(2,.ptr (H.length+4) 1 0),(3,.ptr (H.length+5) 1 0),(5,.ptr (H.length+6) 0 0),(10,.int .i64 (d:Int))] (uG H i j v n a1 X (mW m1) (sB s1) [⟨125,0,cxc c⟩]) _ by exact .at [0,2,3,5,10] (hl1 0 m s a om (.refl m) hs ha hres) rfl rfl
 clear hres ha hs;intro d m1 s1 a1 hd hm1 hs1 ha1 hres;induction hdd:2 - d using qL generalizing d m1 s1 a1 with
 | _ dd ih=>
  refine .round ?_;refine .e ?_;refine .c (λh=> ?_) (λh=> ?_);rotate_left
  .have h6:d=2:=ofF h;subst h6;refine .exit ?_;simp only[qM,zbq]at hres;refine .e ?_;refine .ret ⟨_,rfl,zba hi hj hX ?_⟩;rw[<-hres];exact⟨rfl,rfl⟩
  have h6:d<2:=ot h;obtain⟨n',hn'⟩:∃ n',2 - d=n'+1:=⟨1 - d,om⟩;rw[hn',zbq]at hres;have hnx:=λm1 s1 a1=>ih (2 - (d+1)) om (d+1) m1 s1 a1 om;rw[show 2 - (d+1)=n' from om]at hnx;have hdr:zdI c q n m1 s1 d a1=if usd m1 d then zaY c q n d (nvM m1) 0 m1 s1 a1 else .ok (m1,s1) a1:=rfl
  have env2:nvM m1=nvM m:=by unfold nvM;rw[hm1.2.2.2.1]
  have hum:∀ m2,SameU m m2->usd m2 d=usd m d:=λm2 h=>by unfold usd;rw[h.2.1,h.2.2.1]
  rw[hdr,hum m1 hm1,env2]at hres;have hnv:=zuL m;refine .skip ?_;refine .b ?_;refine .e ?_;refine .l ?_;have hud:=λm2=>zvY m2 d h6;cases hu:usd m d with
  | false=>
   rw[hu,if_neg (by decide),Rr.bind_ok]at hres;refine .round ?_;have hu1:usd m1 d=false:=by rw[hum m1 hm1,hu]
   refine .f (λK k=>by simp(maxSteps:=3000000) (disch:=omega) only[go_sem,g4,zab,zac,hud,hu1];exact k) ?_;refine .u ?_;refine .exit ?_;refine .e ?_;exact .at [0,2,3,5,10] (hnx m1 s1 a1 hm1 hs1 ha1 hres rfl) rfl rfl
  | true=>
   rw[hu,if_pos rfl]at hres;suffices hl2:∀(k:Nat) (m2:Mb) (s2:St) (a2:Nat),k<=nvM m->SameU m m2->vrS s2->a2<=n->((zaY c q n d (nvM m - k) k m2 s2 a2).bind λx a1=>zbq c q n n' (d+1) x.1 x.2 a1)=res->
     PL qE _ _ [(0,.ptr i 0 0),(2,.ptr (H.length+4) 1 0),(3,.ptr (H.length+5) 1 0),(5,.ptr (H.length+6) 0 0),(10,.int .i64 (d:Int)),(11,.int .i64 (k:Int))] (uG H i j v n a2 X (mW m2) (sB s2) [⟨125,0,cxc c⟩]) _ by
    exact .at [0,2,3,5,10,11] (hl2 0 m1 s1 a1 om hm1 hs1 ha1 hres) rfl rfl
   clear ih hres hs1 ha1 hdr env2 hm1;intro k m2 s2 a2 hk2 hm2 hs2 ha2 hres;induction hkk:nvM m - k using qL generalizing k m2 s2 a2 with
   | _ kk ih2=>
    have hu2:usd m2 d=true:=by rw[hum m2 hm2,hu]
    have hfp:m2.fp=m.fp:=hm2.2.2.2.1;have hml2:m2.lv.length=384:=by rw[hm2.1];exact hml
    by_cases h7:k=nvM m
    .subst h7;simp only[qM,zaY,Rr.bind_ok]at hres;refine .round ?_;cases hmf:m.fp with
     | true=>
      have h8:nvM m=2:=by unfold nvM;rw[hmf];rfl
      rw[h8];refine .f (λK k=>by simp(maxSteps:=3000000) (disch:=omega) only[go_sem,g4,zab,zac,hud,hu2];exact k) ?_;refine .u ?_;refine .exit ?_;refine .e ?_;exact .at [0,2,3,5,10] (hnx m2 s2 a2 hm2 hs2 ha2 hres rfl) rfl rfl
     | false=>
      have h8:nvM m=1:=by unfold nvM;rw[hmf];rfl
      have h9:m2.fp=false:=by rw[hfp,hmf]
      rw[h8];refine .f (λK k=>by simp(maxSteps:=3000000) (disch:=omega) only[go_sem,g4,zab,zac,hud,hu2];exact k) ?_;refine .t ?_;refine .skip ?_;refine .b ?_;refine .f (λK k=>by simp(maxSteps:=3000000) (disch:=omega) only[go_sem,g4,zab,zac,zjQ,h9];exact k) ?_;refine .t ?_;refine .exit ?_;refine .e ?_;exact .at [0,2,3,5,10] (hnx m2 s2 a2 hm2 hs2 ha2 hres rfl) rfl rfl
    have h8:k<nvM m:=om;have hk22:k<2:=om;obtain⟨n2,hn2⟩:∃ n2,nvM m - k=n2+1:=⟨nvM m - k - 1,om⟩;rw[hn2,zaY,Rr.bind_bind]at hres;have hnx2:=λm1 s1 a1=>ih2 (nvM m - (k+1)) om (k+1) m1 s1 a1 om;rw[show nvM m - (k+1)=n2 from om]at hnx2;clear ih2;have dk:decide ((k:Int)<2)=true:=decide_eq_true om;have hfk:k=1->m2.fp=true:=λe=>by
     rw[hfp];cases hmf:m.fp with
     | true=>rfl
     | false=>
      exfalso;have:nvM m=1:=by unfold nvM;rw[hmf];rfl
      omega
    refine .round ?_;refine .f (λK k=>by simp(maxSteps:=3000000) (disch:=omega) only[go_sem,g4,zab,zac,hud,hu2,dk];exact k) ?_;refine .t ?_;refine .skip ?_;refine .b ?_;suffices h13:PW qE _ _ [(0,.ptr i 0 0),(2,.ptr (H.length+4) 1 0),(3,.ptr (H.length+5) 1 0),(5,.ptr (H.length+6) 0 0),(10,.int .i64 (d:Int)),(11,.int .i64 (k:Int)),(54,.bool false)] (uG H i j v n a2 X (mW m2) (sB s2) [⟨125,0,cxc c⟩]) _ by
     have k01:k=0\/k=1:=om;rcases k01 with rfl|rfl
     .refine .e ?_;exact .at [0,2,3,5,10,11,54] h13 rfl rfl
     .have hf2:=hfk rfl;refine .f (λK k=>by simp(maxSteps:=3000000) (disch:=omega) only[go_sem,g4,zab,zac,zjQ,hf2];exact k) ?_;exact .at [0,2,3,5,10,11,54] h13 rfl rfl
    refine .us ?_;suffices h14:PW qE _ _ [(0,.ptr i 0 0),(2,.ptr (H.length+4) 1 0),(3,.ptr (H.length+5) 1 0),(5,.ptr (H.length+6) 0 0),(10,.int .i64 (d:Int)),(11,.int .i64 (k:Int)),(62,.bool (m2.fp||fcx c))] (uG H i j v n a2 X (mW m2) (sB s2) [⟨125,0,cxc c⟩]) _ by
     cases hf2:m2.fp with
     | true=>
      rw[hf2]at h14;refine .f (λK k=>by simp(maxSteps:=3000000) (disch:=omega) only[go_sem,g4,zab,zac,zjQ,hf2];exact k) ?_;exact .at [0,2,3,5,10,11,62] h14 rfl rfl
     | false=>rw[hf2]at h14;(repeat refine .seq ?_);refine .rg rfl λK hK=> ?_;simp(maxSteps:=3000000) (disch:=omega) only[go_sem,g4,zab,zac,zjQ,hf2,g6,tk1,l1];refine VCx.call (fo _) rfl ?_;simp(maxSteps:=3000000) (disch:=omega) only[go_sem];refine hK _ _ ?_;clear hK K;exact .at [0,2,3,5,10,11,62] h14 rfl rfl
    unfold zcO at hres;have hsv:=hs2 d;clear hfp hfk hu2;suffices hrest:∀(m3:Mb) (a3:Nat),SameU m m3->a3<=n->((((tkD q n (sXs s2 d) 63 a3).bind λx a2=>(tkD q n (sYs s2 d) 63 a2).bind λy a3=>.ok (zaJ m3 d k x y,zbr s2 d x y) a3).bind λv a=>(zaY c q n d n2 (k+1) v.1 v.2 a).bind λx a1=>zbq c q n n' (d+1) x.1 x.2 a1)=res)->
      PW qE _ _ [(0,.ptr i 0 0),(2,.ptr (H.length+4) 1 0),(3,.ptr (H.length+5) 1 0),(5,.ptr (H.length+6) 0 0),(10,.int .i64 (d:Int)),(11,.int .i64 (k:Int))] (uG H i j v n a3 X (mW m3) (sB s2) [⟨125,0,cxc c⟩]) _ by
     have hlm:=zu m2 hml2;cases hsel:(m2.fp||fcx c)with
     | false=>
      rw[hsel,if_neg (by decide),Rr.bind_ok]at hres;refine .us ?_;exact .at [0,2,3,5,10,11] (hrest m2 a2 hm2 ha2 hres) rfl rfl
     | true=>
      rw[hsel,if_pos rfl]at hres;refine .t ?_;by_cases han:a2<n
      .have hf:tkF q n a2= .ok (decide (zag q a2=1)) (a2+1):=by unfold tkF;rw[if_pos han]
       rw[hf,Rr.bind_ok,Rr.bind_ok]at hres;have hub:=zcd q a2;have t:=zeb i j v q n a2 1 _ (gi a2 (mW m2) (sB s2) [⟨125,0,cxc c⟩]) (gj _ _ _ _) hne om hn hq om;rw[si,show vl q a2 1=zag q a2 by simp[vl]]at t;have hbn:((decide (zag q a2=1)).toNat:Int)=(zag q a2:Int):=by have:zag q a2=0\/zag q a2=1:=om;rcases this with e|e<;>rw[e]<;>rfl
       rw[hbn]at hres;have hst:=zri m2 d k h6 hk22 (zag q a2:Int);refine .f (λK k=>by simp(maxSteps:=3000000) (disch:=omega) only[go_sem];refine VCx.call (t) rfl ?_;simp(maxSteps:=3000000) (disch:=omega) only[go_sem];exact k) ?_;refine .e ?_;refine .us ?_;refine .f (λK k=>by simp(maxSteps:=3000000) (disch:=omega) only[go_sem,g4,s4,zab,zac,zcC,hlm,hst,za9];exact k) ?_;exact .at [0,2,3,5,10,11] (hrest _ (a2+1) (hm2.trans (zhx m2 d k _)) om hres) rfl rfl
      .have hf:tkF q n a2= .er 3 a2:=by unfold tkF;rw[if_neg han]
       rw[hf,Rr.bind_er,Rr.bind_er,Rr.bind_er]at hres;have t:=zfP i j v q n a2 1 _ (gi a2 (mW m2) (sB s2) [⟨125,0,cxc c⟩]) (gj _ _ _ _) om om om om;refine .f (λK k=>by simp(maxSteps:=3000000) (disch:=omega) only[go_sem];refine VCx.call (t) rfl ?_;simp(maxSteps:=3000000) (disch:=omega) only[go_sem];exact k) ?_;refine .e ?_;refine .t ?_;refine .e ?_;refine .ret ⟨_,rfl,zba hi hj hX ?_⟩;rw[<-hres];exact⟨rfl,a2,m2,s2,ha2,hml2,rfl⟩
    clear hres ha2 hml2 hm2;intro m3 a3 hm3 ha3 hres;have hml3:m3.lv.length=384:=by rw[hm3.1];exact hml
    have hlm:=zu m3 hml3;have t1:=zdO i j v q n a3 _ (gi a3 (mW m3) (sB s2) [⟨125,0,cxc c⟩]) (gj _ _ _ _) hne ha3 hn hq;rw[si]at t1;unfold tkD at hres;simp only[show((63:Nat):Int)=63 from rfl]at hres;cases h1:tkS q n a3 with
    | er e a4=>
     have he:=zeY h1;rw[h1]at t1 hres;simp only[rvS,Rr.at,Rr.bind_er]at t1 hres;have d0:((e:Int)+1 !=0)=true:=by simp;omega
     refine .f (λK k=>by simp(maxSteps:=3000000) (disch:=omega) only[go_sem];refine VCx.call (t1) rfl ?_;simp(maxSteps:=3000000) (disch:=omega) only[go_sem];exact k) ?_;refine .g d0 ?_;refine .t ?_;refine .e ?_;refine .ret ⟨_,rfl,zba hi hj hX ?_⟩;rw[<-hres];exact⟨rfl,a4,m3,s2,om,hml3,rfl⟩
    | ok dx a4=>
     have hb:=zcG h1 ha3;rw[h1]at t1 hres;simp only[rvS,Rr.at]at t1;rw[Rr.bind_ok]at hres;refine .f (λK k=>by simp(maxSteps:=3000000) (disch:=omega) only[go_sem];refine VCx.call (t1) rfl ?_;simp(maxSteps:=3000000) (disch:=omega) only[go_sem];exact k) ?_;refine .e ?_;refine .us ?_;have gx:=zxh s2 d h6;have sx:=zv1 m3 d k h6 hk22;have hmx:∀ x,(mbc (zaJ m3 d k x (vYm m3 d k))).length=408:=λx=>zu _ (by rw[zdR];exact hml3);have gxx:=zv3 m3 d k h6 hk22;(repeat refine .seq ?_);refine .drawt [] [] mix kr λK hK=> ?_;simp(maxSteps:=3000000) (disch:=omega) only[go_sem,g4,g5,s4,zgv,zgw,zab,zac,zcC,gx,sx,hlm,za9];refine hK _ _ ?_;clear hK K;have vr0:=λK=>zde (sXs s2 d+dx) 0 K;have evr:vrg (sXs s2 d+dx) 0=win (sXs s2 d+dx) 63:=by unfold vrg;simp[win]
     rw[evr]at vr0;generalize hxx:sXs s2 d+dx=x at *;refine .at [0,2,3,5,10,11] (F1:=[(0,.ptr i 0 0),(2,.ptr (H.length+4) 1 0),(3,.ptr (H.length+5) 1 0),(5,.ptr (H.length+6) 0 0),(10,.int .i64 (d:Int)),(11,.int .i64 (k:Int))]) (H1:=uG H i j v n a4 X (mW (zaJ m3 d k x (vYm m3 d k))) (sB s2) [⟨125,0,cxc c⟩]) ?_ rfl rfl;cases hwx:win x 63 with
     | false=>
      rw[hwx]at vr0 hres;rw[if_neg (by decide)]at hres;simp only[Rr.bind_er]at hres;(repeat refine .seq ?_);refine .rg rfl λK hK=> ?_;simp(maxSteps:=3000000) (disch:=omega) only[go_sem,g4,zab,zac,gxx];refine VCx.call (vr0 _) rfl ?_;simp(maxSteps:=3000000) (disch:=omega) only[go_sem];refine hK _ _ ?_;clear hK K;refine .t ?_;refine .e ?_;refine .ret ⟨_,rfl,zba hi hj hX ?_⟩;rw[<-hres];exact⟨rfl,a4,_,s2,hb.2.2,by rw[zdR];exact hml3,rfl⟩
     | true=>
      have hxb:=zeX hwx;rw[hwx]at vr0 hres;rw[if_pos rfl,Rr.bind_ok]at hres;(repeat refine .seq ?_);refine .rg rfl λK hK=> ?_;simp(maxSteps:=3000000) (disch:=omega) only[go_sem,g4,zab,zac,gxx];refine VCx.call (vr0 _) rfl ?_;simp(maxSteps:=3000000) (disch:=omega) only[go_sem];refine hK _ _ ?_;clear hK K;refine .us ?_;have t2:=zdO i j v q n a4 _ (gi a4 (mW (zaJ m3 d k x (vYm m3 d k))) (sB s2) [⟨125,0,cxc c⟩]) (gj _ _ _ _) hne hb.2.2 hn hq;rw[si]at t2;cases h2:tkS q n a4 with
      | er e a5=>
       have he:=zeY h2;rw[h2]at t2 hres;simp only[rvS,Rr.at,Rr.bind_er]at t2 hres;have d0:((e:Int)+1 !=0)=true:=by simp;omega
       refine .f (λK k=>by simp(maxSteps:=3000000) (disch:=omega) only[go_sem];refine VCx.call (t2) rfl ?_;simp(maxSteps:=3000000) (disch:=omega) only[go_sem];exact k) ?_;refine .g d0 ?_;refine .t ?_;refine .e ?_;refine .ret ⟨_,rfl,zba hi hj hX ?_⟩;rw[<-hres];exact⟨rfl,a5,_,s2,om,by rw[zdR];exact hml3,rfl⟩
      | ok dy a5=>
       have hb2:=zcG h2 hb.2.2;rw[h2]at t2 hres;simp only[rvS,Rr.at]at t2;rw[Rr.bind_ok]at hres;refine .f (λK k=>by simp(maxSteps:=3000000) (disch:=omega) only[go_sem];refine VCx.call (t2) rfl ?_;simp(maxSteps:=3000000) (disch:=omega) only[go_sem];exact k) ?_;refine .e ?_;refine .us ?_;have gy:=zvy s2 d h6;have sy:=zv0 m3 d k h6 hk22 x;have hmx1:=hmx x;have gvv:=zv4 m3 d k h6 hk22;have hmxy:∀ y,(mbc (zaJ m3 d k x y)).length=408:=λy=>zu _ (by rw[zdR];exact hml3);(repeat refine .seq ?_);refine .drawt [] [] mix kr λK hK=> ?_;simp(maxSteps:=3000000) (disch:=omega) only[go_sem,g4,g5,s4,zgv,zgw,zab,zac,zcC,gy,sy,hmx1,za9];refine hK _ _ ?_;clear hK K;have vr1:=λK=>zde x (sYs s2 d+dy) K;have evr1:vrg x (sYs s2 d+dy)=win (sYs s2 d+dy) 63:=by unfold vrg;rw[hwx,Bool.true_and]
       rw[evr1]at vr1;generalize hyy:sYs s2 d+dy=y at *;refine .at [0,2,3,5,10,11] (F1:=[(0,.ptr i 0 0),(2,.ptr (H.length+4) 1 0),(3,.ptr (H.length+5) 1 0),(5,.ptr (H.length+6) 0 0),(10,.int .i64 (d:Int)),(11,.int .i64 (k:Int))]) (H1:=uG H i j v n a5 X (mW (zaJ m3 d k x y)) (sB s2) [⟨125,0,cxc c⟩]) ?_ rfl rfl;cases hwy:win y 63 with
       | false=>
        rw[hwy]at vr1 hres;rw[if_neg (by decide)]at hres;simp only[Rr.bind_er]at hres;(repeat refine .seq ?_);refine .rg rfl λK hK=> ?_;simp(maxSteps:=3000000) (disch:=omega) only[go_sem,g4,zab,zac,gvv,hmxy,qG];refine VCx.call (vr1 _) rfl ?_;simp(maxSteps:=3000000) (disch:=omega) only[go_sem];refine hK _ _ ?_;clear hK K;refine .t ?_;refine .e ?_;refine .ret ⟨_,rfl,zba hi hj hX ?_⟩;rw[<-hres];exact⟨rfl,a5,_,s2,hb2.2.2,by rw[zdR];exact hml3,rfl⟩
       | true=>have hyb:=zeX hwy;rw[hwy]at vr1 hres;rw[if_pos rfl,Rr.bind_ok,Rr.bind_ok]at hres;(repeat refine .seq ?_);refine .rg rfl λK hK=> ?_;simp(maxSteps:=3000000) (disch:=omega) only[go_sem,g4,zab,zac,gvv,hmxy,qG];refine VCx.call (vr1 _) rfl ?_;simp(maxSteps:=3000000) (disch:=omega) only[go_sem];refine hK _ _ ?_;clear hK K;refine .us ?_;have svv:=zvv s2 d h6;have l8:(stc s2).length=8:=rfl;(repeat refine .seq ?_);refine .drawt [] [] mix kr λK hK=> ?_;simp(maxSteps:=3000000) (disch:=omega) only[go_sem,g4,g5,s5,zgv,zgw,zqk,zab,zac,gvv,hmxy,svv,l8,zkP,qG];refine hK _ _ ?_;clear hK K;refine .e ?_;exact .at [0,2,3,5,10,11] (hnx2 (zaJ m3 d k x y) (zbr s2 d x y) a5 (hm3.trans (zhw m3 d k x y)) (zkt hs2 d om om) hb2.2.2 hres rfl) rfl rfl
end
end Sc
namespace Sc
open Pm Ty Go.RowKit
def zkz(q:List UInt8)(n:Nat)(m:Mb)(s:St)(k a:Nat):Rr (Mb×St):=(tkD q n (dcS s (k - 3)) 4095 a).bind λd a1=>(zcW q n 1 a1).bind λl a2=>.ok (zaK m k (l.set 0 d),zdi s (k - 3) d) a2
theorem zxi(s:St)(p:Nat)(h:p<3):(stc s)[1+p]? =some (.int .i64 (dcS s p)):=by have:p=0\/p=1\/p=2:=om;rcases this with rfl|rfl|rfl<;>rfl
theorem zvx(s:St)(p:Nat)(h:p<3)(x:Int):(stc s).set (1+p) (.int .i64 x)=stc (zdi s p x):=by have:p=0\/p=1\/p=2:=om;rcases this with rfl|rfl|rfl<;>rfl
section
variable (H:za) (i j v:Nat) (q:List UInt8) (n:Nat) (X:za) (K:za) (hi:i<H.length) (hB:H[j]? =some (rB q v)) (hne:i≠j) (hX:X.length=4) (hn:n<=8 * q.length) (hq:q.length<=100000000)
include hi hB hne hX hn hq
theorem zoY(m:Mb)(s:St)(k a:Nat)(hml:m.lv.length=384)(hs:dcR s)(ha:a<=n)(hk:k<6):CallEx qE 280 [.ptr i 0 0,.ptr (H.length+4) 1 0,.ptr (H.length+5) 1 0,.int .i64 (k:Int)] (uG H i j v n a X (mW m) (sB s) K)
  (λw H'=>match zkz q n m s k a with
   | .ok y a'=>w= .int .i64 0/\H'=uG H i j v n a' X (mW y.1) (sB y.2) K
   | .er e _=>w=ecd e/\∃ a m s,a<=n/\m.lv.length=384/\H'=uG H i j v n a X (mW m) (sB s) K):=by
 have hj:=(qD.1 hB).1;have g5:=λa B4 B5=>zpw H i j v n a X B4 B5 K hX;have g4:=λa B4 B5=>zpx H i j v n a X B4 B5 K hX;have s5:=λa B4 B5 B=>zix H i j v n a X B4 B5 K hX B;have s4:=λa B4 B5 B=>zkv H i j v n a X B4 B5 K hX B;have gi:=λa B4 B5=>zsQ H i j v n a X B4 B5 K hi;have gj:=λa B4 B5=>zsP H i j v n a X B4 B5 K hB hne;have si:=λa B4 B5 a'=>zku H i j v n a X B4 B5 K hi a';have hlm:=zu m hml;have hzl:z64.length=64:=by simp[z64]
 have po:=λK=>zqY k K hk;have lo:=λx K=>zgC x K;have hq3:k - 3<3:=om;have hsk:=hs (k - 3);have gd:=zxi s (k - 3) hq3;have sd:=zvx s (k - 3) hq3;have l8:(stc s).length=8:=rfl;have hsL:=λm l=>zmC m k l;have t1:=zdO i j v q n a _ (gi a (mW m) (sB s)) (gj _ _ _) hne ha hn hq;rw[si]at t1;generalize hres:zkz q n m s k a=res;unfold zkz tkD at hres;simp only[show((4095:Nat):Int)=4095 from rfl]at hres;refine CallEx.body (F0:=[(0,.ptr i 0 0),(1,.ptr (H.length+4) 1 0),(2,.ptr (H.length+5) 1 0),(3,.int .i64 (k:Int))]) Tryz.func280 rfl Tryz.ntmps280 Tryz.results280 rfl kr rfl ?_;refine .e ?_;cases h1:tkS q n a with
 | er e a1=>
  have he:=zeY h1;rw[h1]at t1 hres;simp only[rvS,Rr.at,Rr.bind_er]at t1 hres;have d0:((e:Int)+1 !=0)=true:=by simp;omega
  refine .f (λK k=>by simp(disch:=omega) only[go_sem];refine VCx.call (t1) rfl ?_;simp(disch:=omega) only[go_sem];exact k) ?_;refine .g d0 ?_;refine .t ?_;refine .e ?_;refine .ret ⟨_,rfl,.inl ?_⟩;rw[<-hres];exact⟨rfl,a1,m,s,om,hml,rfl⟩
 | ok dx a1=>
  have hb:=zcG h1 ha;rw[h1]at t1 hres;simp only[rvS,Rr.at]at t1;rw[Rr.bind_ok]at hres;refine .f (λK k=>by simp(disch:=omega) only[go_sem];refine VCx.call (t1) rfl ?_;simp(disch:=omega) only[go_sem];exact k) ?_;refine .e ?_;refine .us ?_;have po1:=λK=>po K;(repeat refine .seq ?_);refine .draw mix kr λK hK=> ?_;simp(disch:=omega) only[go_sem];refine VCy.call (po1 _) rfl ?_;simp(disch:=omega) only[go_sem,g5,zgv,zgw,gd];refine hK _ _ ?_;clear hK K;have lo1:=λK=>lo (dcS s (k - 3)+dx) K;generalize hxx:dcS s (k - 3)+dx=x at *;cases hwx:win x 4095 with
  | false=>
   rw[hwx]at lo1 hres;rw[if_neg (by decide)]at hres;simp only[Rr.bind_er]at hres;(repeat refine .seq ?_);refine .rg rfl λK hK=> ?_;simp(disch:=omega) only[go_sem];refine VCx.call (lo1 _) rfl ?_;simp(disch:=omega) only[go_sem];refine hK _ _ ?_;clear hK K;refine .t ?_;refine .e ?_;refine .ret ⟨_,rfl,.inl ?_⟩;rw[<-hres];exact⟨rfl,a1,m,s,hb.2.2,hml,rfl⟩
  | true=>
   have hxb:=zeX hwx;rw[hwx]at lo1 hres;rw[if_pos rfl,Rr.bind_ok]at hres;(repeat refine .seq ?_);refine .rg rfl λK hK=> ?_;simp(disch:=omega) only[go_sem];refine VCx.call (lo1 _) rfl ?_;simp(disch:=omega) only[go_sem];refine hK _ _ ?_;clear hK K;refine .us ?_;(repeat refine .seq ?_);refine .drawi [H.length+5] [(2,[0]),(32,[0]),(36,[0]),(37,[0]),(38,[0])] [] [34] mix kr (by simp<;>omega) λK hK=> ?_;refine sqz ?_;refine VCj.read (λ_ _=>po1 _) rfl ?_;simp(disch:=omega) only[go_sem,g5,s5,zgv,zgw,zqk,sd,l8,zkP];refine hK _ _ ?_;clear hK K;cases hbk:zcW q n 1 a1 with
   | er e a2=>
    have hbe:=zkC _ _ _ _ hbk hb.2.2;rw[hbk,Rr.bind_er]at hres;have hil:(is z64).length=64:=by rw[zj,hzl]
    have hic:=zt z64;have d9:=zT m k z64 hk hzl hml;have hlm9:=zu _ d9;have hs0:=zmD m k z64 x hk hzl hml;have d8:=zT m k (z64.set 0 x) hk (by rw[qB];exact hzl) hml;(repeat refine .seq ?_);refine .drawi [i,H.length+4] [(0,[0]),(1,[1]),(40,[1]),(42,[0]),(46,[1]),(47,[1]),(48,[1])] [] [] mix kr (by simp<;>omega) λK hK=> ?_;refine sqz ?_;refine VCj.wr1 (gi a1 (mW m) (sB (zdi s (k - 3) x))) (λL hL hG=>zgd i j v q n a1 1 L hL ((hG.out _ (by simp;omega)).trans (gj _ _ _)) hne hb.2.2 hn hq om) (by simp(disch:=omega) only[go_sem]) (.inl rfl) rfl ?_;rw[si,hbk];simp only[rvB,Rr.at];generalize hZ:is z64=Z at *;simp(disch:=omega) only[go_sem,g4,s4,zab,zac,zcC,hlm,hil,hic];refine hK _ _ ?_;clear hK K;rw[<-hZ];simp only[hsL,za9];refine .f (λK k=>by simp(disch:=omega) only[go_sem,g4,s4,zab,zac,zcC,hlm9,hs0,za9];exact k) ?_;refine .e ?_;refine .ret ⟨_,rfl,.inl ?_⟩;rw[<-hres];exact⟨rfl,a2,_,_,om,d8,rfl⟩
   | ok l a2=>
    have hbo:=ze0 _ _ _ _ hbk hb.2.2;have hll:l.length=64:=by rw[hbo.2.2,hzl]
    rw[hbk,Rr.bind_ok]at hres;have hil:(is l).length=64:=by rw[zj,hll]
    have hic:=zt l;have d9:=zT m k l hk hll hml;have hlm9:=zu _ d9;have hs0:=zmD m k l x hk hll hml;(repeat refine .seq ?_);refine .drawi [i,H.length+4] [(0,[0]),(1,[1]),(40,[1]),(42,[0]),(46,[1]),(47,[1]),(48,[1])] [] [] mix kr (by simp<;>omega) λK hK=> ?_;refine sqz ?_;refine VCj.wr1 (gi a1 (mW m) (sB (zdi s (k - 3) x))) (λL hL hG=>zgd i j v q n a1 1 L hL ((hG.out _ (by simp;omega)).trans (gj _ _ _)) hne hb.2.2 hn hq om) (by simp(disch:=omega) only[go_sem]) (.inl rfl) rfl ?_;rw[si,hbk];simp only[rvB,Rr.at];simp(disch:=omega) only[go_sem,g4,s4,zab,zac,zcC,hlm,hil,hic];refine hK _ _ ?_;clear hK K;simp only[hsL,za9];refine .f (λK k=>by simp(disch:=omega) only[go_sem,g4,s4,zab,zac,zcC,hlm9,hs0,za9];exact k) ?_;refine .e ?_;refine .ret ⟨_,rfl,.inl ?_⟩;rw[<-hres];exact⟨rfl,rfl⟩
end
end Sc
namespace Sc
open Pm Ty Go.RowKit
def alc(m:Mb):Mb:={ m with ca:=true,cb:=true,cc:=true,cd:=true,ce:=true,cf:=true }
def zhk(c:Cx)(q:List UInt8)(n:Nat)(m:Mb)(s:St)(a:Nat):Rr (Mb×St):=(zbC c q n true m s a).bind λz a3=>(zbz q n true z.1 a3).bind λm a4=>zaA q n 6 m z.2 a4
theorem zqf(m:Mb)(n:Nat)(b:Bool):(zca m n b).k=m.k:=by grind[zca]
theorem zv6(m:Mb):qF 18 (mbc m)++ .bool true:: .bool true:: .bool true:: .bool true:: .bool true:: .bool true::qI 24 (mbc m)=mbc (alc m):=rfl
theorem zv5(m:Mb)(k:Nat)(hk:k<6):(mbc m)[18+k]? =some (.bool (zN (cdl m) k)):=by have:k=0\/k=1\/k=2\/k=3\/k=4\/k=5:=om;rcases this with rfl|rfl|rfl|rfl|rfl|rfl<;>rfl
theorem zng(s:St):(stc s)[0]? =some (.int .i64 s.q):=rfl
theorem zvw(s:St)(x:Int):(stc s).set 0 (.int .i64 x)=stc { s with q:=x }:=rfl
theorem zvo{q:List UInt8}{n:Nat}{m:Mb}{s:St}{k a:Nat}{y:Mb×St}{a1:Nat}(h:zkz q n m s k a= .ok y a1)(ha:a<=n)(hml:m.lv.length=384)(hk:k<6)(hs:dcR s):a1<=n/\y.1.lv.length=384/\y.1.k=m.k/\dcR y.2:=by
 unfold zkz at h;cases h1:tkD q n (dcS s (k - 3)) 4095 a with
 | er e a2=>rw[h1]at h;cases h
 | ok d a2=>
  have b1:=zhi h1 ha;rw[h1,Rr.bind_ok]at h;cases h2:zcW q n 1 a2 with
  | er e a3=>rw[h2]at h;cases h
  | ok l a3=>have b2:=ze0 _ _ _ _ h2 b1.2.2;rw[h2,Rr.bind_ok]at h;injection h with e1 e2;subst e1 e2;exact⟨b2.2.1,zT m k _ hk (by rw[qB,b2.2.2];simp[z64]) hml,rfl,znZ hs (k - 3) om⟩
section
variable (H:za) (i j v:Nat) (q:List UInt8) (n:Nat) (X:za) (c:Cx) (hi:i<H.length) (hB:H[j]? =some (rB q v)) (hne:i≠j) (hX:X.length=4) (hn:n<=8 * q.length) (hq:q.length<=100000000)
include hi hB hne hX hn hq
theorem zso(m:Mb)(s:St)(a:Nat)(hml:m.lv.length=384)(hs:dcR s)(hsq:1<=s.q/\s.q<=31)(ha:a<=n)(hk:m.k=1\/m.k=2):CallEx qE 246 [.ptr i 0 0,.agg (cxc c),.ptr (H.length+4) 1 0,.ptr (H.length+5) 1 0] (uG H i j v n a X (mW m) (sB s) []) (zxs H i j v n X (zhk c q n (alc m) s a)):=by
 have hj:=(qD.1 hB).1;have g6:=λa B4 B5 K B=>zvh H i j v n a X B4 B5 K hX B;have g5:=λa B4 B5 K=>zpw H i j v n a X B4 B5 K hX;have g4:=λa B4 B5 K=>zpx H i j v n a X B4 B5 K hX;have s5:=λa B4 B5 K B=>zix H i j v n a X B4 B5 K hX B;have s4:=λa B4 B5 K B=>zkv H i j v n a X B4 B5 K hX B;have gi:=λa B4 B5 K=>zsQ H i j v n a X B4 B5 K hi;have gj:=λa B4 B5 K=>zsP H i j v n a X B4 B5 K hB hne;have si:=λa B4 B5 K a'=>zku H i j v n a X B4 B5 K hi a';have c1:=zd6 c;have l1:(cxc c).length=4:=rfl;have tk1:qF 4 (cxc c)=cxc c:=rfl;have hlen:=zdf H i j v n a X (mW m) (sB s) [] hX;have bo:=λK=>zg7 c K;have hzl:z64.length=64:=by simp[z64]
 generalize hres:zhk c q n (alc m) s a=res;unfold zhk zbC at hres;rw[if_pos rfl]at hres;refine CallEx.body (F0:=[(0,.ptr i 0 0),(1,.agg (cxc c)),(2,.ptr (H.length+4) 1 0),(3,.ptr (H.length+5) 1 0)]) Tryz.func246 rfl Tryz.ntmps246 Tryz.results246 rfl kr rfl ?_;refine .g c1 ?_;refine .at [0,2,3,5] (F1:=[(0,.ptr i 0 0),(2,.ptr (H.length+4) 1 0),(3,.ptr (H.length+5) 1 0),(5,.ptr (H.length+6) 0 0)]) (H1:=uG H i j v n a X (mW m) (sB s) [⟨125,0,cxc c⟩]) ?_ (by simp[kp,slot,Nat.beq,hlen]) (zhh _ _ _ _ _ _ _ _ _ _ _);refine .e ?_;clear hlen;suffices hrest:∀(m:Mb) (a:Nat),m.lv.length=384->(m.k=1\/m.k=2)->a<=n->(((tkS q n a).bind λd a2=>if vqB (s.q+d)then Rr.ok ({ alc m with dl:=d },{ s with q:=s.q+d }) a2 else .er 2 a2).bind λz a3=>(zbz q n true z.1 a3).bind λm a4=>zaA q n 6 m z.2 a4)=res->PW qE _ _ [(0,.ptr i 0 0),(2,.ptr (H.length+4) 1 0),(3,.ptr (H.length+5) 1 0),(5,.ptr (H.length+6) 0 0)] (uG H i j v n a X (mW m) (sB s) [⟨125,0,cxc c⟩]) _ by
  have hlm:=zu m hml;refine .m (nq2 g6 (nq2 tk1 l1)) bo ?_;cases hbv:bcx c with
  | false=>
   rw[hbv,if_neg (by decide),Rr.bind_ok]at hres;refine .us ?_;exact .at [0,2,3,5] (hrest m a hml hk ha hres) rfl rfl
  | true=>
   rw[hbv,if_pos rfl]at hres;have bt:=zkf i j v q n a _ (gi a (mW m) (sB s) [⟨125,0,cxc c⟩]) (gj _ _ _ _) hne ha hn hq;rw[si]at bt;refine .t ?_;cases hf:tkF q n a with
   | ok b a1=>
    obtain⟨rfl,h2,_⟩:=zdA hf;rw[hf,Rr.bind_ok,Rr.bind_ok]at hres;rw[hf]at bt;simp only[rvF,Rr.at]at bt;(repeat refine .seq ?_);refine .rg rfl λK hK=> ?_;simp(disch:=omega) only[go_sem];refine VCx.call (bt) rfl ?_;simp(disch:=omega) only[go_sem,g4,s4,zab,zac,zcC,hlm,zjP,za9];refine hK _ _ ?_;clear hK K;refine .e ?_;refine .us ?_;exact .at [0,2,3,5] (hrest { m with fd:=b } (a+1) hml hk om hres) rfl rfl
   | er e a1=>obtain⟨rfl,rfl,h2⟩:=zgi hf;rw[hf]at bt hres;simp only[Rr.bind_er]at hres;simp only[rvF,Rr.at]at bt;(repeat refine .seq ?_);refine .rg rfl λK hK=> ?_;simp(disch:=omega) only[go_sem];refine VCx.call (bt) rfl ?_;simp(disch:=omega) only[go_sem,g4,s4,zab,zac,zcC,hlm,zjP,za9];refine hK _ _ ?_;clear hK K;refine .e ?_;refine .t ?_;refine .e ?_;refine .ret ⟨_,rfl,zba hi hj hX ?_⟩;rw[<-hres];exact⟨rfl,a1,{ m with fd:=false },s,ha,hml,rfl⟩
 clear hres ha hml hk;intro m a hml hk ha hres;have hlm:=zu m hml;have t1:=zdO i j v q n a _ (gi a (mW m) (sB s) [⟨125,0,cxc c⟩]) (gj _ _ _ _) hne ha hn hq;rw[si]at t1;cases h1:tkS q n a with
 | er e a1=>
  have he:=zeY h1;rw[h1]at t1 hres;simp only[rvS,Rr.at,Rr.bind_er]at t1 hres;have d0:((e:Int)+1 !=0)=true:=by simp;omega
  (repeat refine .seq ?_);refine .rg rfl λK hK=> ?_;simp(disch:=omega) only[go_sem];refine VCx.call (t1) rfl ?_;simp(disch:=omega) only[go_sem,g4,s4,zab,zac,zcC,hlm,zjO,za9];refine hK _ _ ?_;clear hK K;refine .g d0 ?_;refine .t ?_;refine .e ?_;refine .ret ⟨_,rfl,zba hi hj hX ?_⟩;rw[<-hres];exact⟨rfl,a1,{ m with dl:=0 },s,om,hml,rfl⟩
 | ok d a1=>
  have hb:=zcG h1 ha;rw[h1]at t1 hres;simp only[rvS,Rr.at]at t1;rw[Rr.bind_ok]at hres;(repeat refine .seq ?_);refine .rg rfl λK hK=> ?_;simp(disch:=omega) only[go_sem];refine VCx.call (t1) rfl ?_;simp(disch:=omega) only[go_sem,g4,s4,zab,zac,zcC,hlm,zjO,za9];refine hK _ _ ?_;clear hK K;refine .e ?_;refine .us ?_;have l8:(stc s).length=8:=rfl;(repeat refine .seq ?_);refine .drawt [] [] mix kr λK hK=> ?_;simp(disch:=omega) only[go_sem,g4,g5,s5,zgv,zgw,zqk,zab,zac,zuO,zng,zvw,l8,zkP];refine hK _ _ ?_;clear hK K;refine .at [0,2,3,5] (F1:=[(0,.ptr i 0 0),(2,.ptr (H.length+4) 1 0),(3,.ptr (H.length+5) 1 0),(5,.ptr (H.length+6) 0 0)]) (H1:=uG H i j v n a1 X (mW { m with dl:=d }) (sB { s with q:=s.q+d }) [⟨125,0,cxc c⟩]) ?_ rfl rfl;cases hv:vqB (s.q+d)with
  | false=>
   rw[hv,if_neg (by decide),Rr.bind_er]at hres;suffices h59:PW qE _ _ [(0,.ptr i 0 0),(2,.ptr (H.length+4) 1 0),(3,.ptr (H.length+5) 1 0),(5,.ptr (H.length+6) 0 0),(59,.bool true)] (uG H i j v n a1 X (mW { m with dl:=d }) (sB { s with q:=s.q+d }) [⟨125,0,cxc c⟩]) _ by
    by_cases g1:s.q+d<1
    .have d1:decide (s.q+d<1)=true:=decide_eq_true g1;refine .f (λK k=>by simp(disch:=omega) only[go_sem,g5,zgv,zgw,zng,d1];exact k) ?_;exact .at [0,2,3,5,59] h59 rfl rfl
    .have d1:decide (s.q+d<1)=false:=decide_eq_false g1;have d2:decide (31<s.q+d)=true:=decide_eq_true (by
      unfold vqB at hv;simp at hv;omega)
     refine .f (λK k=>by simp(disch:=omega) only[go_sem,g5,zgv,zgw,zng,d1,d2];exact k) ?_;exact .at [0,2,3,5,59] h59 rfl rfl
   refine .t ?_;refine .e ?_;refine .ret ⟨_,rfl,zba hi hj hX ?_⟩;rw[<-hres];exact⟨rfl,a1,{ m with dl:=d },_,hb.2.2,hml,rfl⟩
  | true=>
   rw[hv,if_pos rfl,Rr.bind_ok]at hres;have hqb:1<=s.q+d/\s.q+d<=31:=by simp_all[vqB]
   have d1:decide (s.q+d<1)=false:=decide_eq_false om;have d2:decide (31<s.q+d)=false:=decide_eq_false om;refine .f (λK k=>by simp(disch:=omega) only[go_sem,g5,zgv,zgw,zng,d1,d2];exact k) ?_;refine .us ?_;have hlm1:=zu { m with dl:=d } hml;refine .f (λK k=>by simp(disch:=omega) only[go_sem,g4,s4,zab,zac,zcC,hlm1,zv6,za9,qG];exact k) ?_;have hdc:dcR { s with q:=s.q+d }:=λk=>hs k;generalize hs2e:({ s with q:=s.q+d }:St)=s2 at *;have hM:({ alc m with dl:=d }:Mb)=alc { m with dl:=d }:=rfl;rw[hM]at hres;have hMl:(alc { m with dl:=d }).lv.length=384:=hml;have hMk:(alc { m with dl:=d }).k=1\/(alc { m with dl:=d }).k=2:=hk;generalize alc { m with dl:=d }=m9 at *;refine .at [0,2,3] (F1:=[(0,.ptr i 0 0),(2,.ptr (H.length+4) 1 0),(3,.ptr (H.length+5) 1 0)]) (H1:=uG H i j v n a1 X (mW m9) (sB s2) [⟨125,0,cxc c⟩]) ?_ rfl rfl;suffices hlv:∀(m:Mb) (a:Nat),m.lv.length=384->(m.k=1\/m.k=2)->a<=n->zaA q n 6 m s2 a=res->PW qE _ _ [(0,.ptr i 0 0),(2,.ptr (H.length+4) 1 0),(3,.ptr (H.length+5) 1 0)] (uG H i j v n a X (mW m) (sB s2) [⟨125,0,cxc c⟩]) _ by
    rcases hMk with e1|e2
    .have dk:(m9.k==2)=false:=by rw[e1];rfl
     unfold zbz at hres;rw[decide_eq_false (show ¬ m9.k=2 from om),Bool.false_and,if_neg (by decide),Rr.bind_ok]at hres;refine .f (λK k=>by simp(disch:=omega) only[go_sem,g4,zab,zac,zdH,dk];exact k) ?_;refine .us ?_;exact .at [0,2,3] (hlv m9 a1 hMl (.inl e1) hb.2.2 hres) rfl rfl
    .have dk:(m9.k==2)=true:=by rw[e2];rfl
     unfold zbz at hres;rw[decide_eq_true e2,Bool.true_and,if_pos rfl]at hres;refine .f (λK k=>by simp(disch:=omega) only[go_sem,g4,zab,zac,zdH,dk];exact k) ?_;refine .t ?_;refine .e ?_;refine .l ?_;suffices hl1:∀(k:Nat) (m1:Mb) (a1:Nat),k<=6->m1.lv.length=384->m1.k=2->a1<=n->((zcV q n (6 - k) m1 a1).bind λm a4=>zaA q n 6 m s2 a4)=res->PL qE _ _ [(0,.ptr i 0 0),(2,.ptr (H.length+4) 1 0),(3,.ptr (H.length+5) 1 0),(10,.int .i64 (k:Int))] (uG H i j v n a1 X (mW m1) (sB s2) [⟨125,0,cxc c⟩]) _ by exact .at [0,2,3,10] (hl1 0 m9 a1 om hMl e2 hb.2.2 hres) rfl rfl
     clear hres hMl e2 dk t1 h1 hb;intro k m1 a1 hk6 hml1 hk1 ha1 hres;induction hdd:6 - k using qL generalizing k m1 a1 with
     | _ dd ih=>
      refine .round ?_;refine .e ?_;have hlm1:=zu m1 hml1;refine .c (λh=> ?_) (λh=> ?_);rotate_left
      .have h6:k=6:=ofF h;subst h6;refine .exit ?_;have co:=λK=>zn1 m1 K hml1;have ehl:hlM m1=zgA m1:=by unfold hlM;rw[decide_eq_false om,Bool.false_or]
       have tkm:qF 408 (mbc m1)=mbc m1:=qK om;rw[ehl]at co;simp only[qM,zcV]at hres;cases hac:zgA m1 with
       | true=>
        rw[hac]at co hres;rw[if_pos rfl,Rr.bind_ok]at hres;(repeat refine .seq ?_);refine .rg rfl λK hK=> ?_;simp(disch:=omega) only[go_sem,g4,zab,zac,hlm1,tkm];refine VCx.call (co _) rfl ?_;simp(disch:=omega) only[go_sem];refine hK _ _ ?_;clear hK K;refine .us ?_;exact .at [0,2,3] (hlv m1 a1 hml1 (.inr hk1) ha1 hres) rfl rfl
       | false=>rw[hac]at co hres;rw[if_neg (by decide),Rr.bind_er]at hres;(repeat refine .seq ?_);refine .rg rfl λK hK=> ?_;simp(disch:=omega) only[go_sem,g4,zab,zac,hlm1,tkm];refine VCx.call (co _) rfl ?_;simp(disch:=omega) only[go_sem];refine hK _ _ ?_;clear hK K;refine .t ?_;refine .e ?_;refine .ret ⟨_,rfl,zba hi hj hX ?_⟩;rw[<-hres];exact⟨rfl,a1,m1,s2,ha1,hml1,rfl⟩
      have h6:k<6:=ot h;obtain⟨n',hn'⟩:∃ n',6 - k=n'+1:=⟨5 - k,om⟩;have hkn:5 - n'=k:=om;rw[hn',zcV,hkn,Rr.bind_bind]at hres;have hnx:=λm1 a1=>ih (6 - (k+1)) om (k+1) m1 a1 om;rw[show 6 - (k+1)=n' from om]at hnx;have hst:=λb=>zrj m1 k b h6;refine .skip ?_;refine .b ?_;(repeat refine .seq ?_);refine .drawi [i,H.length+4] [(0,[0]),(2,[1]),(74,[1]),(76,[0]),(80,[1]),(81,[1]),(82,[1])] [] [] mix kr (by simp<;>omega) λK hK=> ?_;refine sqz ?_;refine VCj.wr1 (gi a1 (mW m1) (sB s2) [⟨125,0,cxc c⟩]) (λL hL hG=>zkf i j v q n a1 L hL ((hG.out _ (by simp;omega)).trans (gj _ _ _ _)) hne ha1 hn hq) (by simp(disch:=omega) only[go_sem]) (.inl rfl) rfl ?_;rw[si];cases hf:tkF q n a1 with
      | ok b a2=>
       obtain⟨rfl,h2,_⟩:=zdA hf;rw[hf,Rr.bind_ok]at hres;simp only[rvF,Rr.at];simp(disch:=omega) only[go_sem,g4,s4,zab,zac,zcC,hlm1,hst,za9];refine hK _ _ ?_;clear hK K;refine .e ?_;refine .us ?_;refine .e ?_;exact .at [0,2,3,10] (hnx (zca m1 k b) (a1+1) (by rw[zdT];exact hml1) (by rw[zqf];exact hk1) om hres rfl) rfl rfl
      | er e a2=>obtain⟨rfl,rfl,h2⟩:=zgi hf;rw[hf,Rr.bind_er]at hres;simp only[rvF,Rr.at];simp(disch:=omega) only[go_sem,g4,s4,zab,zac,zcC,hlm1,hst,za9];refine hK _ _ ?_;clear hK K;refine .e ?_;refine .t ?_;refine .e ?_;refine .ret ⟨_,rfl,zba hi hj hX ?_⟩;rw[<-hres];exact⟨rfl,a2,zca m1 k false,s2,ha1,by rw[zdT];exact hml1,rfl⟩
   clear hres hMl hMk t1 h1 hlm1;intro m a hml hk ha hres;refine .e ?_;refine .l ?_;suffices hl1:∀(k:Nat) (m1:Mb) (s1:St) (a1:Nat),k<=6->m1.lv.length=384->dcR s1->(m1.k=1\/m1.k=2)->a1<=n->zaA q n (6 - k) m1 s1 a1=res->PL qE _ _ [(0,.ptr i 0 0),(2,.ptr (H.length+4) 1 0),(3,.ptr (H.length+5) 1 0),(11,.int .i64 (k:Int))] (uG H i j v n a1 X (mW m1) (sB s1) [⟨125,0,cxc c⟩]) _ by exact .at [0,2,3,11] (hl1 0 m s2 a om hml hdc hk ha hres) rfl rfl
   clear hres ha hml hk hdc;intro k m1 s1 a1 hk6 hml hs1 hk ha hres;induction hdd:6 - k using qL generalizing k m1 s1 a1 with
   | _ dd ih=>
    refine .round ?_;refine .e ?_;have hlm1:=zu m1 hml;refine .c (λh=> ?_) (λh=> ?_);rotate_left
    .have h6:k=6:=by grind
     subst h6;refine .exit ?_;simp only[qM,zaA]at hres;refine .e ?_;refine .ret ⟨_,rfl,zba hi hj hX ?_⟩;rw[<-hres];exact⟨rfl,rfl⟩
    have h6:k<6:=by grind
    obtain⟨n',hn'⟩:∃ n',6 - k=n'+1:=⟨5 - k,om⟩;have hkn:5 - n'=k:=om;rw[hn',zaA,hkn]at hres;have hnx:=λm1 s1 a1=>ih (6 - (k+1)) om (k+1) m1 s1 a1 om;rw[show 6 - (k+1)=n' from om]at hnx;clear ih;have hgx:=zv5 m1 k h6;refine .skip ?_;refine .b ?_;refine .f (λK k=>by simp(disch:=omega) only[go_sem,g4,zab,zac,hgx];exact k) ?_;generalize zN (cdl m1) k=fg at *;cases fg with
    | false=>
     rw[if_neg (by decide)]at hres;refine .t ?_;refine .exit ?_;refine .e ?_;exact .at [0,2,3,11] (hnx m1 s1 a1 hml hs1 hk ha hres rfl) rfl rfl
    | true=>
     rw[if_pos rfl]at hres;refine .us ?_;have hsL:=λm l=>zmC m k l;by_cases hk2:m1.k=2
     .rw[if_pos hk2]at hres;have d1:(m1.k==2)=true:=by simp[hk2]
      refine .f (λK k=>by simp(disch:=omega) only[go_sem,g4,zab,zac,zdH,d1];exact k) ?_;refine .t ?_;(repeat refine .seq ?_);refine .drawi [i,H.length+4] [(0,[0]),(2,[1]),(108,[1]),(110,[0]),(114,[1]),(115,[1]),(116,[1])] [] [] mix kr (by simp<;>omega) λK hK=> ?_;refine sqz ?_;refine VCj.wr1 (gi a1 (mW m1) (sB s1) [⟨125,0,cxc c⟩]) (λL hL hG=>zgd i j v q n a1 0 L hL ((hG.out _ (by simp;omega)).trans (gj _ _ _ _)) hne ha hn hq om) (by simp(disch:=omega) only[go_sem]) (.inl rfl) rfl ?_;rw[si];cases hbk:zcW q n 0 a1 with
      | er e a2=>
       have hbe:=zkC _ _ _ _ hbk ha;rw[hbk,Rr.bind_er]at hres;simp only[rvB,Rr.at];have hil:(is z64).length=64:=by rfl
       have hic:=zt z64;have d9:=zT m1 k z64 h6 hzl hml;have d0:((e:Int)+1==0)=false:=by simp;omega
       have d7:((e:Int)+1 !=0)=true:=by simp;omega
       generalize hZ:is z64=Z at *;simp(disch:=omega) only[go_sem,g4,s4,zab,zac,zcC,hlm1,hil,hic];refine hK _ _ ?_;clear hK K;rw[<-hZ];simp only[hsL,za9];refine .g d0 ?_;refine .us ?_;refine .g d7 ?_;refine .t ?_;refine .e ?_;refine .ret ⟨_,rfl,zba hi hj hX ?_⟩;rw[<-hres];exact⟨rfl,a2,zaK m1 k z64,s1,om,d9,rfl⟩
      | ok l a2=>
       have hbo:=ze0 _ _ _ _ hbk ha;have hll:l.length=64:=om;rw[hbk,Rr.bind_ok]at hres;simp only[rvB,Rr.at];have hil:(is l).length=64:=by rw[zj,hll]
       have hic:=zt l;have d9:=zT m1 k l h6 hll hml;have hlm9:=zu _ d9;have hgl:=zrk m1 k l h6 hll hml;have ez:=zuJ l hll;simp(disch:=omega) only[go_sem,g4,s4,zab,zac,zcC,hlm1,hil,hic];refine hK _ _ ?_;clear hK K;simp only[hsL,za9];by_cases hz:l=z64
       .rw[if_pos hz]at hres;rw[decide_eq_true hz]at ez;refine .f (λK k=>by simp(disch:=omega) only[go_sem,g4,zab,zac,hlm9,hgl,hil,ez];exact k) ?_;refine .t ?_;refine .e ?_;refine .e ?_;refine .t ?_;refine .e ?_;refine .ret ⟨_,rfl,zba hi hj hX ?_⟩;rw[<-hres];exact⟨rfl,a2,zaK m1 k l,s1,hbo.2.1,d9,rfl⟩
       .rw[if_neg hz]at hres;rw[decide_eq_false hz]at ez;refine .f (λK k=>by simp(disch:=omega) only[go_sem,g4,zab,zac,hlm9,hgl,hil,ez];exact k) ?_;refine .us ?_;refine .e ?_;refine .us ?_;refine .e ?_;exact .at [0,2,3,11] (hnx (zaK m1 k l) s1 a2 d9 hs1 hk hbo.2.1 hres rfl) rfl rfl
     .rw[if_neg hk2]at hres;have d1:(m1.k==2)=false:=by simp[hk2]
      have hin:((zkz q n m1 s1 k a1).bind λy a=>zaA q n n' y.1 y.2 a)=res:=by rw[<-hres];unfold zkz;rw[Rr.bind_bind];congr 1;funext d a;rw[Rr.bind_bind];rfl
      have ir:=zoY H i j v q n X [⟨125,0,cxc c⟩] hi hB hne hX hn hq m1 s1 k a1 hml hs1 ha h6;refine .f (λK k=>by simp(disch:=omega) only[go_sem,g4,zab,zac,zdH,d1];exact k) ?_;refine .u ?_;(repeat refine .seq ?_);refine .rg rfl λK hK=> ?_;simp(disch:=omega) only[go_sem];refine VCx.callR ir rfl λw H' hR=> ?_;cases hti:zkz q n m1 s1 k a1 with
      | er e a2=>
       rw[hti]at hR hin;obtain⟨rfl,a4,m4,s4',h1,h2,rfl⟩:=hR;rw[Rr.bind_er]at hin;have d7:((e:Int)+1 !=0)=true:=by simp;omega
       simp(disch:=omega) only[go_sem,ecd];refine hK _ _ ?_;clear hK K;refine .g d7 ?_;refine .t ?_;refine .e ?_;refine .ret ⟨_,rfl,zba hi hj hX ?_⟩;rw[<-hin];exact⟨rfl,a4,m4,s4',h1,h2,rfl⟩
      | ok y a2=>obtain⟨b1,b2,b3,b4⟩:=zvo hti ha hml h6 hs1;rw[hti]at hR hin;obtain⟨rfl,rfl⟩:=hR;rw[Rr.bind_ok]at hin;simp(disch:=omega) only[go_sem];refine hK _ _ ?_;clear hK K;refine .e ?_;refine .us ?_;refine .e ?_;exact .at [0,2,3,11] (hnx y.1 y.2 a2 b2 b4 (by rw[b3];exact hk) b1 hin rfl) rfl rfl
end
end Sc
namespace Sc
open Pm Ty Go.RowKit
def zdM(k:Int)(x:Rr (Mb×St)):Rr (Mb×St):=x.bind λy a=>.ok (y.1,aft y.2 k) a
theorem zsB(s:St)(d:Nat):sXs (aft s 2) d=sXs s d:=by unfold sXs aft;simp
theorem zsA(s:St)(d:Nat):sYs (aft s 2) d=sYs s d:=by unfold sYs aft;simp
theorem zsz(s:St)(d:Nat)(x y:Int):zbr (aft s 2) d x y=aft (zbr s d x y) 2:=by unfold zbr;split<;>rfl
theorem zpH(c:Cx)(q:List UInt8)(n:Nat)(m:Mb)(s:St)(d k a:Nat):zcO c q n m (aft s 2) d k a=zdM 2 (zcO c q n m s d k a):=by unfold zcO zdM;rw[zsB,zsA];simp only[Rr.bind_bind,Rr.bind_ok,zsz]
theorem zky(c:Cx)(q:List UInt8)(n d:Nat):∀(r k:Nat) (m:Mb) (s:St) (a:Nat),zaY c q n d r k m (aft s 2) a=zdM 2 (zaY c q n d r k m s a)
 | 0,k,m,s,a=>rfl
 | r+1,k,m,s,a=>by simp only[zaY,zpH,zdM,Rr.bind_bind,Rr.bind_ok];congr 1;funext x a1;exact zky c q n d r (k+1) x.1 x.2 a1
theorem zkA(c:Cx)(q:List UInt8)(n:Nat):∀(r d:Nat) (m:Mb) (s:St) (a:Nat),zbq c q n r d m (aft s 2) a=zdM 2 (zbq c q n r d m s a)
 | 0,d,m,s,a=>rfl
 | r+1,d,m,s,a=>by
  have h1:zdI c q n m (aft s 2) d a=zdM 2 (zdI c q n m s d a):=by
   unfold zdI;split
   .exact zky c q n d _ 0 m s a
   .rfl
  simp only[zbq,h1,zdM,Rr.bind_bind,Rr.bind_ok];congr 1;funext x a1;exact zkA c q n r (d+1) x.1 x.2 a1
theorem zpI(c:Cx)(q:List UInt8)(n:Nat)(m:Mb)(s:St)(a:Nat):zbp c q n m (aft s m.k) a=zdM m.k (zbp c q n m s a):=by
 unfold zbp;split
 .rename_i h;rw[h];simp only[zdM,Rr.bind_bind];congr 1;funext x a1;exact zkA c q n 2 0 x s a1
 .rfl
theorem zkB(c:Cx)(q:List UInt8)(n:Nat)(hl:Bool)(m:Mb)(s:St)(k:Int)(a:Nat):zbC c q n hl m (aft s k) a=zdM k (zbC c q n hl m s a):=by
 unfold zbC;split
 .simp only[zdM,Rr.bind_bind];congr 1;funext x a1;congr 1;funext d a2;show(if vqB (s.q+d)=true then _ else _)=_;split<;>rfl
 .rfl
theorem zwL(s:St)(p:Nat):dcS (aft s 1) p=dcS s p:=by unfold dcS aft;simp
theorem zsC(s:St)(p:Nat)(x:Int):zdi (aft s 1) p x=aft (zdi s p x) 1:=by unfold zdi;split<;>(try split)<;>rfl
theorem zeZ(q:List UInt8)(n:Nat):∀(r:Nat) (m:Mb) (s:St) (k:Int) (a:Nat),(m.k=2\/k=1)->zaA q n r m (aft s k) a=zdM k (zaA q n r m s a)
 | 0,m,s,k,a,_=>rfl
 | r+1,m,s,k,a,h=>by
  simp only[zaA];split
  .split
   .simp only[zdM,Rr.bind_bind];congr 1;funext l a1;split
    .rfl
    .exact zeZ q n r _ s k a1 (by rename_i h2 _;exact .inl h2)
   .rename_i h2;rcases h with h|rfl
    .exact absurd h h2
    rw[zwL];simp only[zdM,Rr.bind_bind];congr 1;funext d a1;congr 1;funext l a2;rw[zsC];exact zeZ q n r _ _ 1 a2 (.inr rfl)
  .exact zeZ q n r m s k a h
theorem zou(m:Mb)(d k:Nat)(x:Int):cdl (zdS m d k x)=cdl m:=by unfold zdS;split<;>split<;>rfl
theorem zot(m:Mb)(d k:Nat)(x y:Int):cdl (zaJ m d k x y)=cdl m:=by unfold zaJ;split<;>split<;>rfl
theorem Rr.bind_eq{α β:Type}{x:Rr α}{f:α->Nat->Rr β}{y:β}{a:Nat}(h:x.bind f= .ok y a):∃ v a1,x= .ok v a1/\f v a1= .ok y a:=by
 cases x with
 | ok v a1=>exact⟨v,a1,rfl,h⟩
 | er e a1=>cases h
theorem zvl{c:Cx}{q:List UInt8}{n:Nat}{m:Mb}{s:St}{d k a:Nat}{y:Mb×St}{a1:Nat}(h:zcO c q n m s d k a= .ok y a1):cdl y.1=cdl m:=by
 unfold zcO at h;obtain⟨m',a2,h1,h⟩:=Rr.bind_eq h;obtain⟨x,a3,_,h⟩:=Rr.bind_eq h;obtain⟨z,a4,_,h⟩:=Rr.bind_eq h;injection h with e1 _;subst e1;rw[zot];split at h1
 .obtain⟨b,a5,_,h1⟩:=Rr.bind_eq h1;injection h1 with e1 _;subst e1;rw[zou]
 .injection h1 with e1 _;rw[e1]
theorem zpE{c:Cx}{q:List UInt8}{n d:Nat}:∀(r k:Nat) (m:Mb) (s:St) (a:Nat) {y:Mb×St} {a1:Nat},zaY c q n d r k m s a= .ok y a1->cdl y.1=cdl m
 | 0,k,m,s,a,y,a1,h=>by
  simp only[zaY]at h;injection h with e1 _;rw[<-e1]
 | r+1,k,m,s,a,y,a1,h=>by simp only[zaY]at h;obtain⟨x,a2,h1,h⟩:=Rr.bind_eq h;rw[zpE r (k+1) x.1 x.2 a2 h,zvl h1]
theorem zpK{c:Cx}{q:List UInt8}{n:Nat}:∀(r d:Nat) (m:Mb) (s:St) (a:Nat) {y:Mb×St} {a1:Nat},zbq c q n r d m s a= .ok y a1->cdl y.1=cdl m
 | 0,d,m,s,a,y,a1,h=>by
  simp only[zbq]at h;injection h with e1 _;rw[<-e1]
 | r+1,d,m,s,a,y,a1,h=>by
  simp only[zbq]at h;obtain⟨x,a2,h1,h⟩:=Rr.bind_eq h;rw[zpK r (d+1) x.1 x.2 a2 h];unfold zdI at h1;split at h1
  .exact zpE _ _ _ _ _ h1
  .injection h1 with e1 _;rw[<-e1]
theorem zvn{c:Cx}{q:List UInt8}{n:Nat}{m:Mb}{s:St}{a:Nat}{y:Mb×St}{a1:Nat}(h:zbp c q n m s a= .ok y a1):cdl y.1=cdl m:=by
 unfold zbp at h;split at h
 .obtain⟨m',a2,h1,h⟩:=Rr.bind_eq h;rw[zpK _ _ _ _ _ h];split at h1
  .obtain⟨b,a5,_,h1⟩:=Rr.bind_eq h1;injection h1 with e1 _;rw[<-e1];rfl
  .injection h1 with e1 _;rw[e1]
 .injection h with e1 _;rw[<-e1]
theorem ziy{q:List UInt8}{n:Nat}{m:Mb}(hm:cdl m=[false,false,false,false,false,false])(s:St)(a:Nat):zaA q n 6 m s a= .ok (m,s) a:=by simp only[zaA,hm];rfl
theorem zpN(c:Cx)(q:List UInt8)(n:Nat)(m:Mb)(s:St)(a:Nat):zbC c q n true (alc m) s a=(zbC c q n true m s a).bind λz a=>.ok (alc z.1,z.2) a:=by
 unfold zbC;rw[if_pos rfl,if_pos rfl];cases hb:bcx c with
 | false=>
  rw[if_neg (by decide),if_neg (by decide),Rr.bind_ok,Rr.bind_ok,Rr.bind_bind];congr 1;funext d a2;split<;>rfl
 | true=>rw[if_pos rfl,if_pos rfl];simp only[Rr.bind_bind,Rr.bind_ok];congr 1;funext b a1;congr 1;funext d a2;split<;>rfl
theorem zpP(q:List UInt8)(n:Nat)(m:Mb)(a:Nat):zcV q n 6 (alc m) a=zcV q n 6 m a:=by simp only[zcV];congr 1
def zvK(c:Cx)(q:List UInt8)(n:Nat)(m:Mb)(hl:Bool)(s:St)(a:Nat):Rr (Mb×St):=(zbp c q n (zdN m) (aft s m.k) a).bind λy a2=>if hl then zhk c q n (alc y.1) y.2 a2 else .ok y a2
theorem znb{c:Cx}{q:List UInt8}{n a:Nat}{m:Mb}{hl:Bool}{a1:Nat}(h:zbW c q n a= .ok (m,hl) a1):(m=inMb/\hl=true)\/(m=zMb/\hl=false)\/∃ v,m=zoN v:=by
 unfold zbW at h;split at h
 .injection h with e _;injection e with e1 e2;exact .inl ⟨e1.symm,e2.symm⟩
 .obtain⟨v,a2,_,h⟩:=Rr.bind_eq h;generalize (if c.t=2 then 3 else 7:Nat)=last at h;split at h
  .cases h
  .split at h
   .injection h with e _;injection e with e1 e2;exact .inl ⟨e1.symm,e2.symm⟩
   .split at h
    .injection h with e _;injection e with e1 e2;exact .inr (.inl ⟨e1.symm,e2.symm⟩)
    .injection h with e _;injection e with e1 e2;exact .inr (.inr ⟨v,e1.symm⟩)
theorem zlY{c:Cx}{q:List UInt8}{n:Nat}{hl:Bool}{m:Mb}{s:St}{a:Nat}{y:Mb×St}{a1:Nat}(h:zbC c q n hl m s a= .ok y a1):y.1.k=m.k:=by
 unfold zbC at h;split at h
 .obtain⟨m',a2,h1,h⟩:=Rr.bind_eq h;obtain⟨d,a3,_,h⟩:=Rr.bind_eq h;split at h
  .injection h with e _;rw[<-e];show m'.k=m.k;split at h1
   .obtain⟨b,a4,_,h1⟩:=Rr.bind_eq h1;injection h1 with e1 _;rw[<-e1]
   .injection h1 with e1 _;rw[e1]
  .cases h
 .injection h with e _;rw[<-e]
theorem zn5(c:Cx)(q:List UInt8)(n:Nat)(m:Mb)(s:St)(a:Nat)(hk:m.k=1\/m.k=2)(hc:m.k=1->alc m=m)(ha:a<=n)(hml:m.lv.length=384):
  zhk c q n (alc m) (aft s m.k) a=(zbC c q n true m s a).bind λz a3=>(zbz q n true z.1 a3).bind λm a4=>(zaA q n 6 m z.2 a4).bind λw a5=>.ok (w.1,aft w.2 w.1.k) a5:=by
 have key:∀(z:Mb×St) (a2:Nat),z.1.lv.length=384->z.1.k=m.k->a2<=n->((zbz q n true z.1 a2).bind λm' a4=>zaA q n 6 m' (aft z.2 m.k) a4)=(zbz q n true z.1 a2).bind λm' a4=>(zaA q n 6 m' z.2 a4).bind λw a5=>.ok (w.1,aft w.2 w.1.k) a5:=by
  intro z a2 hzl hzk hz;cases h2:zbz q n true z.1 a2 with
  | er e a3=>rfl
  | ok m4 a3=>
   obtain⟨c1,c2,c3⟩:=zji h2 hz;rw[Rr.bind_ok,Rr.bind_ok,zeZ q n 6 m4 z.2 m.k a3 om,zdM];cases h3:zaA q n 6 m4 z.2 a3 with
   | er e a4=>rfl
   | ok w a4=>have:=(zeH 6 m4 z.2 a3 h3 c1 om (by rw[c2];exact hzl)).2.2;rw[Rr.bind_ok,Rr.bind_ok,this,c3,hzk]
 rcases hk with e|e
 .rw[hc e];unfold zhk;rw[zkB,zdM,Rr.bind_bind];cases h1:zbC c q n true m s a with
  | er e a2=>rfl
  | ok z a2=>obtain⟨b1,b2,_⟩:=zhj h1 ha;simp only[Rr.bind_ok];exact key z a2 (by rw[b2];exact hml) (zlY h1) b1
 .unfold zhk;rw[zpN,zkB,zdM,Rr.bind_bind,Rr.bind_bind];cases h1:zbC c q n true m s a with
  | er e a2=>rfl
  | ok z a2=>
   obtain⟨b1,b2,_⟩:=zhj h1 ha;simp only[Rr.bind_ok];have e2:z.1.k=2:=by rw[zlY h1,e]
   have hco:zbz q n true (alc z.1) a2=zbz q n true z.1 a2:=by unfold zbz;rw[show(alc z.1).k=2 from e2,e2,zpP];rfl
   rw[hco];exact key z a2 (by rw[b2];exact hml) (zlY h1) b1
theorem zvJ{c:Cx}{q:List UInt8}{n a a1:Nat}{m:Mb}{hl:Bool}{s:St}(h:zbW c q n a= .ok (m,hl) a1)(ha:a<=n)(hs:vrS s):zvK c q n m hl s a1=zjf c q n hl m s a1:=by
 obtain⟨ha1,hlv⟩:=zjh h ha;have hml:m.lv.length=384:=by rw[show m.lv=zl384 from hlv];exact zV
 unfold zvK zjf;rcases znb h with⟨rfl,rfl⟩|⟨rfl,rfl⟩|⟨v,rfl⟩
 .have e1:zbp c q n (zdN inMb) (aft s inMb.k) a1= .ok (zdN inMb,aft s inMb.k) a1:=rfl;have e2:zbp c q n inMb s a1= .ok (inMb,s) a1:=rfl;rw[e1,e2,Rr.bind_ok,Rr.bind_ok,if_pos rfl];exact zn5 c q n inMb s a1 (.inl rfl) (λ_=>rfl) ha1 hml
 .have e1:zbp c q n (zdN zMb) (aft s zMb.k) a1= .ok (zdN zMb,aft s zMb.k) a1:=rfl;have e2:zbp c q n zMb s a1= .ok (zMb,s) a1:=rfl;have e3:zbC c q n false zMb s a1= .ok (zMb,s) a1:=rfl;have e4:zbz q n false zMb a1= .ok zMb a1:=rfl;rw[e1,e2,Rr.bind_ok,Rr.bind_ok,if_neg (by decide),e3,Rr.bind_ok,e4,Rr.bind_ok,ziy rfl,Rr.bind_ok];rfl
 .rw[show zdN (zoN v)=zoN v from rfl,zpI,zdM,Rr.bind_bind];cases hp:zbp c q n (zoN v) s a1 with
  | er e a2=>rfl
  | ok y a2=>
   obtain⟨b1,b2,b3,_⟩:=zjg hp ha1 hs;have hcd:=zvn hp;simp only[Rr.bind_ok];rw[<-b3];cases hl with
   | true=>
    rw[if_pos rfl];exact zn5 c q n y.1 y.2 a2 (.inr b3) (λe=>by rw[b3]at e;cases e) b1 (by rw[b2];exact hml)
   | false=>
    have e3:zbC c q n false y.1 y.2 a2= .ok y a2:=rfl;have e4:zbz q n false y.1 a2= .ok y.1 a2:=by unfold zbz;rw[Bool.and_false,if_neg (by decide)]
    rw[if_neg (by decide),e3,Rr.bind_ok,e4,Rr.bind_ok,ziy hcd,Rr.bind_ok]
def zxB(H:za)(i j v n:Nat)(x:Rr (Mb×St)):PV->za->Prop:=λw H'=>w=rvM x/\
 match x with
 | .ok _ a=>H'=H.set i (rR j v n a)
 | .er _ _=>∃ a,a<=n/\H'=H.set i (rR j v n a)
theorem zje(H:za)(i j v n a:Nat)(K:za)(x:Rr (Mb×St))(hj:j<H.length)(hx:match x with| .ok _ a'=>a=a'| .er _ _=>a<=n):zm1 H (zxB H i j v n x) (rvM x) (H.set i (rR j v n a)++K):=
 .inr (.inr λhs=>⟨rvM x,H.set i (rR j v n a),by
  cases x with
  | ok y a'=>exact⟨rfl,by rw[show a=a' from hx]⟩
  | er e a'=>exact⟨rfl,a,hx,rfl⟩,by simp,CutH.base (zmK _ _ _ _ _ _ hj hs),.id (zqn _ _)⟩)
theorem zm6(H:za)(i j v n a:Nat)(X:za)(B4 B5:Blk)(K:za)(k:Nat)(hX:X.length=4)(hk:k<4):(uG H i j v n a X B4 B5 K)[H.length+k]? =X[k]? :=by simp_all[uG,qA,qB,qJ]
theorem zuu(H:za)(i j v n a:Nat)(X:za)(B4 B5:Blk)(K:za)(B:Blk)(k:Nat)(hX:X.length=4)(hk:k<4):(uG H i j v n a X B4 B5 K).set (H.length+k) B=uG H i j v n a (X.set k B) B4 B5 K:=by simp_all[uG,qH,qB,qN]
theorem zvq{c:Cx}{q:List UInt8}{n:Nat}{m:Mb}{s:St}{a:Nat}{y:Mb×St}{a1:Nat}(h:zhk c q n m s a= .ok y a1)(ha:a<=n)(hml:m.lv.length=384):a1<=n/\y.1.lv.length=384:=by unfold zhk at h;obtain⟨z,a2,h1,h⟩:=Rr.bind_eq h;obtain⟨m4,a3,h2,h⟩:=Rr.bind_eq h;obtain⟨b1,b2,_⟩:=zhj h1 ha;obtain⟨c1,c2,_⟩:=zji h2 b1;obtain⟨d1,d2,_⟩:=zeH 6 m4 z.2 a3 h c1 om (by rw[c2,b2];exact hml);omega
theorem zt5{s:St}(h:dcR s)(k:Int):dcR (aft s k):=λp=>by have h0: -4095<=s.da/\s.da<=4095:=h 0;have h1: -4095<=s.db/\s.db<=4095:=h 1;have h2: -4095<=s.dc/\s.dc<=4095:=h 2;grind[dcS,aft]
theorem zpS(i j v:Nat)(q:List UInt8)(n a:Nat)(c:Cx)(s:St)(H:za)(hA:H[i]? =some (rR j v n a))(hB:H[j]? =some (rB q v))(hne:i≠j)(ha:a<=n)(hn:n<=8 * q.length)(hq:q.length<=100000000):
  CallEx qE 166 [.ptr i 0 0,.agg (cxc c),.agg (stc s)] H (zxB H i j v n (zdp c s q n a)):=by
 have hi:=(qD.1 hA).1;have hj:=(qD.1 hB).1;have hself:=zai hA;have c1:=zd6 c;have c2:=zkJ s;have vo:=λK=>zja c K;have so:=λK=>zsJ s K;have tk1:qF 4 (cxc c)=cxc c:=rfl;have tk2:qF 8 (stc s)=stc s:=rfl;have l1:(cxc c).length=4:=rfl;have l2:(stc s).length=8:=rfl;have hzl:=zdb;have hzc:=zeW;have tz:qF 408 zmv=zmv:=qK om;have dz:qI 408 zmv=[]:=List.drop_of_length_le om;generalize hres:zdp c s q n a=res;refine CallEx.body (F0:=[(0,.ptr i 0 0),(1,.agg (cxc c)),(2,.agg (stc s))]) Tryz.func166 rfl Tryz.ntmps166 Tryz.results166 rfl kr rfl ?_;refine .f (λK k=>by simp(disch:=omega) only[go_sem,c1,c2,↓zi2,qG];exact k) ?_;unfold zdp at hres;suffices hrest:PW qE _ _ [(0,.ptr i 0 0),(4,.ptr H.length 0 0),(5,.ptr (H.length+1) 0 0),(6,.ptr (H.length+2) 0 0),(7,.ptr (H.length+3) 0 0),(20,.bool (!(vcx c&&zfG s)))] (H++[⟨125,0,cxc c⟩,⟨253,0,stc s⟩,⟨109,0,zmv⟩,⟨253,0,stc zSt⟩]) _ by
  cases hv:vcx c with
  | false=>
   rw[hv]at vo hrest;(repeat refine .seq ?_);refine .rg rfl λK hK=> ?_;simp(disch:=omega) only[go_sem,tk1,l1];refine VCx.call (vo _) rfl ?_;simp(disch:=omega) only[go_sem];refine hK _ _ ?_;clear hK K;exact .at [0,4,5,6,7,20] hrest rfl rfl
  | true=>rw[hv]at vo hrest;(repeat refine .seq ?_);refine .rg rfl λK hK=> ?_;simp(disch:=omega) only[go_sem,tk1,l1];refine VCx.call (vo _) rfl ?_;simp(disch:=omega) only[go_sem,tk2,l2];refine VCx.call (so _) rfl ?_;simp(disch:=omega) only[go_sem];refine hK _ _ ?_;clear hK K;exact .at [0,4,5,6,7,20] hrest rfl rfl
 cases hval:(vcx c&&zfG s)with
 | false=>
  rw[hval,if_neg (by decide)]at hres;refine .t ?_;refine .f (λK k=>by simp(disch:=omega) only[go_sem,↓zi2,hzl,hzc,tz,dz,stc];exact k) ?_;refine .ret ⟨.tup [.agg zmv,.agg (stc zSt),.int .i64 1],by simp(disch:=omega) only[go_sem,zk,zo,List.mapM_cons,List.mapM_nil,Option.pure_def,Option.bind_eq_bind,Option.bind_some,Array.toList,hzl,tz,stc,zSt],?_⟩;rw[<-hres];have:=zje H i j v n a [⟨125,0,cxc c⟩,⟨253,0,stc s⟩,⟨109,0,zmv⟩,⟨253,0,stc zSt⟩] (.er 0 a) hj ha;rw[hself]at this;exact this
 | true=>
  rw[hval,if_pos rfl]at hres;rw[Bool.and_eq_true]at hval;obtain⟨hsq,hv,hd⟩:=zkr hval.2;refine .us ?_;(repeat refine .seq ?_);refine .view (Vs.place 109) ?_;refine .view (Vs.place 253) ?_;refine .eq rfl (show _=H++[⟨125,0,cxc c⟩,⟨253,0,stc s⟩,⟨109,0,zmv⟩,⟨253,0,stc zSt⟩,⟨109,0,[]⟩,⟨253,0,[]⟩] by simp) ?_;have s0:(stc s)[0]? =some (.int .i64 s.q):=rfl;(repeat refine .seq ?_);refine .drawi [H.length+4,H.length+5] [(9,[0]),(10,[1])] [(9,0),(10,1)] [] mix kr (by simp<;>omega) λK hK=> ?_;simp(disch:=omega) only[go_sem,↓zi2,apn,aps,s0,hzl,hzc,dz,stc,qG];refine hK _ _ ?_;clear hK K;obtain⟨X,hXe⟩:∃ X:za,X=[⟨125,0,cxc c⟩,⟨253,0,stc s⟩,⟨109,0,zmv⟩,⟨253,0,stc zSt⟩]:=⟨_,rfl⟩;have hX:X.length=4:=by rw[hXe];rfl
  refine .at [0,4,5,6,7,9,10] (F1:=[(0,.ptr i 0 0),(4,.ptr H.length 0 0),(5,.ptr (H.length+1) 0 0),(6,.ptr (H.length+2) 0 0),(7,.ptr (H.length+3) 0 0),(9,.ptr (H.length+4) 1 0),(10,.ptr (H.length+5) 1 0)]) (H1:=uG H i j v n a X (mW zMb) (sB (aft s 0)) []) ?_ rfl (by unfold uG;rw[hself,hXe];rfl);have hX0:X[0]? =some ⟨125,0,cxc c⟩:=by rw[hXe];rfl
  have hX1:X[1]? =some ⟨253,0,stc s⟩:=by rw[hXe];rfl
  have hX2:X[2]? =some ⟨109,0,zmv⟩:=by rw[hXe];rfl
  have hX3:X[3]? =some ⟨253,0,stc zSt⟩:=by rw[hXe];rfl
  have gx:=λa B4 B5 k hk=>zm6 H i j v n a X B4 B5 [] k hX hk;have g0:=λa B4 B5=>(gx a B4 B5 0 om).trans hX0;have kr:=zry H i j v q n a X c (aft s 0) hi hB hne hX ha hn hq;have g0:=λa B4 B5=>by simpa using(gx a B4 B5 0 om).trans hX0
  have g1:=λa B4 B5=>(gx a B4 B5 1 om).trans hX1;have g5:=λa B4 B5=>zpw H i j v n a X B4 B5 [] hX;have g4:=λa B4 B5=>zpx H i j v n a X B4 B5 [] hX;have s5:=λa B4 B5 B=>zix H i j v n a X B4 B5 [] hX B;unfold mtk at hres;suffices h12:∀(m':Mb) (s':St) (a':Nat) (e:Int),a'<=n->m'.lv.length=384->((e=0/\res= .ok (m',s') a')\/∃(e' a0:Nat),e=(e':Int)+1/\res= .er e' a0)->
    PW qE _ _ [(6,.ptr (H.length+2) 0 0),(7,.ptr (H.length+3) 0 0),(9,.ptr (H.length+4) 1 0),(10,.ptr (H.length+5) 1 0),(12,.int .i64 e)] (uG H i j v n a' X (mW m') (sB s') []) _ by
   suffices h10:∀(m':Mb) (s':St) (hl:Bool) (a':Nat),a'<=n->m'.lv.length=384->dcR s'->(1<=s'.q/\s'.q<=31)->(hl=true->m'.k=1\/m'.k=2)->(if hl then zhk c q n (alc m') s' a' else .ok (m',s') a')=res->
     PW qE _ _ [(0,.ptr i 0 0),(4,.ptr H.length 0 0),(6,.ptr (H.length+2) 0 0),(7,.ptr (H.length+3) 0 0),(9,.ptr (H.length+4) 1 0),(10,.ptr (H.length+5) 1 0),(11,.bool hl),(12,.int .i64 0)] (uG H i j v n a' X (mW m') (sB s') []) _ by
    cases hkd:zbW c q n a with
    | er e a1=>
     rw[hkd]at kr hres;rw[Rr.bind_er]at hres;have d0:((e:Int)+1==0)=false:=by simp;omega
     simp only[rvK,mKd]at kr;(repeat refine .seq ?_);refine .rg rfl λK hK=> ?_;simp(disch:=omega) only[go_sem,g0,l1,tk1];refine VCx.call (kr) rfl ?_;simp(disch:=omega) only[go_sem];refine hK _ _ ?_;clear hK K;refine .g d0 ?_;refine .us ?_;refine .g d0 ?_;refine .us ?_;refine .g d0 ?_;refine .us ?_;exact .at [6,7,9,10,12] (h12 zMb (aft s 0) a1 _ (zpJ hkd ha) zV (.inr ⟨e,a1,rfl,hres.symm⟩)) rfl rfl
    | ok x a1=>
     obtain⟨m,hl⟩:=x;obtain⟨ha1,hlv⟩:=zjh hkd ha;have hml:(zdN m).lv.length=384:=by rw[show(zdN m).lv=zl384 from hlv];exact zV
     have hre:=zvJ hkd ha hv;rw[hkd]at kr hres;rw[Rr.bind_ok]at hres;dsimp only at hres;rw[<-hre]at hres;unfold zvK at hres;simp only[rvK,mKd]at kr;have dv:=λk=>zt5 hd k;(repeat refine .seq ?_);refine .rg rfl λK hK=> ?_;simp(disch:=omega) only[go_sem,g0,l1,tk1];refine VCx.call (kr) rfl ?_;simp(disch:=omega) only[go_sem];refine hK _ _ ?_;clear hK K;have hkl:hl=true->m.k=1\/m.k=2:=λe=>by
      rcases znb hkd with⟨rfl,rfl⟩|⟨rfl,rfl⟩|⟨v,rfl⟩
      .exact .inl rfl
      .cases e
      .exact .inr rfl
     have mk:(mbc (zdN m))[0]? =some (.int .i64 m.k):=rfl;have gs4:qF 4 (qI 4 (stc s))=[.int .i64 s.va,.int .i64 s.vb,.int .i64 s.vc,.int .i64 s.vd]:=rfl;have gs3:qF 3 (qI 1 (stc s))=[.int .i64 s.da,.int .i64 s.db,.int .i64 s.dc]:=rfl;have ls:∀ t,(stc t).length=8:=λ_=>rfl;by_cases hk2:m.k=2
     .have dk:(m.k==2)=true:=by simp[hk2]
      have dk1:(m.k==1)=false:=by simp[hk2]
      have st4:qF 4 (stc (aft s 0))++ .int .i64 s.va:: .int .i64 s.vb:: .int .i64 s.vc:: .int .i64 s.vd::qI 8 (stc (aft s 0))=stc (aft s 2):=rfl;rw[hk2]at hres;have va:vrS (aft s 2):=λd=>by rw[zsB,zsA];exact hv d
      have vr:=zpv H i j v q n X c hi hB hne hX hn hq (zdN m) (aft s 2) a1 hml va ha1 hk2;refine .f (λK k=>by simp(disch:=omega) only[go_sem,g4,zab,zac,mk,dk];exact k) ?_;refine .t ?_;refine .f (λK k=>by simp(disch:=omega) only[go_sem,g1,g5,s5,zgv,zgw,zqk,gs4,ls,st4,zkP,qG];exact k) ?_;(repeat refine .seq ?_);refine .rg rfl λK hK=> ?_;simp(disch:=omega) only[go_sem,g0,l1,tk1];refine VCx.callR vr rfl λw H' hR=> ?_;cases htp:zbp c q n (zdN m) (aft s 2) a1 with
      | er e a2=>
       rw[htp]at hR hres;obtain⟨rfl,a4,m4,s4',h1,h2,rfl⟩:=hR;rw[Rr.bind_er]at hres;have d0:((e:Int)+1==0)=false:=by simp;omega
       simp(disch:=omega) only[go_sem,ecd];refine hK _ _ ?_;clear hK K;refine .g d0 ?_;refine .us ?_;refine .g d0 ?_;refine .us ?_;exact .at [6,7,9,10,12] (h12 m4 s4' a4 _ h1 h2 (.inr ⟨e,a2,rfl,hres.symm⟩)) rfl rfl
      | ok y a2=>
       obtain⟨b1,b2,b3,b4⟩:=zjg htp ha1 va;rw[htp]at hR hres;obtain⟨rfl,rfl⟩:=hR;rw[Rr.bind_ok]at hres;have yk:y.1.k=2:=by rw[b3];exact hk2
       have dy1:(y.1.k==1)=false:=by rw[yk];rfl
       simp(disch:=omega) only[go_sem];refine hK _ _ ?_;clear hK K;refine .f (λK k=>by simp(disch:=omega) only[go_sem,g4,zab,zac,zdH,dy1];exact k) ?_;refine .us ?_;exact .at [0,4,6,7,9,10,11,12] (h10 y.1 y.2 hl a2 b1 (by rw[b2];exact hml) (zlA b4 (dv 2)) (by rw[b4.1];exact hsq) (λ_=>.inr yk) hres) rfl rfl
     have dk:(m.k==2)=false:=by simp[hk2]
     have ep:∀ t,zbp c q n (zdN m) t a1= .ok (zdN m,t) a1:=λt=>by unfold zbp;rw[if_neg (show ¬(zdN m).k=2 from hk2)]
     rw[ep,Rr.bind_ok]at hres;refine .f (λK k=>by simp(disch:=omega) only[go_sem,g4,zab,zac,mk,dk];exact k) ?_;refine .us ?_;by_cases hk1:m.k=1
     .have dk1:(m.k==1)=true:=by simp[hk1]
      have st3:qF 1 (stc (aft s 0))++ .int .i64 s.da:: .int .i64 s.db:: .int .i64 s.dc::qI 4 (stc (aft s 0))=stc (aft s 1):=rfl;rw[hk1]at hres;refine .f (λK k=>by simp(disch:=omega) only[go_sem,g4,zab,zac,mk,dk1];exact k) ?_;refine .t ?_;refine .f (λK k=>by simp(disch:=omega) only[go_sem,g1,g5,s5,zgv,zgw,zqk,gs3,ls,st3,zkP,qG];exact k) ?_;exact .at [0,4,6,7,9,10,11,12] (h10 (zdN m) (aft s 1) hl a1 ha1 hml (dv 1) hsq hkl hres) rfl rfl
     .have dk1:(m.k==1)=false:=by simp[hk1]
      have e0:aft s m.k=aft s 0:=by unfold aft;rw[if_neg hk1,if_neg hk1,if_neg hk1,if_neg hk2,if_neg hk2,if_neg hk2,if_neg hk2];rfl
      rw[e0]at hres;refine .f (λK k=>by simp(disch:=omega) only[go_sem,g4,zab,zac,mk,dk1];exact k) ?_;refine .us ?_;exact .at [0,4,6,7,9,10,11,12] (h10 (zdN m) (aft s 0) hl a1 ha1 hml (dv 0) hsq hkl hres) rfl rfl
   clear hres kr;intro m' s' hl a' ha' hml' hd' hq' hkl hres;cases hl with
   | false=>
    rw[if_neg (by decide)]at hres;refine .e ?_;refine .us ?_;exact .at [6,7,9,10,12] (h12 m' s' a' 0 ha' hml' (.inl ⟨rfl,hres.symm⟩)) rfl rfl
   | true=>
    rw[if_pos rfl]at hres;have br:=zso H i j v q n X c hi hB hne hX hn hq m' s' a' hml' hd' hq' ha' (hkl rfl);refine .e ?_;refine .t ?_;(repeat refine .seq ?_);refine .rg rfl λK hK=> ?_;simp(disch:=omega) only[go_sem,g0,l1,tk1];refine VCx.callR br rfl λw H' hR=> ?_;cases htb:zhk c q n (alc m') s' a' with
    | er e a2=>
     rw[htb]at hR hres;obtain⟨rfl,a4,m4,s4',h1,h2,rfl⟩:=hR;simp(disch:=omega) only[go_sem,ecd];refine hK _ _ ?_;clear hK K;exact .at [6,7,9,10,12] (h12 m4 s4' a4 _ h1 h2 (.inr ⟨e,a2,rfl,hres.symm⟩)) rfl rfl
    | ok y a2=>obtain⟨b1,b2⟩:=zvq htb ha' hml';rw[htb]at hR hres;obtain⟨rfl,rfl⟩:=hR;simp(disch:=omega) only[go_sem];refine hK _ _ ?_;clear hK K;exact .at [6,7,9,10,12] (h12 y.1 y.2 a2 0 b1 b2 (.inl ⟨rfl,hres.symm⟩)) rfl rfl
  clear hres kr;intro m' s' a' e ha' hml' hx;have hlm:=zu m' hml';have htm:qF 408 (mbc m')=mbc m':=qK om;have hcm:=zcu m';have lst:∀ t,(stc t).length=8:=λ_=>rfl;have tst:∀ t,qF 8 (stc t)=stc t:=λ_=>rfl;have cst:∀ t,(stc t).all PV.cell=true:=λ_=>rfl;have dst:qI 8 (stc zSt)=[]:=rfl;have g2:=λa B4 B5=>(gx a B4 B5 2 om).trans hX2;have g3:=λa B4 B5=>(gx a B4 B5 3 om).trans hX3;rcases hx with⟨rfl,hr⟩|⟨e',a0,rfl,hr⟩
  .refine .e ?_;refine .us ?_;have sx2:=λB=>zuu H i j v n a' X (mW m') (sB s') [] B 2 hX om;have hX':∀ B,(X.set 2 B).length=4:=λB=>by rw[qB];exact hX
   have g3':∀ B,(uG H i j v n a' (X.set 2 B) (mW m') (sB s') [])[H.length+3]? =some ⟨253,0,stc zSt⟩:=λB=>by rw[zm6 _ _ _ _ _ _ _ _ _ _ _ (hX' B) om,hXe];rfl
   have sx3:=λY B (hY:Y.length=4)=>zuu H i j v n a' Y (mW m') (sB s') [] B 3 hY om;have sx3':=λB B'=>sx3 (X.set 2 B) B' (hX' B);(repeat refine .seq ?_);refine .drawi [H.length+2,H.length+3] [(6,[0]),(7,[1])] [] [] mix kr (by simp<;>omega) λK hK=> ?_;simp(disch:=omega) only[go_sem,g4,g5,g2,g3',sx2,sx3',zab,zac,zgv,zgw,hlm,htm,hzl,dz,hcm,lst,tst,cst,dst];refine hK _ _ ?_;clear hK K;have hX2':((X.set 2 ⟨109,0,mbc m'⟩).set 3 ⟨253,0,stc s'⟩).length=4:=by rw[qB,qB];exact hX
   have f2:(uG H i j v n a' ((X.set 2 ⟨109,0,mbc m'⟩).set 3 ⟨253,0,stc s'⟩) (mW m') (sB s') [])[H.length+2]? =some ⟨109,0,mbc m'⟩:=by rw[zm6 _ _ _ _ _ _ _ _ _ _ _ hX2' om,hXe];rfl
   have f3:(uG H i j v n a' ((X.set 2 ⟨109,0,mbc m'⟩).set 3 ⟨253,0,stc s'⟩) (mW m') (sB s') [])[H.length+3]? =some ⟨253,0,stc s'⟩:=by rw[zm6 _ _ _ _ _ _ _ _ _ _ _ hX2' om,hXe];rfl
   refine .w (.tup [.agg (mbc m'),.agg (stc s'),.int .i64 0]) (nq2 f2 (nq2 f3 (nq2 hlm (nq2 htm (nq2 lst tst))))) ?_;rw[hr];exact zje H i j v n a' (((X.set 2 ⟨109,0,mbc m'⟩).set 3 ⟨253,0,stc s'⟩)++[mW m',sB s']) (.ok (m',s') a') hj rfl
  .have d0:((e':Int)+1 !=0)=true:=by simp;omega
   have se1:=zai (g2 a' (mW m') (sB s'));have se2:=zai (g3 a' (mW m') (sB s'));refine .g d0 ?_;refine .t ?_;refine .f (λK k=>by simp(disch:=omega) only[go_sem,↓zi2,g2,g3,hzl,hzc,dz,lst,se1];exact k) ?_;refine .at [6,7,8] (F1:=[(6,.ptr (H.length+2) 0 0),(7,.ptr (H.length+3) 0 0),(8,.int .i64 ((e':Int)+1))]) (H1:=uG H i j v n a' X (mW m') (sB s') []) ?_ rfl se2;refine .w (.tup [.agg zmv,.agg (stc zSt),.int .i64 ((e':Int)+1)]) (nq2 g2 (nq2 g3 (nq2 hzl (nq2 tz (nq2 lst tst))))) ?_;rw[hr];exact zje H i j v n a' (X++[mW m',sB s']) (.er e' a0) hj ha'
end Sc
end Go.Proofs.YtdajpjenhcobkaaGreatDoor
