/-
  Parts of the proof, put together in one text. No condition.
-/
import Derived.Test.YtpjlfoficnpfoaaGreatDoorV09
import Derived.WalkSmall
import Derived.Laws.Build
import Derived.Defers
import Derived.Recover
open Array renaming replicate → qD, getD_eq_getD_getElem? → qO, getElem?_append_left → qP, toArray_toList → qU
open Bool renaming and_eq_true → qN
open List renaming length_set → qA, getElem?_eq_some_iff → qB, getElem?_eq_getElem → qE, set_append_left → qF, not_mem_nil → qH, take_of_length_le → qI, drop_of_length_le → qJ, take_append_drop → qK, mem_cons → qL, set_set → qM, getD → qQ, getElem?_eq_none → qT, mem_of_getElem? → qV
open Nat renaming le_of_ble_eq_true → qC, pow_le_pow_right → qG, add_zero → qS, zero_le → qW
open Option renaming bind_eq_bind → qR
namespace Go.Proofs.YtpjlfoficnpfoaaGreatDoor.Sc
set_option linter.all false
open Pm Ty Go.RowKit
def zN(p:List UInt8)(k:Nat):Nat:=(p.getD (k / 8) 0).toNat / 2^(7 - k%8)%2
theorem zbV(p:List UInt8)(k:Nat):zN p k<2:=Nat.mod_lt _ om
def vl(p:List UInt8)(a:Nat):Nat→Nat
 | 0=>0
 | n+1=>2 * vl p a n+zN p (a+n)
theorem zf6(p:List UInt8)(a:Nat):∀ n,vl p a n<2^n
 | 0=>by simp[vl]
 | n+1=>by have h1:=zf6 p a n;have h2:=zbV p (a+n);rw[vl,Nat.pow_succ];omega
theorem zio(k':IntKind)(V:Nat)(h:2 * V<4294967296):zaZ .shl .u32 (V:Int) k' 1=some (.int .u32 ((2 * V:Nat):Int)):=by simp only[zaZ,IntKind.bits];rw[if_neg om,show min (1:Int).toNat 32=1 from rfl,show(V:Int) * (2:Int)^1=((2 * V:Nat):Int)from om,w32 _ om]
theorem zsJ(a b:Nat)(hb:b<2):2 * a|||b=2 * a+b:=by
 have h1:2 * a=a<<<1:=by rw[Nat.shiftLeft_eq];omega
 rw[h1,Nat.shiftLeft_add_eq_or_of_lt (by simpa using hb)]
theorem zmQ(a b:Nat)(hb:b<2)(h:2 * a<4294967296):zaZ .or .u32 ((2 * a:Nat):Int) .u32 (b:Int)=some (.int .u32 ((2 * a+b:Nat):Int)):=by
 have key0:(BitVec.ofInt 32 ((2 * a:Nat):Int)|||BitVec.ofInt 32 (b:Int)).toNat=2 * a+b:=by rw[BitVec.ofInt_natCast,BitVec.ofInt_natCast,BitVec.toNat_or,BitVec.toNat_ofNat,BitVec.toNat_ofNat,Nat.mod_eq_of_lt om,Nat.mod_eq_of_lt om];exact zsJ a b hb
 have key:(BitVec.ofInt IntKind.u32.bits ((2 * a:Nat):Int)|||BitVec.ofInt IntKind.u32.bits (b:Int)).toNat=2 * a+b:=key0;simp only[zaZ,key,if_true];rw[w32 _ om]
def rA(p:List UInt8)(n a:Nat):Blk:=⟨272,0,[.slice (bs p) p.length false,.int .i64 (n:Int),.int .i64 (a:Int)]⟩
theorem zpO(i:Nat)(p:List UInt8)(n a:Nat)(H:za)(hA:H[i]? =some (rA p n a))(ha:a≤n)(hn:n≤1000000000):CallOk Tryz.prog 112 [.ptr i 0 0] H (.int .i64 ((n - a:Nat):Int)) H:=by have e:(n:Int) - (a:Int)=((n - a:Nat):Int):=om;refine CallOk.go Tryz.func112 Tryz.ntmps112 Tryz.results112 ?_;(repeat'(first|refine PW.seq ?_|refine PW.skip ?_|refine PW.block ?_|((first|refine PW.rg rfl fun K hK=> ?_|refine PW.draw mix kr fun K hK=> ?_);simp(disch:=omega) only[go_sem,↓reduceIte,reduceCtorEq,hA,rA,e])|((first|refine zh ?_ ?_|refine ze ?_ ?_|refine And.intro ?_ ?_)<;>intro h<;>(try simp only[nqb]at h)<;>simp(disch:=omega) only[go_sem,↓reduceIte,reduceCtorEq,hA,rA,e,h])|(refine hK _ _ ?_;clear hK K)|(refine PW.cond (t:=_) rfl (fun h=> ?_) (fun h=> ?_)<;>(try(cases h;done))<;>(try simp only[nqb]at h))));all_goals exact PW.ret ⟨_,rfl,Fin.now⟩
theorem zbG(i:Nat)(p:List UInt8)(n a m:Nat)(H:za)(hA:H[i]? =some (rA p n a))(ha:a≤n)(hn:n≤1000000000)(hm:m≤32)(hs:n - a<m):
  CallOk Tryz.prog 109 [.ptr i 0 0,.int .i64 (m:Int)] H (.tup [.int .u32 0,.int .i64 4]) H:=by
 refine CallOk.go Tryz.func109 Tryz.ntmps109 Tryz.results109 ?_;(repeat'(first|refine PW.seq ?_|refine PW.skip ?_|refine PW.block ?_|((first|refine PW.rg rfl fun K hK=> ?_|refine PW.draw mix kr fun K hK=> ?_);simp(disch:=omega) only[go_sem,↓reduceIte,reduceCtorEq,hA,rA])|((first|refine zh ?_ ?_|refine ze ?_ ?_|refine And.intro ?_ ?_)<;>intro h<;>(try simp only[nqb]at h)<;>simp(disch:=omega) only[go_sem,↓reduceIte,reduceCtorEq,hA,rA,h])|(refine hK _ _ ?_;clear hK K)|(refine PW.cond (t:=_) rfl (fun h=> ?_) (fun h=> ?_)<;>(try(cases h;done))<;>(try simp only[nqb]at h))));all_goals first|exact PW.ret ⟨_,rfl,Fin.now⟩|omega
theorem zdB(i:Nat)(p:List UInt8)(n a m:Nat)(H:za)(hA:H[i]? =some (rA p n a))(ha:a+m≤n)(hn:n≤8 * p.length)(hp:p.length≤100000000)(hm:m≤32):
  CallOk Tryz.prog 109 [.ptr i 0 0,.int .i64 (m:Int)] H (.tup [.int .u32 (vl p a m:Int),.int .i64 0]) (H.set i (rA p n (a+m))):=by
 have hi:=(qB.1 hA).1;have hself:=zO hA;refine CallOk.go Tryz.func109 Tryz.ntmps109 Tryz.results109 ?_;refine PW.e ?_;(repeat refine PW.seq ?_);refine PW.rgv [0,1] 17 (.bool false) rfl ?_ ?_
 ·simp(disch:=omega) only[go_sem,↓reduceIte,reduceCtorEq,hA,rA]
 refine PW.us ?_;(repeat refine PW.seq ?_);refine PW.draw mix kr fun K hK=> ?_;simp(disch:=omega) only[go_sem,↓reduceIte,reduceCtorEq,hA,rA];refine hK _ _ ?_;clear hK K;refine PW.us ?_;refine PW.e ?_;refine PW.e ?_;refine PW.l ?_;suffices hloop:∀(k:Nat),k≤m→PL Tryz.prog _ _ [(0,.ptr i 0 0),(6,.int .u32 (vl p a k:Int)),(29,.int .i64 (m:Int)),(30,.int .i64 (k:Int))] (H.set i (rA p n (a+k))) _ by exact PL.at [0,6,29,30] (hloop 0 (qW _)) rfl hself.symm
 intro k hk;induction hmk:m - k using Nat.strongRecOn generalizing k with
 | _ r ih=>
  refine PL.round ?_;refine PW.e ?_;have hat:∀ B:Blk,(H.set i B)[i]? =some B:=fun B=>by simp[hi]
  refine PW.c (fun h=> ?_) (fun h=> ?_)
  ·have h4:k<m:=ot h;have hnext:=ih (m - (k+1)) om (k+1) om rfl;have hr8:(a+k)%8<8:=Nat.mod_lt _ om;have hq8:(a+k) / 8<p.length:=om;have hu:zN p (a+k)=(p.getD ((a+k) / 8) 0).toNat / 2^(7 - (a+k)%8)%2:=rfl;have e3:(7:Int) - (((a+k)%8:Nat):Int)=((7 - (a+k)%8:Nat):Int):=om;have e4:((a+k:Nat):Int)+1=((a+(k+1):Nat):Int):=om;have hul:=zbV p (a+k);have hvl:=zf6 p a k;have hvl2:2 * vl p a k<4294967296:=by have:2^k≤2^31:=qG om om;omega
   have hb:byt p ((a+k) / 8)=((p.getD ((a+k) / 8) 0).toNat:Int):=rfl;refine PW.skip ?_;refine PW.b ?_;(repeat refine PW.seq ?_);refine PW.draw mix kr fun K hK=> ?_;simp(disch:=omega) only[go_sem,↓reduceIte,reduceCtorEq,hat,rA,zif,zke,zc,zK,e3,hb,zmO,zqn,←hu];refine hK _ _ ?_;clear hK K;refine PW.f (fun K k=>by simp(disch:=omega) only[go_sem,↓reduceIte,reduceCtorEq,zio,zmQ];exact k) ?_;refine PW.f (fun K k=>by simp(disch:=omega) only[go_sem,↓reduceIte,reduceCtorEq,hat,rA,e4,qM];exact k) ?_;refine PW.e ?_;exact PL.at [0,6,29,30] hnext rfl rfl
  ·have h4:k=m:=ofF h;subst h4;refine PW.exit ?_;refine PW.e ?_;refine PW.ret ⟨_,rfl,Fin.now⟩
inductive Rr(α:Type) where
 | ok (v:α) (a:Nat)
 | er (e:Nat) (a:Nat)
def Rr.bind{α β:Type}(x:Rr α)(f:α→Nat→Rr β):Rr β:=match x with| .ok v a=>f v a| .er e a=>.er e a
def Rr.at{α:Type}:Rr α→Nat| .ok _ a=>a| .er _ a=>a
theorem Rr.bind_ok{α β:Type}(v:α)(a:Nat)(f:α→Nat→Rr β):(Rr.ok v a).bind f=f v a:=rfl
theorem Rr.bind_er{α β:Type}(e a:Nat)(f:α→Nat→Rr β):(Rr.er e a:Rr α).bind f= .er e a:=rfl
theorem Rr.bind_bind{α β γ:Type}(x:Rr α)(f:α→Nat→Rr β)(g:β→Nat→Rr γ):(x.bind f).bind g=x.bind fun v a=>(f v a).bind g:=by cases x<;>rfl
theorem ziP(p:List UInt8)(a m:Nat):∀ n,vl p a (m+n)=vl p a m * 2^n+vl p (a+m) n
 | 0=>by simp[vl]
 | n+1=>by rw[show m+(n+1)=(m+n)+1 from om,vl,ziP p a m n,vl,Nat.pow_succ,show a+(m+n)=a+m+n from om,←Nat.mul_assoc];omega
def zrs(q:List UInt8)(n:Nat):Nat→Nat→Nat
 | 0,_=>0
 | c+1,a=>if a<n∧zN q a=0 then zrs q n c (a+1)+1 else 0
section
variable {q:List UInt8} {n:Nat}
theorem zlr:∀(c a:Nat),zrs q n c a≤c
 | 0,a=>by simp[zrs]
 | c+1,a=>by have:=zlr c (a+1);simp only[zrs];split<;>omega
theorem zjV{c a:Nat}(h:a<n)(h0:zN q a=0):zrs q n (c+1) a=zrs q n c (a+1)+1:=by simp only[zrs];rw[if_pos ⟨h,h0⟩]
theorem zmr{c a:Nat}(h:n≤a):zrs q n c a=0:=by
 cases c with
 | zero=>rfl
 | succ c=>simp only[zrs];rw[if_neg om]
theorem zmq{c a:Nat}(h:zN q a=1):zrs q n c a=0:=by
 cases c with
 | zero=>rfl
 | succ c=>simp only[zrs];rw[if_neg om]
theorem zoy:∀(c a k:Nat),k≤zrs q n c a→vl q a k=0
 | 0,a,k,h=>by
  have:k=0:=by simpa[zrs]using h
  subst this;rfl
 | c+1,a,k,h=>by
  simp only[zrs]at h;split at h
  ·rename_i hh;cases k with
   | zero=>rfl
   | succ k=>rw[show k+1=1+k from om,ziP,zoy c (a+1) k om];simp[vl,hh.2]
  ·have:k=0:=om;subst this;rfl
theorem zoz:∀(c a:Nat),zrs q n c a<c→a+zrs q n c a<n→zN q (a+zrs q n c a)=1
 | 0,a,h,_=>om
 | c+1,a,h,h2=>by
  simp only[zrs]at h h2 ⊢;split at h
  ·rename_i hh;rw[if_pos hh]at h2 ⊢;have:=zoz c (a+1) om om;rwa[show a+(zrs q n c (a+1)+1)=a+1+zrs q n c (a+1)from om]
  ·rename_i hh;rw[if_neg hh]at h2 ⊢;have:=zbV q a;have h3:¬ zN q a=0:=fun e=>hh ⟨om,e⟩;rw[qS];omega
end
def tkU(q:List UInt8)(n a:Nat):Rr Nat:=if zrs q n 16 a=16 then .er 2 a else if n - a<2 * zrs q n 16 a+1 then .er 3 a else .ok (2^zrs q n 16 a+vl q (a+zrs q n 16 a+1) (zrs q n 16 a) - 1) (a+(2 * zrs q n 16 a+1))
def usg(v:Nat):Int:=if v%2=1 then((v+1) / 2:Nat)else -((v / 2:Nat):Int)
def tkS(q:List UInt8)(n a:Nat):Rr Int:=(tkU q n a).bind fun v a=>.ok (usg v) a
theorem zdh{q:List UInt8}{n a v a1:Nat}(h:tkU q n a= .ok v a1)(ha:a≤n):v≤65534∧a<a1∧a1≤n:=by
 unfold tkU at h;split at h
 ·cases h
 ·split at h
  ·cases h
  ·have h1:=zlr (q:=q) (n:=n) 16 a;injection h with h2 h3;have h4:zrs q n 16 a≤15:=om;have h5:=zf6 q (a+zrs q n 16 a+1) (zrs q n 16 a);have h6:2^zrs q n 16 a≤2^15:=qG om h4;omega
theorem zf7{q:List UInt8}{n a e a1:Nat}(h:tkU q n a= .er e a1):a1=a∧e≤3:=by
 unfold tkU at h;split at h
 ·injection h with h2 h3;omega
 ·split at h
  ·injection h with h2 h3;omega
  ·cases h
theorem zuC(q:List UInt8)(n a:Nat)(h:¬ zrs q n 16 a=16)(h2:¬ n - a<2 * zrs q n 16 a+1):vl q a (2 * zrs q n 16 a+1)=2^zrs q n 16 a+vl q (a+zrs q n 16 a+1) (zrs q n 16 a):=by have h1:=zlr (q:=q) (n:=n) 16 a;have h3:=zoz (q:=q) (n:=n) 16 a om om;have h4:=zoy (q:=q) (n:=n) 16 a (zrs q n 16 a) (Nat.le_refl _);generalize zrs q n 16 a=k at *;rw[show 2 * k+1=k+(1+k)from om,ziP,ziP,h4];simp only[vl,qS,h3,Nat.zero_mul,Nat.zero_add,Nat.mul_zero,Nat.one_mul]
theorem zwe(v:Nat)(h:v≤65534): -32767≤usg v∧usg v≤32767:=by unfold usg;split<;>omega
theorem zcn{q:List UInt8}{n a a1:Nat}{v:Int}(h:tkS q n a= .ok v a1)(ha:a≤n):(-32767≤v∧v≤32767)∧a<a1∧a1≤n:=by
 unfold tkS at h;cases hu:tkU q n a with
 | er e a2=>rw[hu]at h;cases h
 | ok w a2=>rw[hu]at h;injection h with h2 h3;have:=zdh hu ha;subst h2 h3;exact⟨zwe w this.1,this.2⟩
theorem zeL{q:List UInt8}{n a e a1:Nat}(h:tkS q n a= .er e a1):a1=a∧e≤3:=by
 unfold tkS at h;cases hu:tkU q n a with
 | ok w a2=>rw[hu]at h;cases h
 | er e a2=>rw[hu]at h;injection h with h2 h3;have:=zf7 hu;omega
end Go.Proofs.YtpjlfoficnpfoaaGreatDoor.Sc
namespace Go.Proofs.YtpjlfoficnpfoaaGreatDoor.Sc
set_option linter.all false
open Pm Ty Go.RowKit
def eg(v:Nat):List Bool:=zj 0 (Nat.log2 (v+1))++zj (v+1) (Nat.log2 (v+1)+1)
theorem zwN(p:List UInt8)(n a k:Nat):∀ x∈(rA p n a).cells,Scoped k x:=fun x hx=>by
 simp only[rA,qL,qH,or_false]at hx;rcases hx with rfl|rfl|rfl
 ·exact zl (zo _ _)
 ·exact .int _ _
 ·exact .int _ _
theorem zdN(H:za)(i:Nat)(p:List UInt8)(n a:Nat)(h:HSc H):HSc (H.set i (rA p n a)):=HSc.set h (zwN _ _ _ _)
def rvU:Rr Nat→PV
 | .ok v _=>.tup [.int .i64 (v:Int),.int .i64 0]
 | .er e _=>.tup [.int .i64 0,.int .i64 ((e:Int)+1)]
def rvS:Rr Int→PV
 | .ok v _=>.tup [.int .i64 v,.int .i64 0]
 | .er e _=>.tup [.int .i64 0,.int .i64 ((e:Int)+1)]
theorem zgo(k:Nat)(x y:Int):Scoped k (.tup [.int .i64 x,.int .i64 y]):=.tup fun j x hx=>by have:=qV hx;simp only[qL,qH,or_false]at this;rcases this with rfl|rfl<;>exact .int _ _
theorem zpW(k':IntKind)(s:Nat)(h:s≤40):zaZ .shl .i64 1 k' (s:Int)=some (.int .i64 ((2^s:Nat):Int)):=by have h2:2^s≤2^40:=qG om h;simp only[zaZ,IntKind.bits];rw[if_neg om,show min (s:Int).toNat 64=s from om,show(1:Int) * (2:Int)^s=((2^s:Nat):Int) by simp];generalize 2^s=N at *;rw[w64 _ om]
theorem ziR(i:Nat)(p:List UInt8)(n a:Nat)(H:za)(hA:H[i]? =some (rA p n a))(ha:a≤n)(hn:n≤8 * p.length)(hp:p.length≤100000000):
  CallOk Tryz.prog 256 [.ptr i 0 0] H (rvU (tkU p n a)) (H.set i (rA p n (tkU p n a).at)):=by
 have hi:=(qB.1 hA).1;have hself:=zO hA;have hA':=fun K=>zb0 (K:=K) hA;refine CallOk.go Tryz.func256 Tryz.ntmps256 Tryz.results256 ?_;refine PW.e ?_;refine PW.g hA ?_;refine PW.us ?_;refine PW.f (fun K k=>by simp(disch:=omega) only[go_sem,↓reduceIte,reduceCtorEq,hA,rA];exact k) ?_;refine PW.e ?_;refine PW.l ?_;suffices hl:∀ j,j≤15→zrs p n 16 a=j+zrs p n (16 - j) (a+j)→a+j≤n→PL Tryz.prog _ _ [(0,.ptr i 0 0),(4,.ptr H.length 0 0),(5,.int .i64 (j:Int))] (H++[rA p n (a+j)]) _ by exact PL.at [0,4,5] (hl 0 om sp om) rfl rfl
 intro j hj hz hjn;induction hd:16 - j using Nat.strongRecOn generalizing j with
 | _ d ih=>
  subst hd;refine PL.round ?_;refine PW.b ?_;by_cases h0:n=a+j
  ·have t:=zbG H.length p n (a+j) 1 (H++[rA p n (a+j)]) (hp0 _ _ _) hjn om om om;have hz0:zrs p n (16 - j) (a+j)=0:=zmr om;have hr:tkU p n a= .er 3 a:=by unfold tkU;rw[if_neg om,if_pos om]
   refine PW.f (fun K k=>by simp(disch:=omega) only[go_sem,↓reduceIte,reduceCtorEq];refine VCx.call (t) rfl ?_;simp(disch:=omega) only[go_sem,↓reduceIte,reduceCtorEq];exact k) ?_;refine PW.e ?_;refine PW.t ?_;refine PW.e ?_;refine PW.v (.tup [.int .i64 0,.int .i64 4]) ?_;rw[hr];exact Fin.cut (show _=H.set i (rA p n a)++[_] by rw[hself]) sp (zdN _ _ _ _ _) (.id (zgo _ _ _))
  have t:=zdB H.length p n (a+j) 1 (H++[rA p n (a+j)]) (hp0 _ _ _) om hn hp om;have hv1:vl p (a+j) 1=zN p (a+j):=by simp[vl]
  rw[hv1,hs0,show a+j+1=a+(j+1)from om]at t;have hub:=zbV p (a+j);refine PW.f (fun K k=>by simp(disch:=omega) only[go_sem,↓reduceIte,reduceCtorEq];refine VCx.call (t) rfl ?_;simp(disch:=omega) only[go_sem,↓reduceIte,reduceCtorEq];exact k) ?_;refine PW.e ?_;refine PW.us ?_;by_cases h1:zN p (a+j)=1
  ·have hz1:zrs p n (16 - j) (a+j)=0:=zmq h1;rw[hz1,qS]at hz;rw[h1];refine PW.e ?_;refine PW.t ?_;refine PW.exit ?_;by_cases h2:n - (a+(j+1))<j
   ·have t2:=zbG H.length p n (a+(j+1)) j (H++[rA p n (a+(j+1))]) (hp0 _ _ _) om om om h2;have hr:tkU p n a= .er 3 a:=by unfold tkU;rw[if_neg om,if_pos om]
    refine PW.f (fun K k=>by simp(disch:=omega) only[go_sem,↓reduceIte,reduceCtorEq];refine VCx.call (t2) rfl ?_;simp(disch:=omega) only[go_sem,↓reduceIte,reduceCtorEq];exact k) ?_;refine PW.e ?_;refine PW.t ?_;refine PW.e ?_;refine PW.v (.tup [.int .i64 0,.int .i64 4]) ?_;rw[hr];exact Fin.cut (show _=H.set i (rA p n a)++[_] by rw[hself]) sp (zdN _ _ _ _ _) (.id (zgo _ _ _))
   ·have t2:=zdB H.length p n (a+(j+1)) j (H++[rA p n (a+(j+1))]) (hp0 _ _ _) om hn hp om;rw[hs0]at t2;have hr:tkU p n a= .ok (2^j+vl p (a+(j+1)) j - 1) (a+(2 * j+1)):=by unfold tkU;rw[if_neg om,if_neg om,hz,show a+j+1=a+(j+1)from om]
    have hvl:=zf6 p (a+(j+1)) j;have hpw:2^j≤2^15:=qG om hj;have hsum:((2^j:Nat):Int)+(vl p (a+(j+1)) j:Int) - 1=((2^j+vl p (a+(j+1)) j - 1:Nat):Int):=by have:0<2^j:=Nat.pow_pos om;omega
    rw[hr];simp only[Rr.at,rvU];rw[show a+(j+1)+j=a+(2 * j+1)from om]at t2;generalize vl p (a+(j+1)) j=w at *;refine PW.f (fun K k=>by simp(disch:=omega) only[go_sem,↓reduceIte,reduceCtorEq];refine VCx.call (t2) rfl ?_;simp(disch:=omega) only[go_sem,↓reduceIte,reduceCtorEq];exact k) ?_;refine PW.e ?_;refine PW.us ?_;refine PW.f (fun K k=>by simp(disch:=omega) only[go_sem,↓reduceIte,reduceCtorEq,hA',rA];exact k) ?_;have hpw2:2^j=2^j:=rfl;have hsh:=fun k'=>zpW k' j om;generalize 2^j=m at *;refine PW.g (nq2 hsh hsum) ?_;refine PW.v (.tup [.int .i64 ((m+w - 1:Nat):Int),.int .i64 0]) ?_;refine Fin.cut (K:=[rA p n (a+(2 * j+1))]) ?_ sp (zdN _ _ _ _ _) (.id (zgo _ _ _));rw[qF _ _ hi];rfl
  ·have h00:zN p (a+j)=0:=om;rw[h00];refine PW.e ?_;refine PW.us ?_;have hzs:zrs p n (16 - j) (a+j)=zrs p n (16 - (j+1)) (a+(j+1))+1:=by rw[show 16 - j=(16 - (j+1))+1 from om,zjV om h00];rfl
   by_cases h15:j=15
   ·have hr:tkU p n a= .er 2 a:=by subst h15;unfold tkU;rw[if_pos (by rw[hz,hzs];rfl)]
    have d:((j:Int)==15)=true:=by simp[h15]
    refine PW.g d ?_;refine PW.t ?_;refine PW.e ?_;refine PW.v (.tup [.int .i64 0,.int .i64 3]) ?_;rw[hr];exact Fin.cut (show _=H.set i (rA p n a)++[_] by rw[hself]) sp (zdN _ _ _ _ _) (.id (zgo _ _ _))
   ·have d:((j:Int)==15)=false:=by rw[beq_eq_false_iff_ne];omega
    refine PW.g d ?_;refine PW.us ?_;refine PW.e ?_;exact PL.at [0,4,5] (ih (16 - (j+1)) om (j+1) om om om rfl) rfl rfl
theorem ziS(i:Nat)(p:List UInt8)(n a:Nat)(H:za)(hA:H[i]? =some (rA p n a))(ha:a≤n)(hn:n≤8 * p.length)(hp:p.length≤100000000):
  CallOk Tryz.prog 261 [.ptr i 0 0] H (rvS (tkS p n a)) (H.set i (rA p n (tkS p n a).at)):=by
 have t:=ziR i p n a H hA ha hn hp;unfold tkS;cases hu:tkU p n a with
 | er e a1=>
  rw[hu]at t;have he:=(zf7 hu).2;have d:((e:Int)+1 !=0)=true:=by simp;omega
  simp only[Rr.bind,rvU,rvS,Rr.at]at t ⊢;generalize H.set i (rA p n a1)=Hz at *;refine CallOk.go Tryz.func261 Tryz.ntmps261 Tryz.results261 ?_;refine PW.e ?_;refine PW.f (fun K k=>by simp(disch:=omega) only[go_sem,↓reduceIte,reduceCtorEq];refine VCx.call (t) rfl ?_;simp(disch:=omega) only[go_sem,↓reduceIte,reduceCtorEq];exact k) ?_;refine PW.g d ?_;refine PW.t ?_;refine PW.e ?_;exact PW.ret ⟨_,rfl,Fin.now⟩
 | ok w a1=>
  rw[hu]at t;have hb:=(zdh hu ha).1;simp only[Rr.bind,rvU,rvS,Rr.at]at t ⊢;generalize H.set i (rA p n a1)=Hz at *;have hm:(w:Int).tmod 2=((w%2:Nat):Int):=zkd w 2;refine CallOk.go Tryz.func261 Tryz.ntmps261 Tryz.results261 ?_;refine PW.e ?_;refine PW.f (fun K k=>by simp(disch:=omega) only[go_sem,↓reduceIte,reduceCtorEq];refine VCx.call (t) rfl ?_;simp(disch:=omega) only[go_sem,↓reduceIte,reduceCtorEq];exact k) ?_;refine PW.e ?_;refine PW.us ?_;by_cases h2:w%2=1
  ·have hus:usg w=(((w+1) / 2:Nat):Int):=by unfold usg;rw[if_pos h2]
   rw[hus];have e1:(w:Int)+1=((w+1:Nat):Int):=om;have e2:(((w+1:Nat):Int)).tdiv 2=(((w+1) / 2:Nat):Int):=zmG _ 2;refine PW.g (nq2 hm h2) ?_;refine PW.t ?_;refine PW.g (nq2 e1 e2) ?_;exact PW.ret ⟨_,rfl,Fin.now⟩
  ·have h3:w%2=0:=om;have hus:usg w= -((w / 2:Nat):Int):=by unfold usg;rw[if_neg h2]
   rw[hus];have e2:(-(w:Int)).tdiv 2= -((w / 2:Nat):Int):=by rw[Int.neg_tdiv];rfl
   refine PW.g (nq2 hm h3) ?_;refine PW.us ?_;refine PW.f (fun K k=>by simp(disch:=omega) only[go_sem,↓reduceIte,reduceCtorEq,Int.zero_sub,e2];exact k) ?_;exact PW.ret ⟨_,rfl,Fin.now⟩
theorem zeG{x n:Int}(h:win x n=true): -n≤x∧x≤n:=by simpa[win]using h
theorem zrH(x:Int)(H:za):CallOk Tryz.prog 314 [.int .i64 x] H (.bool (win x 4095)) H:=by refine CallOk.go Tryz.func314 Tryz.ntmps314 Tryz.results314 ?_;(repeat'(first|refine PW.seq ?_|refine PW.skip ?_|refine PW.block ?_|((first|refine PW.rg rfl fun K hK=> ?_|refine PW.draw mix kr fun K hK=> ?_);simp(disch:=omega) only[go_sem,↓reduceIte,reduceCtorEq])|((first|refine zh ?_ ?_|refine ze ?_ ?_|refine And.intro ?_ ?_)<;>intro h<;>(try simp only[nqb]at h)<;>simp(disch:=omega) only[go_sem,↓reduceIte,reduceCtorEq,h])|(refine hK _ _ ?_;clear hK K)|(refine PW.cond (t:=_) rfl (fun h=> ?_) (fun h=> ?_)<;>(try(cases h;done))<;>(try simp only[nqb]at h))));all_goals((refine PW.ret ⟨_,rfl,?_⟩;first|refine .inl ⟨?_,rfl⟩|refine Fin.base (.id' ?_ (.bool _))|refine Fin.base (.id' ?_ (.int _ _)));(simp_all[win,slot,Nat.beq]<;>first|rfl|omega|(rw[Bool.eq_iff_iff];simp;done)|(rw[Bool.eq_iff_iff];simp;omega)))
theorem zun(fr:Nat)(H:za)(h:fr≤1):CallOk Tryz.prog 300 [.int .i64 (fr:Int)] H (.bool true) H:=by refine CallOk.go Tryz.func300 Tryz.ntmps300 Tryz.results300 ?_;have h2:fr=0∨fr=1:=om;rcases h2 with rfl|rfl<;>(repeat'(first|refine PW.seq ?_|refine PW.skip ?_|refine PW.block ?_|((first|refine PW.rg rfl fun K hK=> ?_|refine PW.draw mix kr fun K hK=> ?_);simp(disch:=omega) only[go_sem,↓reduceIte,reduceCtorEq])|((first|refine zh ?_ ?_|refine ze ?_ ?_|refine And.intro ?_ ?_)<;>intro h<;>(try simp only[nqb]at h)<;>simp(disch:=omega) only[go_sem,↓reduceIte,reduceCtorEq,h])|(refine hK _ _ ?_;clear hK K)|(refine PW.cond (t:=_) rfl (fun h=> ?_) (fun h=> ?_)<;>(try(cases h;done))<;>(try simp only[nqb]at h))));all_goals((refine PW.ret ⟨_,rfl,?_⟩;first|refine .inl ⟨?_,rfl⟩|refine Fin.base (.id' ?_ (.bool _))|refine Fin.base (.id' ?_ (.int _ _)));rfl)
end Go.Proofs.YtpjlfoficnpfoaaGreatDoor.Sc
namespace Go.Proofs.YtpjlfoficnpfoaaGreatDoor.Pm
set_option linter.all false
open Go.RowKit
variable {P:Program} {C:Ctx} {H K:za} {w:World} {F:Fr} {a:Act} {N:Nat}
def zjn(rs:List (Nat×Nat))(o:Oper):Bool:=match zlJ rs o with|some _=>false|none=> !zE o.op&& !eff o.op
def zgz(ds:List (Option Nat))(rs:List (Nat×Nat))(x o:Oper):Bool:=clear ds x o&&clear ds o x&&zjn rs x&&zjn rs o
def ExT(P:Program)(all:List Oper)(ids:List Nat)(rs:List (Nat×Nat))(o:Oper)(f:Nat→PV)(H:za)(v:PV)(H':za):Prop:=(zbi all f o=some false∧v= .tup []∧H'=H)∨(zbi all f o=some true∧StI P ids rs o f H v H')
theorem ExT.congr{all:List Oper}{ids:List Nat}{rs:List (Nat×Nat)}{o:Oper}{f g:Nat→PV}{v:PV}{H':za}(h:∀ t∈zin (all.map (·.dst)) o,f t=g t)(he:ExT P all ids rs o f H v H'):ExT P all ids rs o g H v H':=by have e1:zbi all f o=zbi all g o:=zcR fun t ht=>h t (List.mem_append.2 (.inr ht));have e2:∀ x∈o.op.operands.toList,ev f x=ev g x:=fun x hx=>zfg fun t ht=>h t (List.mem_append.2 (.inl (ze7 (ht▸hx))));unfold ExT StI at he ⊢;simp only[←e1,←zbz e2,←zhc e2];exact he
theorem ExT.same{all:List Oper}{ids:List Nat}{rs:List (Nat×Nat)}{o:Oper}{f:Nat→PV}{v:PV}{H':za}(hn:zjn rs o=true)(he:ExT P all ids rs o f H v H'):H'=H:=by
 rcases he with⟨_,_,e⟩|⟨_,h⟩
 ·exact e
 unfold zjn at hn;cases hr:zlJ rs o with
 | some p=>rw[hr]at hn;cases hn
 | none=>rw[hr]at hn;simp only[qN,Bool.not_eq_true']at hn;unfold StI at h;rw[zde hn.1]at h;dsimp only at h;unfold zev at h;rw[hr]at h;exact zcD hn.2 h
theorem zwA{all:List Oper}{ids:List Nat}{rs:List (Nat×Nat)}:znA (ExT P all ids rs) (zgz (all.map (·.dst)) rs):=by intro x o f H vx Hx v H1 hc hx ho;unfold zgz at hc;simp only[qN]at hc;obtain⟨⟨⟨c1,c2⟩,c3⟩,c4⟩:=hc;obtain rfl:=hx.same c3;obtain rfl:=ho.same c4;exact⟨H1,ho.congr fun t ht=>zb5 (zbe c1 t ht),hx.congr fun t ht=>(zb5 (zbe c2 t ht)).symm,zgL (f:=f) (u:=vx) (v:=v) (zf2 c1)⟩
theorem zwC{ops:Array Oper}{ids:List Nat}{rs:List (Nat×Nat)}:zrO P N ops (ExT P ops.toList ids rs):=by
 intro o f H v H' C a w hd hw hf he;rcases he with⟨h1,h2,h3⟩|⟨h1,h2⟩
 ·have hwant:=zJ hf h1;rw[qU]at hwant;exact .inl ⟨hwant,h2,h3⟩
 ·have hwant:=zJ hf h1;rw[qU]at hwant;exact .inr ⟨hwant,fun next Q hn=>zfw hd hw hf h2 _ _ hn⟩
theorem zlo{all:List Oper}{ids:List Nat}{rs:List (Nat×Nat)}{K:Fr→za→Prop}:∀(l:List Oper) (F:Fr) (H:za),VOi P false ids [] rs [] (all.map (·.dst)) l (some (F,H)) K→RunG (ExT P all ids rs) l (slot F) H (fun f H'=>∃ F',f=slot F'∧K F' H')
 | [],F,H,h=>⟨F,rfl,h⟩
 | o::r,F,H,h=>by
  simp only[VOi]at h;have go:∀ v H',ExT P all ids rs o (slot F) H v H'→VOi P false ids [] rs [] (all.map (·.dst)) r (some (put F o.dst v,H')) K→RunG (ExT P all ids rs) (o::r) (slot F) H (fun f H'=>∃ F',f=slot F'∧K F' H'):=fun v H' he hr=>by refine⟨v,H',he,?_⟩;rw[←zU];exact zlo r _ _ hr
  cases hc:zE o.op with
  | false=>
   simp only[hc]at h;unfold znM at h;split at h
   ·rw[zcj]at h;exact h.elim
   ·rename_i b hb;cases b with
    | false=>exact go _ _ (.inl ⟨zq all F o hb,rfl,rfl⟩) h
    | true=>
     simp only[cond_true,Bool.not_false,Bool.true_or]at h;split at h
     ·rename_i v H' hp;exact go v H' (.inr ⟨zq all F o hb,by unfold StI;rw[zde hc];exact hp⟩) h
     ·rw[zcj]at h;exact h.elim
  | true=>
   simp only[hc]at h;unfold VCi at h;split at h
   ·exact h.elim
   ·rename_i b hb;cases b with
    | false=>exact go _ _ (.inl ⟨zq all F o hb,rfl,rfl⟩) (h.2 rfl)
    | true=>
     have h:=h.1 rfl;unfold VCj at h;split at h
     ·rename_i fn args hp;obtain⟨v,H',h1,h2⟩:=h;exact go v H' (.inr ⟨zq all F o hb,by unfold StI;rw[hp];exact h1⟩) h2
     ·exact h.elim
theorem PW.drawt{E:Env}{Q:Exit→Fr→za→Prop}{id:Nat}{ops:Array Oper}(ids:List Nat)(rs:List (Nat×Nat))(hm:P.follows .mixedOrders=true)(hd:zjH (zgz (ops.toList.map (·.dst)) rs) E.N ops.toList=true)
  (h:∀ K:Fr→za→Prop,(∀ F' H',Q .normal F' H'→K F' H')→VOi P false ids [] rs [] (ops.toList.map (·.dst)) ops.toList (some (F,H)) K):PW P E (.region id ops true) F H Q:=fun hs C a w hdf hw hf=>by
 refine wp_region_any hm ?_;have hr:=zlo (P:=P) _ _ _ (h (fun F' H'=>Q .normal F' H') fun _ _ h=>h);have hall:∀ i,i<ops.toList.length→zhO (zgz (ops.toList.map (·.dst)) rs) (zgf ops.toList) E.N ops.toList i=true:=by intro i hi;unfold zjH at hd;exact List.all_eq_true.1 hd i (List.mem_range.2 hi)
 refine znu (P:=P) hall zwA zwC ops.size (qD ops.size false) (slot F) H C a w.drew sp ?_ (by rw[zbJ];simp) (by rw[zbJ,zgF];exact hr) hdf hw.drew hf ?_
 ·intro i o ho hl j hj;have hi:i<ops.size:=(Array.getElem?_eq_some_iff.1 ho).1;simp[Array.getD,hi]at hl
 ·rintro C' f' H' a' w' p1 p2 p3 p4 p5 ⟨F',rfl,p6⟩;exact⟨C',F',H',p1.toN _,p2,p3,((Below.refl C.B w).drew).trans p4,p5,p6⟩
theorem VCj.now{ids:List Nat}{fp:Fp}{rs:List (Nat×Nat)}{o:Oper}{K:Fr→za→Prop}{g:FuncId}{args:List PV}{v:PV}{H':za}(h:CallOk P g args H v H')(hc:zk o.op (slot F)=some (g,args))(hk:K (put F o.dst v) H'):VCj P false ids fp rs o F H K:=by unfold VCj;simp only[hc];exact⟨v,H',h,hk⟩
end Go.Proofs.YtpjlfoficnpfoaaGreatDoor.Pm
namespace Go.Proofs.YtpjlfoficnpfoaaGreatDoor.Pm
set_option linter.all false
open Go.RowKit
variable {P:Program} {C:Ctx} {H:za} {w:World} {F:Fr} {a:Act} {N:Nat}
def CallPan(P:Program)(f:FuncId)(args:List PV)(H:za)(ch:List PanicEntry)(H':za):Prop:=
 zaz P f=true∧∀(C:Ctx) (us:List Value) (w:World),WRel C H w→VRels C args us→
  Calls P f us.toArray w fun e w'=>∃ C',CLe C C'∧WRel C' H' w'∧Below C.B w w'∧e= .panicked ch
theorem zcz{all:List Oper}{K:Fr→za→Prop}{D:List Deferred}{rest:List Oper}:∀(l:List Oper) (F:Fr) (H:za),l.all (zI N)=true→zbp P all l K F H→∀(C:Ctx) (a:Act) (w:World),a.defers=D→WRel C H w→FRel C N (slot F) a→
  ∀ Q:Exit→Act→World→Prop,(∀ C' F' H' a' w',CLe C C'→a'.defers=D→WRel C' H' w'→Below C.B w w'→FRel C' N (slot F') a'→K F' H'→wpList P all.toArray Q rest a' w')→wpList P all.toArray Q (l++rest) a w
 | [],F,H,_,h,C,a,w,hd,hw,hf,Q,hQ=>hQ C F H a w (.refl _) hd hw (.refl _ _) hf h
 | o::r,F,H,hall,h,C,a,w,hd,hw,hf,Q,hQ=>by
  simp only[List.all_cons,qN]at hall;simp only[zbp]at h;rw[List.cons_append];split at h
  ·rename_i b hb;have hwant:=zJ hf hb;unfold wpList;cases b with
   | true=>
    rw[if_pos hwant];left;have h1:=h.1 rfl;have step:∀ R,zcp P o (slot F) H R→(∀ v H',R v H'→zbp P all r K (put F o.dst v) H')→o.wp P a w (wpList P all.toArray Q (r++rest)) Q:=fun R he hr=>by refine zbL hall.1 hw hf he _ _ fun C' u w' v H' q0 q1 q2 q3 q4=> ?_;rw[←zU]at q4;refine zcz (D:=D) (rest:=rest) r _ _ hall.2 (hr v H' q0) C' _ w' (by cases ho:o.dst<;>simp[Act.put,hd]) q2 q4 Q ?_;intro C'' F'' H'' a'' w'' p1 p2 p3 p4 p5 p6;exact hQ C'' F'' H'' a'' w'' (q1.trans p1) p2 p3 (q3.trans (by rw[←q1.B];exact p4)) p5 p6
    split at h1
    ·rename_i g args hc;obtain⟨R,hcall,hr⟩:=h1;exact step R (by unfold zcp;rw[hc];exact hcall) hr
    ·rename_i hc;split at h1
     ·rename_i v H' hp;exact step (fun v' H''=>v'=v∧H''=H') (by unfold zcp;rw[hc];exact⟨v,H',hp,rfl,rfl⟩) (fun v' H'' e=>by rw[e.1,e.2];exact h1)
     ·exact h1.elim
   | false=>rw[if_neg (by rw[hwant];simp)];have h2:=h.2 rfl;have q4:=hf.put o.dst (zay hall.1) (VRel.undefV (C:=C));rw[←zU]at q4;exact zcz (D:=D) (rest:=rest) r _ _ hall.2 h2 C _ w (by cases ho:o.dst<;>simp[Act.put,hd]) hw q4 Q hQ
  ·exact h.elim
theorem zeq{o:Oper}{f:Nat→PV}{g:FuncId}{args:List PV}{ch:List PanicEntry}{H':za}(hw:WRel C H w)(hf:FRel C N f a)(hc:zk o.op f=some (g,args))(h:CallPan P g args H ch H')
  (next:Act→World→Prop) (Q:Exit→Act→World→Prop) (hn:∀ C' w',CLe C C'→WRel C' H' w'→Below C.B w w'→FRel C' N f a→Q (.panic ch) a w'):o.wp P a w next Q:=by
 unfold zk at hc;split at hc
 ·rename_i x xs ts ho;split at hc
  ·rename_i f' first captured hfv
   simp only[Option.some.injEq,Prod.mk.injEq]at hc;obtain⟨rfl,rfl⟩:=hc;have hv:=zt hf x;rw[hfv]at hv;obtain⟨us,ws,hl,hl',hR,hR',he⟩:∃ us ws,us.length=first.length∧ws.length=captured.length∧Rel C first us∧Rel C captured ws∧a.eval x= .func (.func f') us.toArray ws.toArray:=by
    generalize a.eval x=q at hv;cases hv with
    | func hl hl' hR hR'=>exact⟨_,_,hl,hl',hR,hR',rfl⟩
   obtain⟨hal,har⟩:=zea hf xs.toList;have hrun:(execOp a.eval o).run P w= .ok (.enter f' (us++xs.toList.map a.eval++ws).toArray) w:=by
    have e1:us.toArray++xs.map a.eval++ws.toArray=(us++xs.toList.map a.eval++ws).toArray:=by apply Array.ext';simp
    simp only[execOp,ho,resolve,he,Deferred.ofValue,invoke,Sem.run_bind,Sem.run_pure,Result.andThen_ok,zcX h.1,e1]
   unfold Oper.wp;rw[hrun,Oper.upon_enter];refine(h.2 C _ w hw ⟨by simp[hl,hl'],Rel.append (by simp[hl]) (Rel.append hl hR har) hR'⟩).mono ?_;rintro e w' ⟨C',q1,q2,q3,rfl⟩;exact hn C' w' q1 q2 q3 (hf.mono q1)
  ·cases hc
 ·cases hc
section rules
variable {E:Env} {Q:Exit→Fr→za→Prop}
theorem PW.region_pan{id:Nat}{ops:Array Oper}(n:Nat)(hd:(ops.toList.take n).all (zI E.N)=true)
  (h:zbp P ops.toList (ops.toList.take n) (fun F' H'=>∃ o r g args ch H'',ops.toList.drop n=o::r∧zbi ops.toList (slot F') o=some true∧zk o.op (slot F')=some (g,args)∧CallPan P g args H' ch H''∧Q (.panic ch) F' H'') F H):
  PW P E (.region id ops false) F H Q:=fun hs C a w hdf hw hf=>by
 refine wp_region_list ?_;have:=zcz (P:=P) (all:=ops.toList) (rest:=ops.toList.drop n) (ops.toList.take n) F H hd h C a w hdf hw hf (Post E C w Q) (fun C' F' H' a' w' p1 p2 p3 p4 p5 p6=>by
  obtain⟨o,r,g,args,ch,H'',e1,e2,e3,e4,e5⟩:=p6;rw[e1];unfold wpList;rw[if_pos (zJ p5 e2)];left;exact zeq p3 p5 e3 e4 _ _ fun C'' w'' r1 r2 r3 r4=>⟨C'',F',H'',(p1.trans r1).toN _,p2,r2,p4.trans (by rw[←p1.B];exact r3),r4,e5⟩)
 rw[qK]at this;simpa using this
end rules
def zxq(H:za)(Hout:za)(H':za):Prop:=H'=Hout∨(∃ K,H'=H++K∧Hout=H)∨(HSc H→H.length≤Hout.length∧CutH H' Hout)
def zwT(ch:List PanicEntry)(H Hout:za):Exit→Fr→za→Prop
 | .panic ch',_,H'=>ch'=ch∧zxq H Hout H'
 | _,_,_=>False
theorem CallPan.intro{f:FuncId}{fn:Func}{c:Code}{args:List PV}{ch:List PanicEntry}{Hout:za}(hf:P.funcs[f]? =some fn)(hb:fn.body=some c)(hcall:zaz P f=true)(hn:args.length≤fn.ntmps)
  (h:PW P ⟨fn.ntmps,H⟩ c (zbM args 0) H (zwT ch H Hout)):CallPan P f args H ch Hout:=by
 refine⟨hcall,fun C us w hw hargs=>calls_of_wp hf hb ?_⟩;have hfr:FRel C fn.ntmps (slot (zbM args 0)) { tmps:=us.toArray++qD (fn.ntmps - us.toArray.size) Go.undef,defers:=[] }:=by
  refine⟨by simp[hargs.1];omega,fun t=> ?_⟩;rw[zcJ];simp only[qW,if_true,Nat.sub_zero];by_cases ht:t<args.length
  ·have htu:t<us.length:=by rw[hargs.1];exact ht
   have e1:args.getD t .undef=args[t]:=by simp[qQ,ht]
   have e2:(us.toArray++qD (fn.ntmps - us.toArray.size) Go.undef).getD t Go.undef=us[t]:=by rw[qO,qP (by simpa using htu)];simp[htu]
   rw[e1,e2];exact hargs.2 t _ _ (qE ht) (qE htu)
  ·have e1:args.getD t .undef= .undef:=by simp[qQ,qT (by omega:args.length≤t)]
   rw[e1];exact .undef _
 refine wp_mono (h hw.hsc C _ w rfl hw hfr) ?_;rintro e a' w' ⟨C',F',H',q1,q2,q3,q4,q5,q6⟩;have q1':=q1.full hw.lenv;cases e with
 | panic ch'=>
  obtain⟨rfl,hp⟩:=q6;refine⟨q2,?_⟩;rcases hp with rfl|⟨K,rfl,rfl⟩|hp
  ·exact⟨C',q1',q3,q4,rfl⟩
  ·obtain⟨g1,g2⟩:=WRel.give hw q1' q3;exact⟨_,g1,g2,q4,rfl⟩
  ·obtain⟨hlen,hcut⟩:=hp hw.hsc;obtain⟨g1,g2⟩:=q3.cutN hcut;exact⟨_,(q1.trans (g1.less hlen)).full hw.lenv,g2,q4,rfl⟩
 | _=>exact q6.elim
theorem CallPan.body{f:FuncId}{fn:Func}{c:Code}{F0:Fr}{args:List PV}{ch:List PanicEntry}{Hout:za}(hf:P.funcs[f]? =some fn)(hb:fn.body=some c)(hN:fn.ntmps=N)(hF:zbM args 0=F0)
  (hcall:zaz P f=true) (hn:Nat.ble args.length N=true) (h:PW P ⟨N,H⟩ c F0 H (zwT ch H Hout)):CallPan P f args H ch Hout:=by
 subst hN hF;exact CallPan.intro hf hb hcall (qC hn) h
end Go.Proofs.YtpjlfoficnpfoaaGreatDoor.Pm
namespace Go.Proofs.YtpjlfoficnpfoaaGreatDoor.Pm
set_option linter.all false
open Go.RowKit
variable {P:Program} {C:Ctx} {H:za} {w:World} {F:Fr} {a:Act} {N:Nat}
def pnc(ty:TypeId)(k:IntKind)(e:Int):List PanicEntry:=[{ v:=.iface ty (.agg #[.int k e]),recovered:=false }]
theorem zrI{C:Ctx}{k:IntKind}{e:Int}{u:Value}(h:VRel C (.agg [.int k e]) u):u= .agg #[.int k e]:=by
 cases h with
 | agg hl hc hR=>
  rename_i us
  match us,hl with
  | [y],_=>have:=hR 0 _ _ rfl rfl;cases this;rfl
section rules
variable {E:Env} {Q:Exit→Fr→za→Prop}
theorem PW.raise{id:Nat}{ops:Array Oper}(n:Nat){s d:Nat}{ty:TypeId}{k:IntKind}{e:Int}(hd:(ops.toList.take n).all (zI E.N)=true)(hdN:d<E.N)(hty:P.concrete ty=true)
  (h:zbp P ops.toList (ops.toList.take n) (fun F' H'=>∃ o1 o2 r,ops.toList.drop n=o1::o2::r∧o1.guard=none∧o2.guard=none∧o1.op= .makeInterface ty (.tmp s)∧o1.dst=some d∧o2.op= .panic (.tmp d)∧slot F' s= .agg [.int k e]∧Q (.panic (pnc ty k e)) (put F' (some d) .undef) H') F H):
  PW P E (.region id ops false) F H Q:=fun hs C a w hdf hw hf=>by
 refine wp_region_list ?_;have:=zcz (P:=P) (all:=ops.toList) (rest:=ops.toList.drop n) (ops.toList.take n) F H hd h C a w hdf hw hf (Post E C w Q) (fun C' F' H' a' w' p1 p2 p3 p4 p5 p6=>by
  obtain⟨o1,o2,r,e1,g1,g2,x1,d1,x2,hsl,hq⟩:=p6;rw[e1];have hv:=p5.2 s;rw[hsl]at hv;have hu:=zrI hv;have hsz:=p5.1;have w1:∀ a0:Act,Region.wanted o1 (yielded ops.toList.toArray a0.tmps)=true:=fun a0=>by simp[Region.wanted,g1]
  have w2:∀ a0:Act,Region.wanted o2 (yielded ops.toList.toArray a0.tmps)=true:=fun a0=>by simp[Region.wanted,g2]
  have r1:(execOp a'.eval o1).run P w'= .ok (.value (.iface ty (.agg #[.int k e]))) w':=by simp only[execOp,x1];have:a'.eval (.tmp s)= .agg #[.int k e]:=hu;rw[this];simp only[Sem.run_bind,run_makeInterface _ _ _ hty,Result.andThen_ok,Sem.run_pure]
  unfold wpList;rw[if_pos (w1 _)];left;unfold Oper.wp;rw[r1,Oper.upon_value];unfold wpList;rw[if_pos (w2 _)];left;have hlt:d<a'.tmps.size:=om;have r2:(execOp (a'.put o1.dst (.iface ty (.agg #[.int k e]))).eval o2).run P w'= .halt (.panic (.iface ty (.agg #[.int k e]))) w':=by
   simp only[execOp,x2];have:(a'.put o1.dst (.iface ty (.agg #[.int k e]))).eval (.tmp d)= .iface ty (.agg #[.int k e]):=by rw[d1];simp[Act.put,Act.eval,hlt]
   rw[this];simp only[Sem.run_bind,run_panic_iface,Result.andThen_halt]
  unfold Oper.wp;rw[r2,Oper.upon_panic];have q4:=p5.put (some d) (fun t ht=>by injection ht with ht;omega) (VRel.undef (C:=C') (.iface ty (.agg #[.int k e])));rw[←zU]at q4;exact⟨C',_,H',p1.toN _,by rw[d1];simpa[Act.put]using p2,p3,p4,by rw[d1];exact q4,hq⟩)
 rw[qK]at this;simpa using this
theorem PW.raiseV{id:Nat}{ops:Array Oper}(n:Nat){s d:Nat}{ty:TypeId}{k:IntKind}{e:Int}(hd:(ops.toList.take n).all (zI E.N)=true)
  (hs:∃ o1 o2 r,ops.toList.drop n=o1::o2::r∧o1.guard=none∧o2.guard=none∧o1.op= .makeInterface ty (.tmp s)∧o1.dst=some d∧o2.op= .panic (.tmp d)) (hdN:d<E.N) (hty:P.concrete ty=true)
  (h:∀ K:Fr→za→Prop,(∀ F' H',slot F' s= .agg [.int k e]→Q (.panic (pnc ty k e)) (put F' (some d) .undef) H'→K F' H')→VO P (ops.toList.map (·.dst)) (ops.toList.take n) (some (F,H)) K):PW P E (.region id ops false) F H Q:=by
 obtain⟨o1,o2,r,e1,e2,e3,e4,e5,e6⟩:=hs;exact PW.raise n hd hdN hty (zao _ _ _ (h _ fun F' H' h1 h2=>⟨o1,o2,r,e1,e2,e3,e4,e5,e6,h1,h2⟩))
theorem PW.panV{id:Nat}{ops:Array Oper}(n:Nat){o:Oper}(hd:(ops.toList.take n).all (zI E.N)=true)(hs:∃ o' r,ops.toList.drop n=o'::r∧(o'=o∧o'.guard=none))
  (h:∀ K:Fr→za→Prop,(∀ F' H' g args ch H'',zk o.op (slot F')=some (g,args)→CallPan P g args H' ch H''→Q (.panic ch) F' H''→K F' H')→VO P (ops.toList.map (·.dst)) (ops.toList.take n) (some (F,H)) K):PW P E (.region id ops false) F H Q:=by
 obtain⟨o',r,e1,rfl,e2⟩:=hs;exact PW.region_pan n hd (zao _ _ _ (h _ fun F' H' g args ch H'' h1 h2 h3=>⟨o',r,g,args,ch,H'',e1,by unfold zbi;rw[e2],h1,h2,h3⟩))
end rules
end Go.Proofs.YtpjlfoficnpfoaaGreatDoor.Pm
namespace Go.Proofs.YtpjlfoficnpfoaaGreatDoor.Sc
set_option linter.all false
open Pm Ty Go.RowKit
def tkB(q:List UInt8)(n:Nat):Nat→Nat→Nat→List Int→Rr (List Int)
 | 0,_,a,_=>.er 2 a
 | f+1,p,a,l=>(tkU q n a).bind fun v a1=>if v=0 then .ok l a1 else if 64<p+v then .er 2 a1 else
  (tkS q n a1).bind fun w a2=>if w=0 then .er 2 a2 else if win w 4095=false then .er 2 a2 else tkB q n f (p+v) a2 (l.set (p+v - 1) w)
def z64:List Int:=List.replicate 64 0
def zdo(q:List UInt8)(n fr a:Nat):Rr (List Int):=tkB q n 65 fr a z64
theorem zeO{q:List UInt8}{n:Nat}:∀(f p a:Nat) (l:List Int) {l':List Int} {a':Nat},tkB q n f p a l= .ok l' a'→a≤n→a<a'∧a'≤n∧l'.length=l.length
 | 0,p,a,l,l',a',h,ha=>by simp[tkB]at h
 | f+1,p,a,l,l',a',h,ha=>by
  simp only[tkB]at h;cases hu:tkU q n a with
  | er e a1=>rw[hu]at h;cases h
  | ok v a1=>
   have b1:=zdh hu ha;rw[hu,Rr.bind_ok]at h;split at h
   ·injection h with h1 h2;subst h1 h2;exact⟨b1.2.1,b1.2.2,rfl⟩
   ·split at h
    ·cases h
    ·cases hv:tkS q n a1 with
     | er e a2=>rw[hv]at h;cases h
     | ok w a2=>
      have b2:=zcn hv b1.2.2;rw[hv,Rr.bind_ok]at h;split at h
      ·cases h
      ·split at h
       ·cases h
       ·have:=zeO f (p+v) a2 _ h b2.2.2;rw[qA]at this;exact⟨om,this.2.1,this.2.2⟩
theorem zkk{q:List UInt8}{n:Nat}:∀(f p a:Nat) (l:List Int) {e a':Nat},tkB q n f p a l= .er e a'→a≤n→a≤a'∧a'≤n∧e≤3
 | 0,p,a,l,e,a',h,ha=>by
  simp only[tkB]at h;injection h with h1 h2;omega
 | f+1,p,a,l,e,a',h,ha=>by
  simp only[tkB]at h;cases hu:tkU q n a with
  | er e1 a1=>
   rw[hu]at h;have:=zf7 hu;injection h with h1 h2;omega
  | ok v a1=>
   have b1:=zdh hu ha;rw[hu,Rr.bind_ok]at h;split at h
   ·cases h
   ·split at h
    ·injection h with h1 h2;omega
    ·cases hv:tkS q n a1 with
     | er e2 a2=>
      rw[hv]at h;have:=zeL hv;injection h with h1 h2;omega
     | ok w a2=>
      have b2:=zcn hv b1.2.2;rw[hv,Rr.bind_ok]at h;split at h
      ·injection h with h1 h2;omega
      ·split at h
       ·injection h with h1 h2;omega
       ·have:=zkk f (p+v) a2 _ h b2.2.2;omega
def bpn(e:Nat):List PanicEntry:=pnc 362 .i64 ((e:Int)+1)
theorem zm4(v:Int)(H:za):CallOk Tryz.prog 313 [.int .i64 v,.int .i64 0] H (.int .i64 v) H:=by refine CallOk.go Tryz.func313 Tryz.ntmps313 Tryz.results313 ?_;(repeat'(first|refine PW.seq ?_|refine PW.skip ?_|refine PW.block ?_|((first|refine PW.rg rfl fun K hK=> ?_|refine PW.draw mix kr fun K hK=> ?_);simp(disch:=omega) only[go_sem,↓reduceIte,reduceCtorEq])|((first|refine zh ?_ ?_|refine ze ?_ ?_|refine And.intro ?_ ?_)<;>intro h<;>(try simp only[nqb]at h)<;>simp(disch:=omega) only[go_sem,↓reduceIte,reduceCtorEq,h])|(refine hK _ _ ?_;clear hK K)|(refine PW.cond (t:=_) rfl (fun h=> ?_) (fun h=> ?_)<;>(try(cases h;done))<;>(try simp only[nqb]at h))));all_goals exact PW.ret ⟨_,rfl,Fin.now⟩
theorem zkY(e:Nat)(H:za):CallPan Tryz.prog 313 [.int .i64 0,.int .i64 ((e:Int)+1)] H (bpn e) H:=by
 have d:((e:Int)+1 !=0)=true:=by simp;omega
 refine CallPan.body (F0:=[(0,.int .i64 0),(1,.int .i64 ((e:Int)+1))]) Tryz.func313 rfl Tryz.ntmps313 rfl kr rfl ?_;refine PW.e ?_;refine PW.g d ?_;refine PW.t ?_;(repeat refine PW.seq ?_);refine PW.raiseV (k:=.i64) (e:=(e:Int)+1) 2 rfl ⟨_,_,_,rfl,rfl,rfl,rfl,rfl,rfl⟩ (qC rfl) kr fun K hK=> ?_;simp(disch:=omega) only[go_sem,↓reduceIte,reduceCtorEq];refine hK _ _ rfl ?_;clear hK K;exact⟨rfl,.inl rfl⟩
def rdH(H:za)(i:Nat)(p:List UInt8)(n a:Nat)(l:List Int):za:=H.set i (rA p n a)++[⟨146,0,is z64⟩,⟨146,0,is l⟩]
section
variable (H:za) (i:Nat) (p:List UInt8) (n a:Nat) (l:List Int)
theorem zmN(hi:i<H.length):(rdH H i p n a l)[i]? =some (rA p n a):=by unfold rdH;rw[List.getElem?_append_left (by simpa using hi)];simp[hi]
theorem zfD(hi:i<H.length)(a':Nat):(rdH H i p n a l).set i (rA p n a')=rdH H i p n a' l:=by unfold rdH;rw[qF _ _ (by simpa using hi),qM]
theorem zwL:(rdH H i p n a l)[H.length]? =some ⟨146,0,is z64⟩:=by have:=hp0 (H.set i (rA p n a)) [⟨146,0,is l⟩] ⟨146,0,is z64⟩;rwa[qA]at this
theorem zg8:(rdH H i p n a l)[H.length+1]? =some ⟨146,0,is l⟩:=by have:=hp1 (H.set i (rA p n a)) [] ⟨146,0,is z64⟩ ⟨146,0,is l⟩;rwa[qA]at this
theorem zpQ(l':List Int):(rdH H i p n a l).set (H.length+1) ⟨146,0,is l'⟩=rdH H i p n a l':=by have:=hs1 (H.set i (rA p n a)) [] ⟨146,0,is z64⟩ ⟨146,0,is l⟩ ⟨146,0,is l'⟩;rwa[qA]at this
theorem zu6(l':List Int):(rdH H i p n a l).set H.length ⟨146,0,is l'⟩=H.set i (rA p n a)++[⟨146,0,is l'⟩,⟨146,0,is l⟩]:=by have:=hs0 (H.set i (rA p n a)) [⟨146,0,is l⟩] ⟨146,0,is z64⟩ ⟨146,0,is l'⟩;rwa[qA]at this
end
theorem zg7(H:za)(i:Nat)(p:List UInt8)(n a:Nat)(l:List Int):zxq H (H.set i (rA p n a)) (rdH H i p n a l):=.inr (.inr fun h=>⟨by simp,CutH.base (zdN _ _ _ _ _ h)⟩)
set_option maxHeartbeats 1000000 in
theorem zpP(i:Nat)(p:List UInt8)(n a fr e a':Nat)(H:za)(hA:H[i]? =some (rA p n a))(ha:a≤n)(hn:n≤8 * p.length)(hp:p.length≤100000000)(hfr:fr≤1)(hr:zdo p n fr a= .er e a'):
  CallPan Tryz.prog 302 [.ptr i 0 0,.int .i64 (fr:Int)] H (bpn e) (H.set i (rA p n a')):=by
 have hi:=(qB.1 hA).1;have hself:=zO hA;have al:=fun x K=>zrH x K;have mo:=fun v K=>zm4 v K;have mp:=fun e K=>zkY e K;refine CallPan.body (F0:=[(0,.ptr i 0 0),(1,.int .i64 (fr:Int))]) Tryz.func302 rfl Tryz.ntmps302 rfl kr rfl ?_;refine PW.e ?_;refine PW.e ?_;refine PW.e ?_;refine PW.l ?_;suffices hl:∀(f at' a:Nat) (l:List Int),at'≤64→64 - at'<f→a≤n→l.length=64→tkB p n f at' a l= .er e a'→PL Tryz.prog _ _ [(0,.ptr i 0 0),(4,.ptr H.length 0 0),(5,.ptr (H.length+1) 0 0),(6,.int .i64 ((at':Int) - 1))] (rdH H i p n a l) _ by exact PL.at [0,4,5,6] (hl 65 fr a z64 om om ha (by simp[z64]) hr) rfl (by unfold rdH;rw[hself];rfl)
 clear hr hself hA ha;intro f;induction f with
 | zero=>intro at' a l h1 h2;omega
 | succ f ih=>
  intro at' a l h1 h2 ha hll hr;have tu:=ziR i p n a (rdH H i p n a l) (zmN H i p n a l hi) ha hn hp;simp only[tkB]at hr;refine PL.round ?_;refine PW.b ?_;cases hu:tkU p n a with
  | er e1 a1=>
   rw[hu,Rr.bind_er]at hr;injection hr with r1 r2;subst r1 r2;rw[hu]at tu;simp only[rvU,Rr.at,zfD _ _ _ _ _ _ hi]at tu;(repeat refine PW.seq ?_);refine PW.panV 4 rfl ⟨_,_,rfl,rfl,rfl⟩ fun K hK=> ?_;simp(disch:=omega) only[go_sem,↓reduceIte,reduceCtorEq];refine VCx.call (tu) rfl ?_;simp(disch:=omega) only[go_sem,↓reduceIte,reduceCtorEq];exact hK _ _ _ _ _ _ rfl (mp _ _) ⟨rfl,zg7 ..⟩
  | ok v a1=>
   have b1:=zdh hu ha;rw[hu,Rr.bind_ok]at hr;rw[hu]at tu;simp only[rvU,Rr.at,zfD _ _ _ _ _ _ hi]at tu;have hv0:¬ v=0:=fun e0=>by rw[if_pos e0]at hr;cases hr
   rw[if_neg hv0]at hr;have d1:((v:Int)==0)=false:=by rw[beq_eq_false_iff_ne];omega
   (repeat refine PW.seq ?_);refine PW.rg rfl fun K hK=> ?_;simp(disch:=omega) only[go_sem,↓reduceIte,reduceCtorEq];refine VCx.call (tu) rfl ?_;simp(disch:=omega) only[go_sem,↓reduceIte,reduceCtorEq];refine VCx.call (mo _ _) rfl ?_;simp(disch:=omega) only[go_sem,↓reduceIte,reduceCtorEq];refine hK _ _ ?_;clear hK K;refine PW.g d1 ?_;refine PW.us ?_;refine PW.e ?_;have e1:(at':Int) - 1+(v:Int)=((at'+v:Nat):Int) - 1:=om;by_cases h64:64<at'+v
   ·rw[if_pos h64]at hr;injection hr with r1 r2;subst r1 r2;have d2:decide ((64:Int)≤((at'+v:Nat):Int) - 1)=true:=decide_eq_true om;refine PW.g (nq2 e1 d2) ?_;refine PW.t ?_;(repeat refine PW.seq ?_);refine PW.raiseV (k:=.i64) (e:=3) 1 rfl ⟨_,_,_,rfl,rfl,rfl,rfl,rfl,rfl⟩ (qC rfl) kr fun K hK=> ?_;simp(disch:=omega) only[go_sem,↓reduceIte,reduceCtorEq];refine hK _ _ rfl ?_;clear hK K;exact⟨rfl,zg7 ..⟩
   rw[if_neg h64]at hr;have d2:decide ((64:Int)≤((at'+v:Nat):Int) - 1)=false:=decide_eq_false om;refine PW.g (nq2 e1 d2) ?_;refine PW.us ?_;have ts:=ziS i p n a1 (rdH H i p n a1 l) (zmN H i p n a1 l hi) b1.2.2 hn hp;cases hw:tkS p n a1 with
   | er e2 a2=>
    rw[hw,Rr.bind_er]at hr;injection hr with r1 r2;subst r1 r2;rw[hw]at ts;simp only[rvS,Rr.at,zfD _ _ _ _ _ _ hi]at ts;(repeat refine PW.seq ?_);refine PW.panV 5 rfl ⟨_,_,rfl,rfl,rfl⟩ fun K hK=> ?_;simp(disch:=omega) only[go_sem,↓reduceIte,reduceCtorEq];refine VCx.call (ts) rfl ?_;simp(disch:=omega) only[go_sem,↓reduceIte,reduceCtorEq];exact hK _ _ _ _ _ _ rfl (mp _ _) ⟨rfl,zg7 ..⟩
   | ok w a2=>
    have b2:=zcn hw b1.2.2;rw[hw,Rr.bind_ok]at hr;rw[hw]at ts;simp only[rvS,Rr.at,zfD _ _ _ _ _ _ hi]at ts;have e3:((at'+v:Nat):Int) - 1=((at'+v - 1:Nat):Int):=om;have hil:(is l).length=64:=by rw[zar,hll]
    (repeat refine PW.seq ?_);refine PW.rg rfl fun K hK=> ?_;simp(disch:=omega) only[go_sem,↓reduceIte,reduceCtorEq];refine VCx.call (ts) rfl ?_;simp(disch:=omega) only[go_sem,↓reduceIte,reduceCtorEq];refine VCx.call (mo _ _) rfl ?_;simp(disch:=omega) only[go_sem,↓reduceIte,reduceCtorEq,e1,e3,zg8,hil,zjy,zpQ];refine hK _ _ ?_;clear hK K;have hgl:(is (l.set (at'+v - 1) w))[at'+v - 1]? =some (.int .i64 w):=by rw[zqS _ _ (by rw[qA];omega)];simp[zk6,hll,show at'+v - 1<64 from om]
    have hil2:(is (l.set (at'+v - 1) w)).length=64:=by rw[zar,qA,hll]
    by_cases hw0:w=0
    ·rw[if_pos hw0]at hr;injection hr with r1 r2;subst r1 r2;have d3:(w==0)=true:=by simp[hw0]
     refine PW.f (fun K k=>by simp(disch:=omega) only[go_sem,↓reduceIte,reduceCtorEq,e1,e3,zg8,hil2,hgl,d3];exact k) ?_;refine PW.t ?_;(repeat refine PW.seq ?_);refine PW.raiseV (k:=.i64) (e:=3) 1 rfl ⟨_,_,_,rfl,rfl,rfl,rfl,rfl,rfl⟩ (qC rfl) kr fun K hK=> ?_;simp(disch:=omega) only[go_sem,↓reduceIte,reduceCtorEq];refine hK _ _ rfl ?_;clear hK K;exact⟨rfl,zg7 ..⟩
    ·rw[if_neg hw0]at hr;have d3:(w==0)=false:=by simp[hw0]
     have alw:=fun K=>al w K;cases hwn:win w 4095 with
     | false=>
      rw[hwn,if_pos rfl]at hr;rw[hwn]at alw;injection hr with r1 r2;subst r1 r2;(repeat refine PW.seq ?_);refine PW.rg rfl fun K hK=> ?_;simp(disch:=omega) only[go_sem,↓reduceIte,reduceCtorEq,e1,e3,zg8,hil2,hgl,d3];refine VCx.call (alw _) rfl ?_;simp(disch:=omega) only[go_sem,↓reduceIte,reduceCtorEq];refine hK _ _ ?_;clear hK K;refine PW.t ?_;(repeat refine PW.seq ?_);refine PW.raiseV (k:=.i64) (e:=3) 1 rfl ⟨_,_,_,rfl,rfl,rfl,rfl,rfl,rfl⟩ (qC rfl) kr fun K hK=> ?_;simp(disch:=omega) only[go_sem,↓reduceIte,reduceCtorEq];refine hK _ _ rfl ?_;clear hK K;exact⟨rfl,zg7 ..⟩
     | true=>rw[hwn,if_neg (by decide)]at hr;rw[hwn]at alw;(repeat refine PW.seq ?_);refine PW.rg rfl fun K hK=> ?_;simp(disch:=omega) only[go_sem,↓reduceIte,reduceCtorEq,e1,e3,zg8,hil2,hgl,d3];refine VCx.call (alw _) rfl ?_;simp(disch:=omega) only[go_sem,↓reduceIte,reduceCtorEq];refine hK _ _ ?_;clear hK K;refine PW.us ?_;exact PL.at [0,4,5,6] (ih (at'+v) a2 _ om om b2.2.2 (by rw[qA,hll]) hr) (by simp[kp,slot,Nat.beq];omega) rfl
set_option maxHeartbeats 1000000 in
theorem zsq(i:Nat)(p:List UInt8)(n a fr a':Nat)(l':List Int)(H:za)(hA:H[i]? =some (rA p n a))(ha:a≤n)(hn:n≤8 * p.length)(hp:p.length≤100000000)(hfr:fr≤1)(hr:zdo p n fr a= .ok l' a'):
  CallOk Tryz.prog 302 [.ptr i 0 0,.int .i64 (fr:Int)] H (.agg (is l')) (H.set i (rA p n a')):=by
 have hi:=(qB.1 hA).1;have hself:=zO hA;have al:=fun x K=>zrH x K;have mo:=fun v K=>zm4 v K;have mp:=fun e K=>zkY e K;refine CallOk.go Tryz.func302 Tryz.ntmps302 Tryz.results302 ?_;refine PW.e ?_;refine PW.e ?_;refine PW.e ?_;refine PW.l ?_;suffices hl:∀(f at' a:Nat) (l:List Int),at'≤64→64 - at'<f→a≤n→l.length=64→tkB p n f at' a l= .ok l' a'→PL Tryz.prog _ _ [(0,.ptr i 0 0),(4,.ptr H.length 0 0),(5,.ptr (H.length+1) 0 0),(6,.int .i64 ((at':Int) - 1))] (rdH H i p n a l) _ by exact PL.at [0,4,5,6] (hl 65 fr a z64 om om ha (by simp[z64]) hr) rfl (by unfold rdH;rw[hself];rfl)
 clear hr hself hA ha;intro f;induction f with
 | zero=>intro at' a l h1 h2;omega
 | succ f ih=>
  intro at' a l h1 h2 ha hll hr;have tu:=ziR i p n a (rdH H i p n a l) (zmN H i p n a l hi) ha hn hp;simp only[tkB]at hr;refine PL.round ?_;refine PW.b ?_;cases hu:tkU p n a with
  | er e1 a1=>
   rw[hu,Rr.bind_er]at hr;cases hr
  | ok v a1=>
   have b1:=zdh hu ha;rw[hu,Rr.bind_ok]at hr;rw[hu]at tu;simp only[rvU,Rr.at,zfD _ _ _ _ _ _ hi]at tu;by_cases hv0:v=0
   ·rw[if_pos hv0]at hr;injection hr with r1 r2;subst r1 r2;have d1:((v:Int)==0)=true:=by simp[hv0]
    (repeat refine PW.seq ?_);refine PW.rg rfl fun K hK=> ?_;simp(disch:=omega) only[go_sem,↓reduceIte,reduceCtorEq];refine VCx.call (tu) rfl ?_;simp(disch:=omega) only[go_sem,↓reduceIte,reduceCtorEq];refine VCx.call (mo _ _) rfl ?_;simp(disch:=omega) only[go_sem,↓reduceIte,reduceCtorEq];refine hK _ _ ?_;clear hK K;refine PW.g d1 ?_;refine PW.t ?_;have hil:(is l).length=64:=by rw[zar,hll]
    have hz:(is z64).length=64:=by rw[zar];simp[z64]
    have htk:List.take 64 (is l)=is l:=qI om;have hcel:=zaR l;have hdz:List.drop 64 (is z64)=[]:=qJ om;have hg0:(H.set i (rA p n a1)++[⟨146,0,is l⟩,⟨146,0,is l⟩])[H.length]? =some ⟨146,0,is l⟩:=by have:=hp0 (H.set i (rA p n a1)) [⟨146,0,is l⟩] ⟨146,0,is l⟩;rwa[qA]at this
    refine PW.f (fun K k=>by simp(disch:=omega) only[go_sem,↓reduceIte,reduceCtorEq,zg8,zwL,hil,hz,htk,hcel,hdz,zu6];exact k) ?_;refine PW.w (.agg (is l)) (nq2 hg0 (nq2 hil htk)) ?_;exact Fin.cut rfl sp (zdN _ _ _ _ _) (.id (zaB (zcH _ _)))
   rw[if_neg hv0]at hr;have d1:((v:Int)==0)=false:=by rw[beq_eq_false_iff_ne];omega
   (repeat refine PW.seq ?_);refine PW.rg rfl fun K hK=> ?_;simp(disch:=omega) only[go_sem,↓reduceIte,reduceCtorEq];refine VCx.call (tu) rfl ?_;simp(disch:=omega) only[go_sem,↓reduceIte,reduceCtorEq];refine VCx.call (mo _ _) rfl ?_;simp(disch:=omega) only[go_sem,↓reduceIte,reduceCtorEq];refine hK _ _ ?_;clear hK K;refine PW.g d1 ?_;refine PW.us ?_;refine PW.e ?_;have e1:(at':Int) - 1+(v:Int)=((at'+v:Nat):Int) - 1:=om;by_cases h64:64<at'+v
   ·rw[if_pos h64]at hr;cases hr
   rw[if_neg h64]at hr;have d2:decide ((64:Int)≤((at'+v:Nat):Int) - 1)=false:=decide_eq_false om;refine PW.g (nq2 e1 d2) ?_;refine PW.us ?_;have ts:=ziS i p n a1 (rdH H i p n a1 l) (zmN H i p n a1 l hi) b1.2.2 hn hp;cases hw:tkS p n a1 with
   | er e2 a2=>
    rw[hw,Rr.bind_er]at hr;cases hr
   | ok w a2=>
    have b2:=zcn hw b1.2.2;rw[hw,Rr.bind_ok]at hr;rw[hw]at ts;simp only[rvS,Rr.at,zfD _ _ _ _ _ _ hi]at ts;have e3:((at'+v:Nat):Int) - 1=((at'+v - 1:Nat):Int):=om;have hil:(is l).length=64:=by rw[zar,hll]
    (repeat refine PW.seq ?_);refine PW.rg rfl fun K hK=> ?_;simp(disch:=omega) only[go_sem,↓reduceIte,reduceCtorEq];refine VCx.call (ts) rfl ?_;simp(disch:=omega) only[go_sem,↓reduceIte,reduceCtorEq];refine VCx.call (mo _ _) rfl ?_;simp(disch:=omega) only[go_sem,↓reduceIte,reduceCtorEq,e1,e3,zg8,hil,zjy,zpQ];refine hK _ _ ?_;clear hK K;have hgl:(is (l.set (at'+v - 1) w))[at'+v - 1]? =some (.int .i64 w):=by rw[zqS _ _ (by rw[qA];omega)];simp[zk6,hll,show at'+v - 1<64 from om]
    have hil2:(is (l.set (at'+v - 1) w)).length=64:=by rw[zar,qA,hll]
    by_cases hw0:w=0
    ·rw[if_pos hw0]at hr;cases hr
    ·rw[if_neg hw0]at hr;have d3:(w==0)=false:=by simp[hw0]
     have alw:=fun K=>al w K;cases hwn:win w 4095 with
     | false=>
      rw[hwn,if_pos rfl]at hr;cases hr
     | true=>rw[hwn,if_neg (by decide)]at hr;rw[hwn]at alw;(repeat refine PW.seq ?_);refine PW.rg rfl fun K hK=> ?_;simp(disch:=omega) only[go_sem,↓reduceIte,reduceCtorEq,e1,e3,zg8,hil2,hgl,d3];refine VCx.call (alw _) rfl ?_;simp(disch:=omega) only[go_sem,↓reduceIte,reduceCtorEq];refine hK _ _ ?_;clear hK K;refine PW.us ?_;exact PL.at [0,4,5,6] (ih (at'+v) a2 _ om om b2.2.2 (by rw[qA,hll]) hr) (by simp[kp,slot,Nat.beq];omega) rfl
end Go.Proofs.YtpjlfoficnpfoaaGreatDoor.Sc
namespace Go.Proofs.YtpjlfoficnpfoaaGreatDoor.Pm
set_option linter.all false
open Go.RowKit
variable {P:Program} {C:Ctx} {H:za} {w:World} {F:Fr} {a:Act} {N:Nat}
theorem zls{all:Array Oper}{o:Oper}{rest:List Oper}{v:PV}{H':za}{Q:Exit→Act→World→Prop}(hw:WRel C H w)(hf:FRel C N (slot F) a)(hd:zI N o=true)(hg:o.guard=none)(hp:zk o.op (slot F)=none)(he:pop P o.op (slot F) H=some (v,H'))
  (hn:∀ C' u w',CLe C C'→WRel C' H' w'→Below C.B w w'→FRel C' N (slot (put F o.dst v)) (a.put o.dst u)→wpList P all Q rest (a.put o.dst u) w'):wpList P all Q (o::rest) a w:=by
 unfold wpList;rw[if_pos (by simp[Region.wanted,hg])];left;refine zbL hd hw hf (R:=fun v' H''=>v'=v∧H''=H') (by unfold zcp;rw[hp];exact⟨v,H',he,rfl,rfl⟩) _ _ fun C' u w' v' H'' q0 q1 q2 q3 q4=> ?_;obtain⟨rfl,rfl⟩:=q0;rw[←zU]at q4;exact hn C' u w' q1 q2 q3 q4
theorem ziL{all:Array Oper}{o:Oper}{rest:List Oper}{u:Value}{Q:Exit→Act→World→Prop}(hg:o.guard=none)(he:(execOp a.eval o).run P w= .ok (.value u) w)(hn:wpList P all Q rest (a.put o.dst u) w):wpList P all Q (o::rest) a w:=by unfold wpList;rw[if_pos (by simp[Region.wanted,hg])];left;unfold Oper.wp;rw[he,Oper.upon_value];exact hn
theorem zol{args:List PV}{us:List Value}(hargs:VRels C args us)(hn:args.length≤N):FRel C N (slot (zbM args 0)) { tmps:=us.toArray++qD (N - us.toArray.size) Go.undef,defers:=[] }:=by
 refine⟨by simp[hargs.1];omega,fun t=> ?_⟩;rw[zcJ];simp only[qW,if_true,Nat.sub_zero];by_cases ht:t<args.length
 ·have htu:t<us.length:=by rw[hargs.1];exact ht
  have e1:args.getD t .undef=args[t]:=by simp[qQ,ht]
  have e2:(us.toArray++qD (N - us.toArray.size) Go.undef).getD t Go.undef=us[t]:=by rw[qO,qP (by simpa using htu)];simp[htu]
  rw[e1,e2];exact hargs.2 t _ _ (qE ht) (qE htu)
 ·have e1:args.getD t .undef= .undef:=by simp[qQ,qT (by omega:args.length≤t)]
  rw[e1];exact .undef _
theorem WRel.drop{A K:za}{C0:Ctx}{w0:World}(h0:WRel C0 H w0)(hl:H.length=A.length)(hA:HSc A)(hle:CLe C0 C)(hw:WRel C (A++K) w):∃ C',CLe C0 C'∧WRel C' A w:=by obtain⟨g1,g2⟩:=hw.cutN (CutH.base hA);exact⟨_,((hle.toN _).trans (g1.less (m:=H.length) om)).full h0.lenv,g2⟩
theorem znD{all:Array Oper}{o:Oper}{rest:List Oper}{d:Deferred}{Q:Exit→Act→World→Prop}(hg:o.guard=none)(he:(execOp a.eval o).run P w= .ok (.defer d) w)(hn:wpList P all Q rest ({ a with defers:=d::a.defers }.put o.dst Go.undef) w):wpList P all Q (o::rest) a w:=by unfold wpList;rw[if_pos (by simp[Region.wanted,hg])];left;unfold Oper.wp;rw[he,Oper.upon_defer];exact hn
theorem PW.hand{c:Code}{F1:Fr}{H1:za}{Q:Exit→Act→World→Prop}(ks:List Nat)(h:PW P ⟨N,H⟩ c F H (fun x F' H'=>x= .normal∧kp ks F'=F1∧H'=H1))(hd:a.defers=[])(hw:WRel C H w)(hf:FRel C N (slot F) a)
  (hn:∀ C' a' w',CLe C C'→a'.defers=[]→WRel C' H1 w'→Below C.B w w'→FRel C' N (slot F1) a'→Q .normal a' w'):c.wp P Q a w:=by
 refine wp_mono (h hw.hsc C a w hd hw hf) ?_;rintro x a' w' ⟨C',F',H',y1,y2,y3,y4,y5,rfl,rfl,rfl⟩;exact hn C' a' w' (y1.full hw.lenv) y2 y3 y4 (y5.keep ks)
theorem zeh{id:Nat}{ops:Array Oper}{K:Fr→za→Prop}{Q:Exit→Act→World→Prop}(n:Nat)(hd:(ops.toList.take n).all (zI N)=true)(h:VO P (ops.toList.map (·.dst)) (ops.toList.take n) (some (F,H)) K){D:List Deferred}(hD:a.defers=D)(hw:WRel C H w)(hf:FRel C N (slot F) a)
  (hn:∀ C' F' H' a' w',CLe C C'→a'.defers=D→WRel C' H' w'→Below C.B w w'→FRel C' N (slot F') a'→K F' H'→wpList P ops Q (ops.toList.drop n) a' w'):(Code.region id ops false).wp P Q a w:=by
 refine wp_region_list ?_;have:=zcz (P:=P) (all:=ops.toList) (rest:=ops.toList.drop n) (ops.toList.take n) F H hd (zao _ _ _ h) C a w hD hw hf Q (fun C' F' H' a' w' p1 p2 p3 p4 p5 p6=>by
  simpa using hn C' F' H' a' w' p1 p2 p3 p4 p5 p6)
 rw[qK]at this;simpa using this
theorem WRel.dropV{A K:za}{C0:Ctx}{w0:World}{v:PV}{u:Value}(h0:WRel C0 H w0)(hl:H.length=A.length)(hA:HSc A)(hle:CLe C0 C)(hw:WRel C (A++K) w)(hv:VRel C v u)(hs:Scoped A.length v):∃ C',CLe C0 C'∧WRel C' A w∧VRel C' v u:=by obtain⟨g1,g2⟩:=hw.cutN (CutH.base hA);exact⟨_,((hle.toN _).trans (g1.less (m:=H.length) om)).full h0.lenv,g2,(Fz.id hs).sound hw hv⟩
end Go.Proofs.YtpjlfoficnpfoaaGreatDoor.Pm
namespace Go.Proofs.YtpjlfoficnpfoaaGreatDoor.Sc
set_option linter.all false
open Pm Ty Go.RowKit
theorem zmm(x y:Value)(w:World):CallsD Tryz.prog 301 #[x,y] .returning w fun e u' w'=>e= .returned (.tuple #[])∧u'= .returning∧w'=w:=by refine callsD_of_wpS Tryz.func301 rfl fun c₀ cs hu=> ?_;apply wpS_seq;apply wpS_region;simp[wpOpsS,go_sem,recoverD,hu,Tryz.ntmps301,Exit.thenS];apply wpS_seq;apply wpS_region;simp[wpOpsS,go_sem,Exit.thenS];refine wpS_cond (t:=false) (by simp[Act.eval,qD]) ?_;simp only[Bool.false_eq_true,if_false];refine wpS_of_wp (wp_skip ?_);cases c₀;simp_all[bodyPostS,results,Tryz.results301]
def ztm(C:Ctx)(H':za)(w:World)(e:Nat):Ending→FrameMode→World→Prop:=fun x u' w'=>x= .returned (.tuple #[])∧u'= .panicking [{ v:=.iface 362 (.agg #[.int .i64 ((e:Int)+1)]),recovered:=true }]∧∃ C',CLe C C'∧WRel C' H' w'∧Below C.B w w'
set_option maxHeartbeats 1000000 in
theorem zor(i4 i5 e:Nat)(l:List Int)(z:Int)(H:za)(C:Ctx)(x y:Value)(w:World)(h4:H[i4]? =some ⟨146,0,is l⟩)(h5:H[i5]? =some ⟨44,0,[.int .i64 z]⟩)(hl:l.length=64)(hne:i4≠i5)
  (hw:WRel C H w) (hx:VRel C (.ptr i4 0 0) x) (hy:VRel C (.ptr i5 0 0) y):
  CallsD Tryz.prog 301 #[x,y] (.panicking (bpn e)) w (ztm C ((H.set i4 ⟨146,0,is z64⟩).set i5 ⟨44,0,[.int .i64 ((e:Int)+1)]⟩) w e):=by
 refine callsD_of_wpS Tryz.func301 rfl fun c₀ cs hu=> ?_;unfold bpn pnc at hu;apply wpS_seq;apply wpS_region;simp[wpOpsS,go_sem,recoverD,hu,Tryz.ntmps301,Exit.thenS];apply wpS_seq;apply wpS_region;simp[wpOpsS,go_sem,Exit.thenS];refine wpS_cond (t:=true) (by simp[Act.eval,qD]) ?_;simp only[if_true];refine wpS_of_wp ?_;have hp4:i4<H.length:=(qB.1 h4).1;have hp5:i5<H.length:=(qB.1 h5).1;have hfr:FRel C 17 (slot [(0,.ptr i4 0 0),(1,.ptr i5 0 0)]) { tmps:= #[x,y]++((((qD 15 undef).setIfInBounds 3 (Value.iface 362 (.agg #[.int .i64 ((e:Int)+1)]))).setIfInBounds 0 (Value.iface 362 (.agg #[.int .i64 ((e:Int)+1)]))).setIfInBounds 4 (Value.iface 362 (.agg #[.int .i64 ((e:Int)+1)]))).setIfInBounds 5 (Value.bool true),defers:=[] }:=by
  refine⟨by simp,fun t=> ?_⟩
  match t with
  | 0=>exact hx
  | 1=>exact hy
  | t+2=>exact .undef _
 have hil:(is l).length=64:=by rw[zar,hl]
 have hz:(is z64).length=64:=by rw[zar];simp[z64]
 have hzc:(is z64).all PV.cell=true:=zaR z64;have hdl:List.drop 64 (is l)=[]:=qJ om;have hbz:∀ Q:List PV→Prop,Q (is z64)→Q (List.replicate 64 (.int .i64 0)):=fun Q h=>by simpa[is,z64]using h
 have h5':(H.set i4 ⟨146,0,is z64⟩)[i5]? =some ⟨44,0,[.int .i64 z]⟩:=by rw[List.getElem?_set_ne hne];exact h5
 generalize hPQ:bodyPostS Tryz.prog _ c₀ cs _=PQ;refine wp_seq (wp_region_list ?_);refine zls (v:=.agg (is z64)) (H':=H) hw hfr rfl rfl rfl kr fun C1 u1 w1 p1 p2 p3 p4=> ?_;refine zls (v:=.tup []) (H':=H.set i4 ⟨146,0,is z64⟩) p2 p4 rfl rfl rfl (by simp(disch:=omega) only[go_sem,↓reduceIte,reduceCtorEq,h4,hz,hil,hdl]) fun C2 u2 w2 r1 r2 r3 r4=> ?_;refine zls (v:=.tup []) (H':=(H.set i4 ⟨146,0,is z64⟩).set i5 ⟨44,0,[.int .i64 3]⟩) r2 r4 rfl rfl rfl (by simp(disch:=omega) only[go_sem,↓reduceIte,reduceCtorEq,h5']) fun C3 u3 w3 s1 s2 s3 s4=> ?_;refine wp_seq (wp_region_list ?_);refine ziL (u:=.iface 362 (.agg #[.int .i64 ((e:Int)+1)])) rfl kr ?_;have t1:=s4.put (some 10) (fun t ht=>by injection ht with ht;omega) (VRel.undef (C:=C3) (Value.iface 362 (.agg #[.int .i64 ((e:Int)+1)])));refine ziL (u:=.tuple #[.agg #[.int .i64 ((e:Int)+1)],.bool true]) rfl kr ?_;have hvt:VRel C3 (.tup [.agg [.int .i64 ((e:Int)+1)],.bool true]) (.tuple #[.agg #[.int .i64 ((e:Int)+1)],.bool true]):=by
  refine .tup (us:=[.agg #[.int .i64 ((e:Int)+1)],.bool true]) rfl fun j x u hx hu=> ?_
  match j with
  | 0=>
   injection hx with hx;injection hu with hu;subst hx hu;refine .agg (us:=[.int .i64 ((e:Int)+1)]) rfl (by simp[PV.cell]) fun j x u hx hu=> ?_
   match j with
   | 0=>injection hx with hx;injection hu with hu;subst hx hu;exact .int _ _
   | j+1=>cases hx
  | 1=>injection hx with hx;injection hu with hu;subst hx hu;exact .bool _
  | j+2=>cases hx
 have t2:=t1.put (some 11) (fun t ht=>by injection ht with ht;omega) hvt;rw[←zU,←zU]at t2;have hl2:((H.set i4 ⟨146,0,is z64⟩).set i5 ⟨44,0,[.int .i64 3]⟩).length=H.length:=by simp
 have g5:((H.set i4 ⟨146,0,is z64⟩).set i5 ⟨44,0,[.int .i64 3]⟩)[i5]? =some ⟨44,0,[.int .i64 3]⟩:=by simp[hp5]
 have hss:((H.set i4 ⟨146,0,is z64⟩).set i5 ⟨44,0,[.int .i64 3]⟩).set i5 ⟨44,0,[.int .i64 ((e:Int)+1)]⟩=(H.set i4 ⟨146,0,is z64⟩).set i5 ⟨44,0,[.int .i64 ((e:Int)+1)]⟩:=qM ..;have hscF:HSc H→HSc ((H.set i4 ⟨146,0,is z64⟩).set i5 ⟨44,0,[.int .i64 ((e:Int)+1)]⟩):=fun h=>HSc.set (HSc.set h (zcH _ _)) fun x hx=>by simp only[qL,qH,or_false]at hx;subst hx;exact .int _ _
 have hlF:H.length=((H.set i4 ⟨146,0,is z64⟩).set i5 ⟨44,0,[.int .i64 ((e:Int)+1)]⟩).length:=by simp
 generalize (H.set i4 ⟨146,0,is z64⟩).set i5 ⟨44,0,[.int .i64 3]⟩=H2 at *;generalize (H.set i4 ⟨146,0,is z64⟩).set i5 ⟨44,0,[.int .i64 ((e:Int)+1)]⟩=H3 at *;refine zbs (N:=17) _ _ _ rfl (K:=fun F' H'=>kp [1,3,4] F'=[(1,.ptr i5 0 0),(3,.ptr H2.length 0 0),(4,.bool true)]∧H'=H2++[⟨362,0,[.int .i64 ((e:Int)+1)]⟩]) (zao _ _ _ ?_) C3 _ w3 rfl s2 t2 _ ?_
 ·simp(disch:=omega) only[go_sem,↓reduceIte,reduceCtorEq]
 intro C4 F4 H4 a4 w4 k1 k2 k3 k4 k5 ⟨k6,k7⟩;subst k7;have k5':=k5.keep [1,3,4];rw[k6]at k5';have g5x:=zb0 (K:=[(⟨362,0,[.int .i64 ((e:Int)+1)]⟩:Blk)]) g5;have hsx:∀ B:Blk,(H2++[(⟨362,0,[.int .i64 ((e:Int)+1)]⟩:Blk)]).set i5 B=H2.set i5 B++[⟨362,0,[.int .i64 ((e:Int)+1)]⟩]:=fun B=>by exact qF _ _ om
 have gF:=hp0 H2 [] ⟨362,0,[.int .i64 ((e:Int)+1)]⟩;have pw:∀{c:Code} {Q:Exit→Act→World→Prop},PW Tryz.prog ⟨17,H2++[⟨362,0,[.int .i64 ((e:Int)+1)]⟩]⟩ c [(1,.ptr i5 0 0),(3,.ptr H2.length 0 0),(4,.bool true)] (H2++[⟨362,0,[.int .i64 ((e:Int)+1)]⟩]) (fun x _ H'=>x= .normal∧H'=H3++[⟨362,0,[.int .i64 ((e:Int)+1)]⟩])→
   (∀ C' a' w',CLe C4 C'→a'.defers=[]→WRel C' (H3++[⟨362,0,[.int .i64 ((e:Int)+1)]⟩]) w'→Below C4.B w4 w'→a'.tmps.size=17→Q .normal a' w')→c.wp Tryz.prog Q a4 w4:=fun h hQ=>by
  refine wp_mono (h k3.hsc C4 a4 w4 k2 k3 k5') ?_;rintro x a' w' ⟨C',F',H',y1,y2,y3,y4,y5,rfl,rfl⟩;exact hQ C' a' w' (y1.full k3.lenv) y2 y3 y4 y5.1
 refine pw ?_ ?_
 ·refine PW.e ?_;refine PW.t ?_;refine PW.g (nq2 gF (nq2 g5x (nq2 hsx hss))) ?_;exact⟨rfl,rfl⟩
 intro C5 a5 w5 y1 y2 y3 y4 y5;show PQ _ _ _ _;rw[←hPQ];have c1:=p1.trans r1;have c2:=c1.trans s1;have c3:=c2.trans k1;have c4:=c3.trans y1;have b1:=p3.trans (by rw[←p1.B];exact r3);have b2:=b1.trans (by rw[←c1.B];exact s3);have b3:=b2.trans (by rw[←c2.B];exact k4);have b4:=b3.trans (by rw[←c3.B];exact y4);obtain⟨C',d1,d2⟩:=WRel.drop hw hlF (hscF hw.hsc) c4 y3;exact⟨y2,_,rfl,.tuple #[],by simp[results,Tryz.results301],rfl,rfl,C',d1,d2,b4⟩
def rvB:Rr (List Int)→PV
 | .ok l _=>.tup [.agg (is l),.int .i64 0]
 | .er e _=>.tup [.agg (is z64),.int .i64 ((e:Int)+1)]
theorem zi2(k:Nat)(x:Rr (List Int)):Scoped k (rvB x):=by
 cases x<;>refine .tup fun j x hx=> ?_;all_goals
  have:=qV hx;simp only[qL,qH,or_false]at this;rcases this with rfl|rfl
  ·exact zaB (zcH _ _)
  ·exact .int _ _
def tkH(H:za)(i:Nat)(p:List UInt8)(n a:Nat)(l:List Int)(e:Int):za:=H.set i (rA p n a)++[⟨146,0,is l⟩,⟨44,0,[.int .i64 e]⟩]
set_option maxHeartbeats 1000000 in
set_option maxRecDepth 100000 in
theorem zlh(i:Nat)(p:List UInt8)(n a fr:Nat)(H:za)(hA:H[i]? =some (rA p n a))(ha:a≤n)(hn:n≤8 * p.length)(hp:p.length≤100000000)(hfr:fr≤1):
  CallOk Tryz.prog 262 [.ptr i 0 0,.int .i64 (fr:Int)] H (rvB (zdo p n fr a)) (H.set i (rA p n (zdo p n fr a).at)):=by
 have hi:=(qB.1 hA).1;have hself:=zO hA;refine⟨by kernel_rfl,fun C us w hw hargs=>calls_of_wp_defers Tryz.func262 rfl ?_⟩;have hfr0:=zol (N:=18) hargs (qC rfl);change FRel C 18 (slot [(0,.ptr i 0 0),(1,.int .i64 (fr:Int))]) _ at hfr0;have vo:=fun K=>zun fr K hfr;have hAx:=fun K=>zb0 (K:=K) hA;refine wp_seq ?_;refine PW.hand [0,1,4,5] (F1:=[(0,.ptr i 0 0),(1,.int .i64 (fr:Int)),(4,.ptr H.length 0 0),(5,.ptr (H.length+1) 0 0)]) (H1:=tkH H i p n a z64 0) ?_ rfl hw hfr0 ?_
 ·refine PW.e ?_;refine⟨rfl,rfl,?_⟩;unfold tkH;rw[hself];rfl
 intro C1 a1 w1 p1 p2 p3 p4 p5;refine wp_seq ?_;have g0:(tkH H i p n a z64 0)[i]? =some (rA p n a):=by unfold tkH;rw[hself];exact hAx _
 refine PW.hand [0,1,4,5] (F1:=[(0,.ptr i 0 0),(1,.int .i64 (fr:Int)),(4,.ptr H.length 0 0),(5,.ptr (H.length+1) 0 0)]) (H1:=tkH H i p n a z64 0) ?_ p2 p3 p5 ?_
 ·(repeat refine PW.seq ?_);refine PW.rg rfl fun K hK=> ?_;simp(disch:=omega) only[go_sem,↓reduceIte,reduceCtorEq,g0,rA];refine VCx.call (vo _) rfl ?_;simp(disch:=omega) only[go_sem,↓reduceIte,reduceCtorEq];refine hK _ _ ?_;clear hK K;refine PW.u ?_;exact PW.skip ⟨rfl,rfl,rfl⟩
 intro C2 a2 w2 r1 r2 r3 r4 r5;refine wp_seq (wp_region_list ?_);have hx:=r5.2 4;have hy:=r5.2 5;generalize hxv:a2.tmps.getD 4 Go.undef=x at hx;generalize hyv:a2.tmps.getD 5 Go.undef=y at hy;refine ziL (u:=.func (.func 301) #[] #[x,y]) rfl ?_ ?_
 ·subst hxv hyv;simp[execOp,Instr.makeFunc,Act.eval]
 refine znD (d:=⟨.fn (.func 301) #[x,y],#[]⟩) rfl ?_ ?_
 ·have e14:(a2.put (some 14) (Value.func (.func 301) #[] #[x,y])).eval (.tmp 14)=Value.func (.func 301) #[] #[x,y]:=by have:=r5.1;simp[Act.put,Act.eval,this]
  simp[execOp,resolve,e14,Deferred.ofValue]
 have t1:=r5.put (some 14) (fun t ht=>by injection ht with ht;omega) (VRel.undef (C:=C2) (Value.func (.func 301) #[] #[x,y]));rw[←zU]at t1;have t2:FRel C2 18 (slot [(14,.undef),(0,.ptr i 0 0),(1,.int .i64 (fr:Int)),(4,.ptr H.length 0 0),(5,.ptr (H.length+1) 0 0)]) ({ a2.put (some 14) (Value.func (.func 301) #[] #[x,y])with defers:=⟨.fn (.func 301) #[x,y],#[]⟩::a2.defers }):=t1;have hhsc:=fun a'=>zdN H i p n a' hw.hsc;have cB1:CLe C C2:=p1.trans r1;have bB1:Below C.B w w2:=p4.trans (by rw[←p1.B];exact r4);have htk:∀ a' l z,(tkH H i p n a l z).set i (rA p n a')=tkH H i p n a' l z:=fun a' l z=>by unfold tkH;rw[qF _ _ (by simpa using hi),qM]
 have h4:∀ a' l z,(tkH H i p n a' l z)[H.length]? =some ⟨146,0,is l⟩:=fun a' l z=>by have:=hp0 (H.set i (rA p n a')) [⟨44,0,[.int .i64 z]⟩] ⟨146,0,is l⟩;rwa[qA]at this
 have h5:∀ a' l z,(tkH H i p n a' l z)[H.length+1]? =some ⟨44,0,[.int .i64 z]⟩:=fun a' l z=>by have:=hp1 (H.set i (rA p n a')) [] ⟨146,0,is l⟩ ⟨44,0,[.int .i64 z]⟩;rwa[qA]at this
 have s4:∀ a' l z l',(tkH H i p n a' l z).set H.length ⟨146,0,is l'⟩=tkH H i p n a' l' z:=fun a' l z l'=>by have:=hs0 (H.set i (rA p n a')) [⟨44,0,[.int .i64 z]⟩] ⟨146,0,is l⟩ ⟨146,0,is l'⟩;rwa[qA]at this
 have s5:∀ a' l z z',(tkH H i p n a' l z).set (H.length+1) ⟨44,0,[.int .i64 z']⟩=tkH H i p n a' l z':=fun a' l z z'=>by have:=hs1 (H.set i (rA p n a')) [] ⟨146,0,is l⟩ ⟨44,0,[.int .i64 z]⟩ ⟨44,0,[.int .i64 z']⟩;rwa[qA]at this
 have hz:(is z64).length=64:=by rw[zar];simp[z64]
 have hsl:∀ a',H.length=(H.set i (rA p n a')).length:=fun a'=>by simp
 refine wp_seq ?_;cases hr:zdo p n fr a with
 | ok l a'=>
  have rd:=zsq i p n a fr a' l (tkH H i p n a z64 0) g0 ha hn hp hfr hr;rw[htk]at rd;have hll:l.length=64:=by have:=(zeO _ _ _ _ hr ha).2.2;simpa[z64]using this
  have hil:(is l).length=64:=by rw[zar,hll]
  have htl:List.take 64 (is l)=is l:=qI om;have hcl:=zaR l;have hdz:List.drop 64 (is z64)=[]:=qJ om;refine zeh 5 rfl (K:=fun F' H'=>kp [4,5] F'=[(4,.ptr H.length 0 0),(5,.ptr (H.length+1) 0 0)]∧H'=tkH H i p n a' l 0) ?_ (D:=[⟨.fn (.func 301) #[x,y],#[]⟩]) (by simp[Act.put,r2]) r3 t2 ?_
  ·simp(disch:=omega) only[go_sem,↓reduceIte,reduceCtorEq];refine VCx.call (rd) rfl ?_;simp(disch:=omega) only[go_sem,↓reduceIte,reduceCtorEq,h4,h5,s4,s5,hil,hz,hcl,hdz]
  intro C3 F3 H3 a3 w3 q1 q2 q3 q4 q5 ⟨q6,q7⟩;subst q7;have q5':=q5.keep [4,5];rw[q6]at q5';refine wp_ret ?_;show Leaves _ _ _ _ _ _ _;rw[q2];refine leaves_cons sp kr ((zmm x y w3).mono ?_);rintro _ _ _ ⟨rfl,rfl,rfl⟩;obtain⟨u,u1,u2⟩:=zbk (P:=Tryz.prog) (fn:=Tryz.f262) (v:=.tup [.agg (is l),.int .i64 0]) q3 q5' (by simp(disch:=omega) only[go_sem,↓reduceIte,reduceCtorEq,zr,zF,List.mapM_cons,List.mapM_nil,Option.pure_def,qR,Option.bind_some,Array.toList,Tryz.results262,h4,h5,hil,htl]);obtain⟨C',d1,d2,d3⟩:=WRel.dropV hw (hsl a') (hhsc a') (cB1.trans q1) q3 u1 (zi2 _ (.ok l a'));exact⟨u,u2,C',u,d1,d2,bB1.trans (by rw[←cB1.B];exact q4),rfl,d3⟩
 | er e a'=>
  have rd:=zpP i p n a fr e a' (tkH H i p n a z64 0) g0 ha hn hp hfr hr;rw[htk]at rd;refine zeh 2 rfl (K:=fun F' H'=>kp [4,5,15,16] F'=[(4,.ptr H.length 0 0),(5,.ptr (H.length+1) 0 0),(15,.ptr i 0 0),(16,.int .i64 (fr:Int))]∧H'=tkH H i p n a z64 0) ?_ (D:=[⟨.fn (.func 301) #[x,y],#[]⟩]) (by simp[Act.put,r2]) r3 t2 ?_
  ·simp(disch:=omega) only[go_sem,↓reduceIte,reduceCtorEq]
  intro C3 F3 H3 a3 w3 q1 q2 q3 q4 q5 ⟨q6,q7⟩;subst q7;have q5':=q5.keep [4,5,15,16];rw[q6]at q5';show wpList _ _ _ (_::_) _ _;unfold wpList;rw[if_pos kr];left;refine zeq q3 q5' (by simp(disch:=omega) only[go_sem,↓reduceIte,reduceCtorEq,zk]) rd _ _ fun C4 w4 y1 y2 y3 y4=> ?_;show Leaves _ _ _ _ _ _ _;rw[q2];have hx4:=hx.mono (q1.trans y1);have hy4:=hy.mono (q1.trans y1);have cp:=zor H.length (H.length+1) e z64 0 (tkH H i p n a' z64 0) C4 x y w4 (h4 _ _ _) (h5 _ _ _) (by simp[z64]) om y2 hx4 hy4;rw[s4,s5]at cp;refine leaves_cons sp kr (cp.mono ?_);rintro _ _ w5 ⟨rfl,rfl,C5,v1,v2,v3⟩;have htl:List.take 64 (is z64)=is z64:=qI om;obtain⟨u,u1,u2⟩:=zbk (P:=Tryz.prog) (fn:=Tryz.f262) (v:=.tup [.agg (is z64),.int .i64 ((e:Int)+1)]) v2 (y4.mono v1) (by simp(disch:=omega) only[go_sem,↓reduceIte,reduceCtorEq,zr,zF,List.mapM_cons,List.mapM_nil,Option.pure_def,qR,Option.bind_some,Array.toList,Tryz.results262,h4,h5,hz,htl]);have c3:=(cB1.trans q1).trans y1;obtain⟨C',d1,d2,d3⟩:=WRel.dropV hw (hsl a') (hhsc a') (c3.trans v1) v2 u1 (zi2 _ (.er e a'));have b2:=bB1.trans (by rw[←cB1.B];exact q4);have b3:=b2.trans (by rw[←(cB1.trans q1).B];exact y3);exact⟨u,u2,C',u,d1,d2,b3.trans (by rw[←c3.B];exact v3),rfl,d3⟩
end Go.Proofs.YtpjlfoficnpfoaaGreatDoor.Sc
