/-
  Parts of the proof. No condition.
-/
import Derived.Test.YtdajpjenhcobkaaGreatDoorX05
open List renaming getElem?_range → qD, take_of_length_le → qE, getElem?_map → qH, length_take → qJ, getElem?_eq_some_iff → qL, getElem?_eq_none → qM
open Nat renaming strongRecOn → qB, pow_le_pow_right → qF, le_refl → qG, zero_le → qK
open Option renaming map_some → qI
open Go.Proofs.Tryz renaming prog → qA
set_option linter.all false
set_option maxRecDepth 100000
set_option maxHeartbeats 32000000
namespace Go.Proofs.YtdajpjenhcobkaaGreatDoor
namespace Sc
open Pm Ty Go.RowKit
def zb(l:List Bool):List UInt8:=l.map λb=>if b then 1 else 0
theorem zb7(l:List Bool):(zb l).length=l.length:=by simp[zb]
theorem zfB(l m:List Bool):zb (l++m)=zb l++zb m:=by simp[zb]
theorem zu8(l:List Bool)(i:Nat)(h:i<l.length):byt (zb l) i=(bn l i:Int):=by simp only[byt,zb,bn,List.getD,qH,List.getElem?_eq_getElem h,qI,Option.getD_some];cases l[i]<;>rfl
theorem zwD(m:Nat):bs (zb [decide (m%2=1)])=[.int .u8 ((m%2:Nat):Int)]:=by rcases Nat.mod_two_eq_zero_or_one m with h|h<;>simp[zb,bs,h]
theorem zss(V n:Nat)(H:za)(hn:n<=32):CallOk qA 242 [.int .u32 (V:Int),.int .i64 (n:Int)] H (.msl H.length (bs (zb (za8 V n))).length 0 n 1 true) (H++[⟨5,(bs (zb (za8 V n))).length,bs (zb (za8 V n))⟩]):=by
 refine .go Tryz.func242 Tryz.ntmps242 Tryz.results242 ?_;refine .e ?_;refine .e ?_;refine .e ?_;(repeat refine .seq ?_);refine .view (Vs.ghost 5 5 1 rfl) ?_;refine .block (PW.loop ?_);suffices hloop:∀(k:Nat),k<=n->PL qA _ _ [(0,.int .u32 (V:Int)),(5,.msl H.length (bs (zb ((za8 V n).take k))).length 0 k 1 true),(6,.int .i64 ((n:Int) - 1 - (k:Int)))] (H++[⟨5,(bs (zb ((za8 V n).take k))).length,bs (zb ((za8 V n).take k))⟩]) _ by exact .at [0,5,6] (hloop 0 (qK _)) (by simp(disch:=omega) only[go_sem];simp[zb,bs]) (by simp[zb,bs])
 intro k hk;have hl:(zb ((za8 V n).take k)).length=k:=by rw[zb7,qJ,zbB];omega
 induction hm:n - k using qB generalizing k with
 | _ m ih=>
  refine .round ?_;refine .e ?_;refine .c (λh=> ?_) (λh=> ?_)
  .have h4:k<n:=ot h;have e1:(n:Int) - 1 - (k:Int)=((n - 1 - k:Nat):Int):=om;have htk:=zlS V n k h4;have hb1:=zwD (V / 2^(n - 1 - k));have hmd:V / 2^(n - 1 - k)%2<2:=Nat.mod_lt _ om;refine .skip ?_;refine .b ?_;refine .f (λK k=>by simp(disch:=omega) only[go_sem,e1,zij,zqy,zoR,zd,hl];exact k) ?_;refine .e ?_;refine .at [0,5,6] (ih (n - (k+1)) om (k+1) om (by rw[zb7,qJ,zbB];omega) rfl) ?_ ?_
   .rw[htk,zfB,zR,hb1];refine sqz ?_;have:((n - 1 - k:Nat):Int) - 1=(n:Int) - 1 - ((k+1:Nat):Int):=om;rw[this]
   .rw[htk,zfB,zR,hb1]
  .have h4:k=n:=ofF h;subst h4;have htk:(za8 V k).take k=za8 V k:=qE (by rw[zbB];exact qG _);rw[htk]at hl |-;refine .exit ?_;refine .e ?_;exact .ret ⟨_,rfl,Fin.now⟩
def zag(p:List UInt8)(k:Nat):Nat:=(p.getD (k / 8) 0).toNat / 2^(7 - k%8)%2
theorem zcd(p:List UInt8)(k:Nat):zag p k<2:=Nat.mod_lt _ om
def vl(p:List UInt8)(a:Nat):Nat->Nat
 | 0=>0
 | n+1=>2 * vl p a n+zag p (a+n)
theorem zgg(p:List UInt8)(a:Nat):∀ n,vl p a n<2^n
 | 0=>by simp[vl]
 | n+1=>by have h1:=zgg p a n;have h2:=zcd p (a+n);rw[vl,Nat.pow_succ];omega
theorem ziJ(k':IntKind)(V:Nat)(h:2 * V<4294967296):zbb .shl .u32 (V:Int) k' 1=some (.int .u32 ((2 * V:Nat):Int)):=by simp only[zbb,IntKind.bits];rw[if_neg om,show min (1:Int).toNat 32=1 from rfl,show(V:Int) * (2:Int)^1=((2 * V:Nat):Int)from om,w32 _ om]
theorem ztw(a b:Nat)(hb:b<2):2 * a|||b=2 * a+b:=by
 have h1:2 * a=a<<<1:=by rw[Nat.shiftLeft_eq];omega
 rw[h1,Nat.shiftLeft_add_eq_or_of_lt (by simpa using hb)]
theorem znu(a b:Nat)(hb:b<2)(h:2 * a<4294967296):zbb .or .u32 ((2 * a:Nat):Int) .u32 (b:Int)=some (.int .u32 ((2 * a+b:Nat):Int)):=by
 have key0:(BitVec.ofInt 32 ((2 * a:Nat):Int)|||BitVec.ofInt 32 (b:Int)).toNat=2 * a+b:=by rw[BitVec.ofInt_natCast,BitVec.ofInt_natCast,BitVec.toNat_or,BitVec.toNat_ofNat,BitVec.toNat_ofNat,Nat.mod_eq_of_lt om,Nat.mod_eq_of_lt om];exact ztw a b hb
 have key:(BitVec.ofInt IntKind.u32.bits ((2 * a:Nat):Int)|||BitVec.ofInt IntKind.u32.bits (b:Int)).toNat=2 * a+b:=key0;simp only[zbb,key,if_true];rw[w32 _ om]
def rA(p:List UInt8)(n a:Nat):Blk:=⟨231,0,[.slice (bs p) p.length false,.int .i64 (n:Int),.int .i64 (a:Int)]⟩
theorem zqr(i:Nat)(p:List UInt8)(n a:Nat)(H:za)(hA:H[i]? =some (rA p n a))(ha:a<=n)(hn:n<=1000000000):CallOk qA 82 [.ptr i 0 0] H (.int .i64 ((n - a:Nat):Int)) H:=by have e:(n:Int) - (a:Int)=((n - a:Nat):Int):=om;refine .go Tryz.func82 Tryz.ntmps82 Tryz.results82 ?_;(repeat'(first|refine .seq ?_|refine .skip ?_|((first|refine .rg rfl λK hK=> ?_|refine .draw mix kr λK hK=> ?_);simp(disch:=omega) only[go_sem,hA,rA,e])|(refine hK _ _ ?_;clear hK K)|(refine .cond (t:=_) rfl (λh=> ?_) (λh=> ?_)<;>(try(cases h;done))<;>(try simp only[nqb]at h))));all_goals exact .ret ⟨_,rfl,Fin.now⟩
theorem zbY(i:Nat)(p:List UInt8)(n a m:Nat)(H:za)(hA:H[i]? =some (rA p n a))(ha:a<=n)(hn:n<=1000000000)(hm:m<=32)(hs:n - a<m):
  CallOk qA 79 [.ptr i 0 0,.int .i64 (m:Int)] H (.tup [.int .u32 0,.int .i64 4]) H:=by
 refine .go Tryz.func79 Tryz.ntmps79 Tryz.results79 ?_;(repeat'(first|refine .seq ?_|refine .skip ?_|((first|refine .rg rfl λK hK=> ?_|refine .draw mix kr λK hK=> ?_);simp(disch:=omega) only[go_sem,hA,rA])|(refine hK _ _ ?_;clear hK K)|(refine .cond (t:=_) rfl (λh=> ?_) (λh=> ?_)<;>(try(cases h;done))<;>(try simp only[nqb]at h))));all_goals exact .ret ⟨_,rfl,Fin.now⟩
theorem zdU(i:Nat)(p:List UInt8)(n a m:Nat)(H:za)(hA:H[i]? =some (rA p n a))(ha:a+m<=n)(hn:n<=8 * p.length)(hp:p.length<=100000000)(hm:m<=32):
  CallOk qA 79 [.ptr i 0 0,.int .i64 (m:Int)] H (.tup [.int .u32 (vl p a m:Int),.int .i64 0]) (H.set i (rA p n (a+m))):=by
 have hi:=(qL.1 hA).1;have hself:=zai hA;refine .go Tryz.func79 Tryz.ntmps79 Tryz.results79 ?_;refine .e ?_;(repeat refine .seq ?_);refine .rgv [0,1] 17 (.bool false) rfl ?_ ?_
 .simp(disch:=omega) only[go_sem,hA,rA]
 refine .us ?_;(repeat refine .seq ?_);refine .draw mix kr λK hK=> ?_;simp(disch:=omega) only[go_sem,hA,rA];refine hK _ _ ?_;clear hK K;refine .us ?_;refine .e ?_;refine .e ?_;refine .l ?_;suffices hloop:∀(k:Nat),k<=m->PL qA _ _ [(0,.ptr i 0 0),(6,.int .u32 (vl p a k:Int)),(29,.int .i64 (m:Int)),(30,.int .i64 (k:Int))] (H.set i (rA p n (a+k))) _ by exact .at [0,6,29,30] (hloop 0 (qK _)) rfl hself.symm
 intro k hk;induction hmk:m - k using qB generalizing k with
 | _ r ih=>
  refine .round ?_;refine .e ?_;have hat:∀ B:Blk,(H.set i B)[i]? =some B:=λB=>by simp[hi]
  refine .c (λh=> ?_) (λh=> ?_)
  .have h4:k<m:=ot h;have hnext:=ih (m - (k+1)) om (k+1) om rfl;have hr8:(a+k)%8<8:=Nat.mod_lt _ om;have hq8:(a+k) / 8<p.length:=om;have hu:zag p (a+k)=(p.getD ((a+k) / 8) 0).toNat / 2^(7 - (a+k)%8)%2:=rfl;have e3:(7:Int) - (((a+k)%8:Nat):Int)=((7 - (a+k)%8:Nat):Int):=om;have e4:((a+k:Nat):Int)+1=((a+(k+1):Nat):Int):=om;have hul:=zcd p (a+k);have hvl:=zgg p a k;have hvl2:2 * vl p a k<4294967296:=by have:2^k<=2^31:=qF om om;omega
   have hb:byt p ((a+k) / 8)=((p.getD ((a+k) / 8) 0).toNat:Int):=rfl;refine .skip ?_;refine .b ?_;(repeat refine .seq ?_);refine .draw mix kr λK hK=> ?_;simp(disch:=omega) only[go_sem,hat,rA,zw5,zw3,zd,zaf,e3,hb,ztk,zqZ,<-hu];refine hK _ _ ?_;clear hK K;refine .f (λK k=>by simp(disch:=omega) only[go_sem,ziJ,znu];exact k) ?_;refine .f (λK k=>by simp(disch:=omega) only[go_sem,hat,rA,e4,List.set_set];exact k) ?_;refine .e ?_;exact .at [0,6,29,30] hnext rfl rfl
  .have h4:k=m:=ofF h;subst h4;refine .exit ?_;refine .e ?_;refine .ret ⟨_,rfl,Fin.now⟩
inductive Rr(α:Type) where
 | ok (v:α) (a:Nat)
 | er (e:Nat) (a:Nat)
def Rr.bind{α β:Type}(x:Rr α)(f:α->Nat->Rr β):Rr β:=match x with| .ok v a=>f v a| .er e a=>.er e a
def Rr.at{α:Type}:Rr α->Nat| .ok _ a=>a| .er _ a=>a
theorem Rr.bind_ok{α β:Type}(v:α)(a:Nat)(f:α->Nat->Rr β):(Rr.ok v a).bind f=f v a:=rfl
theorem Rr.bind_er{α β:Type}(e a:Nat)(f:α->Nat->Rr β):(Rr.er e a:Rr α).bind f= .er e a:=rfl
theorem Rr.bind_bind{α β γ:Type}(x:Rr α)(f:α->Nat->Rr β)(g:β->Nat->Rr γ):(x.bind f).bind g=x.bind λv a=>(f v a).bind g:=by cases x<;>rfl
theorem zi9(p:List UInt8)(a m:Nat):∀ n,vl p a (m+n)=vl p a m * 2^n+vl p (a+m) n
 | 0=>by simp[vl]
 | n+1=>by rw[show m+(n+1)=(m+n)+1 from om,vl,zi9 p a m n,vl,Nat.pow_succ,show a+(m+n)=a+m+n from om,<-Nat.mul_assoc];omega
def zrs(q:List UInt8)(n:Nat):Nat->Nat->Nat
 | 0,_=>0
 | c+1,a=>if a<n/\zag q a=0 then zrs q n c (a+1)+1 else 0
section
variable {q:List UInt8} {n:Nat}
theorem zlO:∀(c a:Nat),zrs q n c a<=c
 | 0,a=>by simp[zrs]
 | c+1,a=>by have:=zlO c (a+1);simp only[zrs];split<;>omega
theorem zkm{c a:Nat}(h:a<n)(h0:zag q a=0):zrs q n (c+1) a=zrs q n c (a+1)+1:=by simp only[zrs];rw[if_pos ⟨h,h0⟩]
theorem zm4{c a:Nat}(h:n<=a):zrs q n c a=0:=by
 cases c with
 | zero=>rfl
 | succ c=>simp only[zrs];rw[if_neg om]
theorem zm3{c a:Nat}(h:zag q a=1):zrs q n c a=0:=by
 cases c with
 | zero=>rfl
 | succ c=>simp only[zrs];rw[if_neg om]
theorem zpm:∀(c a k:Nat),k<=zrs q n c a->vl q a k=0
 | 0,a,k,h=>by
  have:k=0:=by simpa[zrs]using h
  subst this;rfl
 | c+1,a,k,h=>by
  simp only[zrs]at h;split at h
  .rename_i hh;cases k with
   | zero=>rfl
   | succ k=>rw[show k+1=1+k from om,zi9,zpm c (a+1) k om];simp[vl,hh.2]
  .have:k=0:=om;subst this;rfl
theorem zpn:∀(c a:Nat),zrs q n c a<c->a+zrs q n c a<n->zag q (a+zrs q n c a)=1
 | 0,a,h,_=>om
 | c+1,a,h,h2=>by
  simp only[zrs]at h h2 |-;split at h
  .rename_i hh;rw[if_pos hh]at h2 |-;have:=zpn c (a+1) om om;rwa[show a+(zrs q n c (a+1)+1)=a+1+zrs q n c (a+1)from om]
  .rename_i hh;rw[if_neg hh]at h2 |-;have:=zcd q a;have h3:¬ zag q a=0:=λe=>hh ⟨om,e⟩;rw[Nat.add_zero];omega
end
def tkU(q:List UInt8)(n a:Nat):Rr Nat:=if zrs q n 16 a=16 then .er 2 a else if n - a<2 * zrs q n 16 a+1 then .er 3 a else .ok (2^zrs q n 16 a+vl q (a+zrs q n 16 a+1) (zrs q n 16 a) - 1) (a+(2 * zrs q n 16 a+1))
def usg(v:Nat):Int:=if v%2=1 then((v+1) / 2:Nat)else -((v / 2:Nat):Int)
def tkS(q:List UInt8)(n a:Nat):Rr Int:=(tkU q n a).bind λv a=>.ok (usg v) a
theorem zdz{q:List UInt8}{n a v a1:Nat}(h:tkU q n a= .ok v a1)(ha:a<=n):v<=65534/\a<a1/\a1<=n:=by
 unfold tkU at h;split at h
 .cases h
 .split at h
  .cases h
  .have h1:=zlO (q:=q) (n:=n) 16 a;injection h with h2 h3;have h4:zrs q n 16 a<=15:=om;have h5:=zgg q (a+zrs q n 16 a+1) (zrs q n 16 a);have h6:2^zrs q n 16 a<=2^15:=qF om h4;omega
theorem zgh{q:List UInt8}{n a e a1:Nat}(h:tkU q n a= .er e a1):a1=a/\e<=3:=by
 unfold tkU at h;split at h
 .injection h with h2 h3;omega
 .split at h
  .injection h with h2 h3;omega
  .cases h
theorem zvm(q:List UInt8)(n a:Nat)(h:¬ zrs q n 16 a=16)(h2:¬ n - a<2 * zrs q n 16 a+1):vl q a (2 * zrs q n 16 a+1)=2^zrs q n 16 a+vl q (a+zrs q n 16 a+1) (zrs q n 16 a):=by have h1:=zlO (q:=q) (n:=n) 16 a;have h3:=zpn (q:=q) (n:=n) 16 a om om;have h4:=zpm (q:=q) (n:=n) 16 a (zrs q n 16 a) (qG _);generalize zrs q n 16 a=k at *;rw[show 2 * k+1=k+(1+k)from om,zi9,zi9,h4];simp only[vl,Nat.add_zero,h3,Nat.zero_mul,Nat.zero_add,Nat.mul_zero,Nat.one_mul]
theorem zw0(v:Nat)(h:v<=65534): -32767<=usg v/\usg v<=32767:=by unfold usg;split<;>omega
theorem zcG{q:List UInt8}{n a a1:Nat}{v:Int}(h:tkS q n a= .ok v a1)(ha:a<=n):(-32767<=v/\v<=32767)/\a<a1/\a1<=n:=by
 unfold tkS at h;cases hu:tkU q n a with
 | er e a2=>rw[hu]at h;cases h
 | ok w a2=>rw[hu]at h;injection h with h2 h3;have:=zdz hu ha;subst h2 h3;exact⟨zw0 w this.1,this.2⟩
theorem zeY{q:List UInt8}{n a e a1:Nat}(h:tkS q n a= .er e a1):a1=a/\e<=3:=by
 unfold tkS at h;cases hu:tkU q n a with
 | ok w a2=>rw[hu]at h;cases h
 | er e a2=>rw[hu]at h;injection h with h2 h3;have:=zgh hu;omega
end Sc
namespace Sc
open Pm Ty Go.RowKit
def tz8(b:Nat):Nat:=if b%2≠0 then 0 else if b%4≠0 then 1 else if b%8≠0 then 2 else if b%16≠0 then 3 else if b%32≠0 then 4 else if b%64≠0 then 5 else if b%128≠0 then 6 else if b%256≠0 then 7 else 8
theorem zkw:∀ b<256,b=0\/(tz8 b<8/\b / 2^tz8 b%2=1/\∀ j<8,tz8 b<=j\/b / 2^j%2=0):=by decide+kernel
def zuS(r:Option Res)(v:Nat):Bool:=match r with
 | some (.val (.int .i64 n) [])=>n==(v:Int)
 | _=>false
theorem zvi:∀ b:Nat,b<256->zuS (zh5 qA 100 (.call 134 [.int .u8 (b:Int)] [])) (tz8 b)=true:=by decide+kernel
theorem zw1(b:Nat)(hb:b<256)(H:za):CallOk qA 134 [.int .u8 (b:Int)] H (.int .i64 (tz8 b:Int)) H:=by
 refine .eval 100 ?_ ?_
 .have h:=zvi b hb;unfold zuS at h;split at h
  .rename_i he;rw[he,eq_of_beq h]
  .cases h
 .intro x hx;simp only[List.mem_cons,List.not_mem_nil,or_false]at hx;rw[hx];exact .int _ _
def zbn(q:List UInt8):Nat:=(q.getD (q.length - 1) 0).toNat
def nb(q:List UInt8):Nat:=8 * q.length - 1 - tz8 (zbn q)
theorem zra(q:List UInt8)(f:Bool)(H:za)(hl:q.length<=100000000)(hb:q.length=0\/zbn q=0):
  CallOk qA 78 [.slice (bs q) q.length f] H (.tup [.nilp,.int .i64 3]) H:=by
 refine .go Tryz.func78 Tryz.ntmps78 Tryz.results78 ?_;by_cases h0:q.length=0
 .refine .e ?_;(repeat refine .seq ?_);refine .rg rfl λK hK=> ?_;simp(disch:=omega) only[go_sem,h0];refine hK _ _ ?_;clear hK K;refine .c (λh=> ?_) (λh=> ?_)
  .refine .e ?_;exact .ret ⟨_,rfl,Fin.now⟩
  .cases h
 .have e1:(q.length:Int) - 1=((q.length - 1:Nat):Int):=om;have hby:byt q (q.length - 1)=0:=by have:byt q (q.length - 1)=(zbn q:Int):=rfl;omega
  refine .e ?_;(repeat refine .seq ?_);refine .rg rfl λK hK=> ?_;simp(disch:=omega) only[go_sem,e1,zaf,zd,hby];refine hK _ _ ?_;clear hK K;refine .c (λh=> ?_) (λh=> ?_)
  .refine .e ?_;exact .ret ⟨_,rfl,Fin.now⟩
  .cases h
theorem ztz(q:List UInt8)(f:Bool)(H:za)(hl:q.length<=100000000)(hq:q.length≠0)(hb:zbn q≠0):
  CallOk qA 78 [.slice (bs q) q.length f] H (.tup [.ptr (H.length+1) 0 0,.int .i64 0]) (H++[⟨5,1,[]⟩,rA q (nb q) 0]):=by
 have e1:(q.length:Int) - 1=((q.length - 1:Nat):Int):=om;have hby:byt q (q.length - 1)=(zbn q:Int):=rfl;have hlt:zbn q<256:=UInt8.toNat_lt _;have htz:tz8 (zbn q)<8:=((zkw _ hlt).resolve_left hb).1;refine .go Tryz.func78 Tryz.ntmps78 Tryz.results78 ?_;refine .e ?_;refine .f (λK k=>by simp(disch:=omega) only[go_sem,e1,zaf,zd,hby];exact k) ?_;refine .us ?_;refine .e ?_;have hcl:(List.replicate q.length [PV.int .u8 0]).flatten.length=q.length:=by simp
 refine .to [0,4] [(0,.slice (bs q) q.length f),(4,.ptr (H.length+1) 0 0)] (H++[⟨5,0,bs q⟩,⟨231,0,[.msl H.length 0 0 q.length 1 true,.int .i64 0,.int .i64 0]⟩]) ?_ ?_
 .refine .f (λK k=>by simp(disch:=omega) only[go_sem,zd,hcl];exact k) ?_;refine⟨rfl,?_⟩;have htk:List.take q.length (bs q)=bs q:=qE (by rw[zd];exact qG _);simp[zW,zb8,zd,htk]
 refine .view (Vs.frzCell (id:=H.length) (id':=H.length+1) (j:=0) (hp0 _ _ _) (hp1 _ _ _ _) om rfl (by simp[zd])) ?_;simp only[hs0,hs1,List.set_cons_zero];refine .f (λK k=>by simp(disch:=omega) only[go_sem,zd,e1,zaf,hby];refine VCx.call (zw1 _ hlt _) rfl ?_;simp(disch:=omega) only[go_sem,zd,e1,zaf,hby];exact k) ?_;refine .e ?_;have e2:8 * (q.length:Int) - 1 - (tz8 (zbn q):Int)=(nb q:Int):=by unfold nb;omega
 refine .ret ⟨_,rfl,?_⟩;refine .inl ⟨?_,?_⟩
 .simp[slot,Nat.beq]
 .rw[e2];rfl
theorem _root_.Go.Proofs.YtdajpjenhcobkaaGreatDoor.Pm.CallOk.lose{P:Program}{H:za}{f:FuncId}{args:List PV}{v v':PV}{K:za}(h:CallOk P f args H v (H++K))(hz:Fz H.length (H++K) v v'):CallOk P f args H v' H:=
 ⟨h.1,λC us w hw hu=>(h.2 C us w hw hu).mono λe w' ⟨C',u,q1,q2,q3,q4,q5⟩=>by
  obtain⟨g1,g2⟩:=WRel.give hw q1 q2;exact⟨_,u,g1,g2,q3,q4,Fz.sound q2 hz q5⟩⟩
theorem zpg(V n:Nat)(H:za)(hn:n<=32):CallOk qA 242 [.int .u32 (V:Int),.int .i64 (n:Int)] H (.slice (bs (zb (za8 V n))) n false) H:=(zss V n H hn).lose (Fz.mslC (e:=5) (xs:=bs (zb (za8 V n))) (qG _) sp (by simp[zd,zb7,zbB]) (FzC.refl (zh _ _)))
def bl(q:List UInt8):List Bool:=(List.range (8 * q.length)).map λk=>decide (zag q k=1)
theorem zcx(q:List UInt8):(bl q).length=8 * q.length:=by simp[bl]
theorem zxU(q:List UInt8)(k:Nat)(h:k<8 * q.length):bn (bl q) k=zag q k:=by have:=zcd q k;simp[bn,bl,h];have:zag q k=0\/zag q k=1:=om;rcases this with e|e<;>simp[e]
theorem zif(q:List UInt8)(k:Nat)(h:k<8 * q.length):(bs (zb (bl q)))[k]? =some (.int .u8 (zag q k:Int)):=by rw[zaf _ _ (by rw[zb7,zcx];exact h),zu8 _ _ (by rw[zcx];exact h),zxU q k h]
theorem zue(q:List UInt8)(k:Nat)(h:k<q.length):bl (q.take (k+1))=bl (q.take k)++za8 (q.getD k 0).toNat 8:=by
 apply List.ext_getElem?;intro j;have h1:(q.take (k+1)).length=k+1:=by simp;omega
 have h2:(q.take k).length=k:=by simp;omega
 by_cases hj:j<8 * k
 .rw[List.getElem?_append_left (by rw[zcx,h2];exact hj)];simp only[bl,qH];rw[qD om,qD om];simp only[qI,zag,List.getD,List.getElem?_take];rw[if_pos om,if_pos om]
 .by_cases hj2:j<8 * (k+1)
  .rw[List.getElem?_append_right (by rw[zcx,h2];omega),zcx,h2];simp only[bl,za8,qH];rw[qD om,qD om];simp only[qI,zag,List.getD,List.getElem?_take];rw[if_pos om,show j / 8=k from om,show 7 - j%8=8 - 1 - (j - 8 * k)from om];rfl
  .rw[qM (by rw[zcx,h1];omega),qM (by rw[List.length_append,zcx,h2,zbB];omega)]
theorem ziw(q:List UInt8)(r:Nat)(hq:q.length≠0)(hr:r<8):zag q (8 * q.length - 1 - r)=zbn q / 2^r%2:=by unfold zag zbn;rw[show(8 * q.length - 1 - r) / 8=q.length - 1 from om,show 7 - (8 * q.length - 1 - r)%8=r from om]
theorem zmz(q:List UInt8)(hq:q.length≠0)(hb:zbn q≠0):zag q (nb q)=1/\nb q<8 * q.length/\∀ j,nb q<j->j<8 * q.length->zag q j=0:=by
 have hlt:zbn q<256:=UInt8.toNat_lt _;obtain⟨h1,h2,h3⟩:=(zkw _ hlt).resolve_left hb;refine⟨?_,by unfold nb;omega,λj hj hj2=> ?_⟩
 .rw[nb,ziw q _ hq h1,h2]
 .unfold nb at hj;have:=ziw q (8 * q.length - 1 - j) hq om;rw[show 8 * q.length - 1 - (8 * q.length - 1 - j)=j from om]at this;rw[this];exact(h3 _ om).resolve_left om
def rR(j v n a:Nat):Blk:=⟨320,0,[.msl j v 0 n 1 true,.int .i64 (a:Int)]⟩
def rB(q:List UInt8)(v:Nat):Blk:=⟨5,v,bs (zb (bl q))⟩
theorem zee(i j v:Nat)(q:List UInt8)(n a:Nat)(H:za)(hA:H[i]? =some (rR j v n a))(hB:H[j]? =some (rB q v))(ha:a<=n)(hn:n<=1000000000):CallOk qA 167 [.ptr i 0 0] H (.int .i64 ((n - a:Nat):Int)) H:=by have e:(n:Int) - (a:Int)=((n - a:Nat):Int):=om;refine .go Tryz.func167 Tryz.ntmps167 Tryz.results167 ?_;refine .e ?_;(repeat refine .seq ?_);refine .draw mix kr λK hK=> ?_;simp(disch:=omega) only[go_sem,hA,hB,rR,rB,e];refine hK _ _ ?_;clear hK K;exact .ret ⟨_,rfl,Fin.now⟩
theorem zeb(i j v:Nat)(q:List UInt8)(n a m:Nat)(H:za)(hA:H[i]? =some (rR j v n a))(hB:H[j]? =some (rB q v))(hne:i≠j)(ha:a+m<=n)(hn:n<=8 * q.length)(hq:q.length<=100000000)(hm:m<=32):
  CallOk qA 165 [.ptr i 0 0,.int .i64 (m:Int)] H (.tup [.int .u32 (vl q a m:Int),.int .i64 0]) (H.set i (rR j v n (a+m))):=by
 have hi:=(qL.1 hA).1;have hlf:=zee i j v q n a H hA hB om om;refine .go Tryz.func165 Tryz.ntmps165 Tryz.results165 ?_;refine .e ?_;refine .e ?_;refine .us ?_;refine .f (λK k=>by simp(disch:=omega) only[go_sem];refine VCx.call (hlf) rfl ?_;simp(disch:=omega) only[go_sem];exact k) ?_;refine .us ?_;refine .e ?_;refine .e ?_;refine .l ?_;suffices hloop:∀(k:Nat),k<=m->PL qA _ _ [(0,.ptr i 0 0),(1,.int .i64 (m:Int)),(6,.int .u32 (vl q a k:Int)),(7,.int .i64 (k:Int))] H _ by exact .at [0,1,6,7] (hloop 0 (qK _)) rfl rfl
 intro k hk;induction hmk:m - k using qB generalizing k with
 | _ r ih=>
  refine .round ?_;refine .e ?_;refine .c (λh=> ?_) (λh=> ?_)
  .have h4:k<m:=ot h;have hnext:=ih (m - (k+1)) om (k+1) om rfl;have hul:=zcd q (a+k);have hvl:=zgg q a k;have hvl2:2 * vl q a k<4294967296:=by have:2^k<=2^31:=qF om om;omega
   have e4:(a:Int)+(k:Int)=((a+k:Nat):Int):=om;have hbl:=zcx q;refine .skip ?_;refine .b ?_;(repeat refine .seq ?_);refine .draw mix kr λK hK=> ?_;simp(disch:=omega) only[go_sem,hA,hB,rR,rB,e4,zd,zb7,hbl,zif,ziJ,znu];refine hK _ _ ?_;clear hK K;refine .e ?_;exact .at [0,1,6,7] hnext rfl rfl
  .have h4:k=m:=ofF h;subst h4;have e4:(a:Int)+(k:Int)=((a+k:Nat):Int):=om;refine .exit ?_;refine .f (λK k=>by simp(disch:=omega) only[go_sem,hA,rR,e4];exact k) ?_;refine .e ?_;exact .ret ⟨_,rfl,Fin.now⟩
theorem zfP(i j v:Nat)(q:List UInt8)(n a m:Nat)(H:za)(hA:H[i]? =some (rR j v n a))(hB:H[j]? =some (rB q v))(ha:a<=n)(hn:n<=1000000000)(hm:m<=32)(hs:n - a<m):
  CallOk qA 165 [.ptr i 0 0,.int .i64 (m:Int)] H (.tup [.int .u32 0,.int .i64 4]) H:=by
 have hlf:=zee i j v q n a H hA hB ha hn;have d1:decide (((n - a:Nat):Int)<(m:Int))=true:=decide_eq_true om;refine .go Tryz.func165 Tryz.ntmps165 Tryz.results165 ?_;refine .e ?_;refine .e ?_;refine .us ?_;refine .f (λK k=>by simp(disch:=omega) only[go_sem,d1];refine VCx.call (hlf) rfl ?_;simp(disch:=omega) only[go_sem,d1];exact k) ?_;refine .t ?_;refine .e ?_;exact .ret ⟨_,rfl,Fin.now⟩
theorem zq2(q:List UInt8)(f:Bool)(H:za)(hl:q.length<=100000000)(hb:q.length=0\/zbn q=0):
  CallOk qA 164 [.slice (bs q) q.length f] H (.tup [.nilp,.int .i64 3]) H:=by
 refine .go Tryz.func164 Tryz.ntmps164 Tryz.results164 ?_;by_cases h0:q.length=0
 .refine .e ?_;(repeat refine .seq ?_);refine .rg rfl λK hK=> ?_;simp(disch:=omega) only[go_sem,h0];refine hK _ _ ?_;clear hK K;refine .c (λh=> ?_) (λh=> ?_)
  .refine .e ?_;exact .ret ⟨_,rfl,Fin.now⟩
  .cases h
 .have e1:(q.length:Int) - 1=((q.length - 1:Nat):Int):=om;have hby:byt q (q.length - 1)=0:=by have:byt q (q.length - 1)=(zbn q:Int):=rfl;omega
  refine .e ?_;(repeat refine .seq ?_);refine .rg rfl λK hK=> ?_;simp(disch:=omega) only[go_sem,e1,zaf,zd,hby];refine hK _ _ ?_;clear hK K;refine .c (λh=> ?_) (λh=> ?_)
  .refine .e ?_;exact .ret ⟨_,rfl,Fin.now⟩
  .cases h
theorem ztx(q:List UInt8)(f:Bool)(H:za)(hl:q.length<=100000000)(hq:q.length≠0)(hb:zbn q≠0):
  CallOk qA 164 [.slice (bs q) q.length f] H (.tup [.ptr (H.length+1) 0 0,.int .i64 0]) (H++[rB q (8 * q.length),rR H.length (8 * q.length) (nb q) 0]):=by
 have e1:(q.length:Int) - 1=((q.length - 1:Nat):Int):=om;have hby:byt q (q.length - 1)=(zbn q:Int):=rfl;obtain⟨n1,n2,n3⟩:=zmz q hq hb;refine .go Tryz.func164 Tryz.ntmps164 Tryz.results164 ?_;refine .e ?_;refine .f (λK k=>by simp(disch:=omega) only[go_sem,e1,zaf,zd,hby];exact k) ?_;refine .us ?_;refine .e ?_;refine .e ?_;(repeat refine .seq ?_);refine .view (Vs.ghost 4 5 1 rfl) ?_;refine .block (PW.loop ?_);suffices hloop:∀(k:Nat),k<=q.length->PL qA _ _ [(0,.slice (bs q) q.length f),(4,.msl H.length (8 * k) 0 (8 * k) 1 true),(5,.int .i64 (k:Int))] (H++[⟨5,(8 * k),bs (zb (bl (q.take k)))⟩]) _ by exact .at [0,4,5] (hloop 0 (qK _)) (by simp(disch:=omega) only[go_sem];simp[zb,bs,bl]) (by simp[zb,bs,bl])
 intro k hk;induction hm:q.length - k using qB generalizing k with
 | _ m ih=>
  have hlk:(zb (bl (q.take k))).length=8 * k:=by rw[zb7,zcx,qJ];omega
  refine .round ?_;refine .e ?_;refine .c (λh=> ?_) (λh=> ?_)
  .have h4:k<q.length:=ot h;have hnext:=ih (q.length - (k+1)) om (k+1) om rfl;rw[zue q k h4,zfB,zR]at hnext;have hbk:byt q k=((q.getD k 0).toNat:Int):=rfl;have hr:=zK q k;have hv8:(za8 (q.getD k 0).toNat 8).length=8:=zbB _ _;refine .skip ?_;refine .b ?_;have hbits:=zpg (q.getD k 0).toNat 8 (H++[⟨5,(8 * k),bs (zb (bl (q.take k)))⟩]) om;refine .f (λK k=>by simp(disch:=omega) only[go_sem,zaf,zd,hlk,hbk,zb7,hv8];refine VCx.call (hbits) rfl ?_;simp(disch:=omega) only[go_sem,zaf,zd,hlk,hbk,zb7,hv8];exact k) ?_;refine .e ?_;have hce:(bs (zb (bl (List.take k q)))++bs (zb (za8 (q.getD k 0).toNat 8))).length=8 * (k+1):=by rw[List.length_append,zd,zd,hlk,zb7,hv8];omega
   refine .at [0,4,5] hnext ?_ ?_
   .refine sqz ?_;rw[hce];rfl
   .rw[hce]
  .have h4:k=q.length:=ofF h;subst h4;rw[qE (qG _)]at hlk |-;refine .exit ?_;have hbl:=zcx q;have e2:((8 * q.length:Nat):Int) - 1=((8 * q.length - 1:Nat):Int):=om;refine .f (λK k=>by simp(disch:=omega) only[go_sem,zd,e2];exact k) ?_;refine .l ?_;clear ih;suffices hloop:∀(m:Nat),nb q<=m->m<8 * q.length->PL qA _ _ [(4,.msl H.length (8 * q.length) 0 (8 * q.length) 1 true),(6,.int .i64 (m:Int))] (H++[⟨5,8 * q.length,bs (zb (bl q))⟩]) _ by exact .at [4,6] (hloop (8 * q.length - 1) om om) rfl rfl
   intro m hm1 hm2;induction m using qB with
   | _ m ih=>
    refine .round ?_;by_cases h5:m=nb q
    .have h6:zag q m=1:=by rw[h5];exact n1
     refine .f (λK k=>by simp(disch:=omega) only[go_sem,zd,zb7,hbl,zif,h6];exact k) ?_;refine .u ?_;refine .exit ?_;refine .g h5 ?_;exact .ret ⟨_,rfl,Fin.now⟩
    .have h6:zag q m=0:=n3 m om hm2;have e3:(m:Int) - 1=((m - 1:Nat):Int):=om;refine .f (λK k=>by simp(disch:=omega) only[go_sem,zd,zb7,hbl,zif,h6];exact k) ?_;refine .c (λh=> ?_) (λh=> ?_)
     .refine .skip ?_;refine .b ?_;refine .g e3 ?_;exact .at [4,6] (ih (m - 1) om om om) rfl rfl
     .cases h
end Sc
end Go.Proofs.YtdajpjenhcobkaaGreatDoor
