/-
  Parts of the proof. No condition.
-/
import Derived.Test.YtleejngibkbjnaaGreatDoorW04
open Go.Proofs.YtleejngibkbjnaaGreatDoor.Pm.PV renaming int → O
open Go.IntKind renaming i64 → J
open Nat renaming strongRecOn → qA
open Go.Proofs.Tryz
set_option linter.all false
set_option maxRecDepth 100000
set_option maxHeartbeats 32000000
namespace Go.Proofs.YtleejngibkbjnaaGreatDoor
namespace Sc
open Pm Ty Go.RowKit
def zb(l:List Bool):List UInt8:=l.map λb=>if b then 1 else 0
theorem zca(l:List Bool):(zb l).length=l.length:=by simp[zb]
theorem zgd(l m:List Bool):zb (l++m)=zb l++zb m:=by simp[zb]
theorem zxr(l:List Bool)(i:Nat)(h:i<l.length):byt (zb l) i=(bn l i:Int):=by simp only[byt,zb,bn,List.getD,vD,gG h,vM,rK];cases l[i]<;>rfl
theorem zy3(m:Nat):bs (zb [decide (m%2=1)])=[.int .u8 ((m%2:Nat):Int)]:=by rcases Nat.mod_two_eq_zero_or_one m with h|h<;>simp[zb,bs,h]
theorem zuq(V n:Nat)(H:za)(hn:n<=32):CallOk prog 265 [.int .u32 (V:Int),O J (n:Int)] H (.msl H.length (bs (zb (zbl V n))).length 0 n 1 true) (H++[⟨5,(bs (zb (zbl V n))).length,bs (zb (zbl V n))⟩]):=by
 refine .go func265 ntmps265 results265 ?_;refine .e (.e ?_);refine .e ?_;(repeat refine .seq ?_);refine .view (Vs.ghost 5 5 1 rfl) ?_;refine .block (PW.loop ?_);suffices hloop:∀(k:Nat),k<=n->PL prog _ _ [(0,.int .u32 (V:Int)),(5,.msl H.length (bs (zb ((zbl V n).take k))).length 0 k 1 true),(6,O J ((n:Int) - 1 - (k:Int)))] (H++[⟨5,(bs (zb ((zbl V n).take k))).length,bs (zb ((zbl V n).take k))⟩]) _ by exact .a (hloop 0 (vU _)) (by simp(disch:=omega) only[go_sem];simp[zb,bs]) (by simp[zb,bs])
 intro k hk;have hl:(zb ((zbl V n).take k)).length=k:=by rw[zca,wA,zbN];omega
 induction hm:n - k using qA generalizing k with
 | _ m ih=>
  refine .round (.e ?_);refine .c (λh=> ?_) (λh=> ?_)
  .have h4:k<n:=ot h;have e1:(n:Int) - 1 - (k:Int)=((n - 1 - k:Nat):Int):=om;have htk:=znc V n k h4;have hb1:=zy3 (V / 2^(n - 1 - k));have hmd:V / 2^(n - 1 - k)%2<2:=rC _ om;refine .skip (.b ?_);refine .f (λK k=>by simp(disch:=omega) only[go_sem,e1,zi5,zsk,zqt,zd,hl];exact k) ?_;refine .e (.a (ih (n - (k+1)) om (k+1) om (by rw[zca,wA,zbN];omega) rfl) ?_ ?_)
   .rw[htk,zgd,zS,hb1];refine sqz ?_;have:((n - 1 - k:Nat):Int) - 1=(n:Int) - 1 - ((k+1:Nat):Int):=om;rw[this]
   .rw[htk,zgd,zS,hb1]
  .have h4:k=n:=ofF h;subst h4;have htk:(zbl V k).take k=zbl V k:=gH (by rw[zbN];exact gV _);rw[htk]at hl |-;refine .exit (.e ?_);exact .ret ⟨_,rfl,Fin.now⟩
def zal(p:List UInt8)(k:Nat):Nat:=(p.getD (k / 8) 0).toNat / 2^(7 - k%8)%2
theorem zch(p:List UInt8)(k:Nat):zal p k<2:=rC _ om
def vl(p:List UInt8)(a:Nat):Nat->Nat
 | 0=>0
 | n+1=>2 * vl p a n+zal p (a+n)
theorem zgQ(p:List UInt8)(a:Nat):∀ n,vl p a n<2^n
 | 0=>by simp[vl]
 | n+1=>by have h1:=zgQ p a n;have h2:=zch p (a+n);rw[vl,Nat.pow_succ];omega
theorem zjv(k':IntKind)(V:Nat)(h:2 * V<4294967296):za7 .shl .u32 (V:Int) k' 1=some (.int .u32 ((2 * V:Nat):Int)):=by simp only[za7,IntKind.bits];rw[gC om,show min (1:Int).toNat 32=1 from rfl,show(V:Int) * (2:Int)^1=((2 * V:Nat):Int)from om,w32 _ om]
theorem zvB(a b:Nat)(hb:b<2):2 * a|||b=2 * a+b:=by
 have h1:2 * a=a<<<1:=by rw[Nat.shiftLeft_eq];omega
 rw[h1,Nat.shiftLeft_add_eq_or_of_lt (by simpa using hb)]
theorem zo0(a b:Nat)(hb:b<2)(h:2 * a<4294967296):za7 .or .u32 ((2 * a:Nat):Int) .u32 (b:Int)=some (.int .u32 ((2 * a+b:Nat):Int)):=by
 have key0:(BitVec.ofInt 32 ((2 * a:Nat):Int)|||BitVec.ofInt 32 (b:Int)).toNat=2 * a+b:=by rw[nD,nD,BitVec.toNat_or,BitVec.toNat_ofNat,BitVec.toNat_ofNat,sZ om,sZ om];exact zvB a b hb
 have key:(BitVec.ofInt IntKind.u32.bits ((2 * a:Nat):Int)|||BitVec.ofInt IntKind.u32.bits (b:Int)).toNat=2 * a+b:=key0;simp only[za7,key,wN];rw[w32 _ om]
def rA(p:List UInt8)(n a:Nat):Blk:=⟨245,0,[.slice (bs p) p.length false,O J (n:Int),O J (a:Int)]⟩
theorem zse(i:Nat)(p:List UInt8)(n a:Nat)(H:za)(hA:H[i]? =some (rA p n a))(ha:a<=n)(hn:n<=1000000000):CallOk prog 88 [.ptr i 0 0] H (O J ((n - a:Nat):Int)) H:=by have e:(n:Int) - (a:Int)=((n - a:Nat):Int):=om;refine .go func88 ntmps88 results88 ?_;(repeat'(first|refine .seq ?_|refine .skip ?_|((first|refine .rg rfl λK hK=> ?_|refine .draw mix kr λK hK=> ?_);simp(disch:=omega) only[go_sem,hA,rA,e])|(refine hK _ _ ?_)|(refine .cond (t:=_) rfl (λh=> ?_) (λh=> ?_)<;>(try(cases h;done))<;>(try simp only[nqb]at h))));all_goals exact .ret ⟨_,rfl,Fin.now⟩
theorem zb2(i:Nat)(p:List UInt8)(n a m:Nat)(H:za)(hA:H[i]? =some (rA p n a))(ha:a<=n)(hn:n<=1000000000)(hm:m<=32)(hs:n - a<m):
  CallOk prog 85 [.ptr i 0 0,O J (m:Int)] H (.tup [.int .u32 0,O J 4]) H:=by
 refine .go func85 ntmps85 results85 ?_;(repeat'(first|refine .seq ?_|refine .skip ?_|((first|refine .rg rfl λK hK=> ?_|refine .draw mix kr λK hK=> ?_);simp(disch:=omega) only[go_sem,hA,rA])|(refine hK _ _ ?_)|(refine .cond (t:=_) rfl (λh=> ?_) (λh=> ?_)<;>(try(cases h;done))<;>(try simp only[nqb]at h))));all_goals exact .ret ⟨_,rfl,Fin.now⟩
theorem zee(i:Nat)(p:List UInt8)(n a m:Nat)(H:za)(hA:H[i]? =some (rA p n a))(ha:a+m<=n)(hn:n<=8 * p.length)(hp:p.length<=100000000)(hm:m<=32):
  CallOk prog 85 [.ptr i 0 0,O J (m:Int)] H (.tup [.int .u32 (vl p a m:Int),O J 0]) (H.set i (rA p n (a+m))):=by
 have hi:=(gA.1 hA).1;have hself:=zam hA;refine .go func85 ntmps85 results85 ?_;refine .e ?_;(repeat refine .seq ?_);refine .rgv [0,1] 17 (.bool false) rfl ?_ ?_
 .simp(disch:=omega) only[go_sem,hA,rA]
 refine .us (.dn λK hK=> ?_);simp(disch:=omega) only[go_sem,hA,rA];refine hK _ _ ?_;refine .us (.e ?_);refine .e (.l ?_);suffices hloop:∀(k:Nat),k<=m->PL prog _ _ [(0,.ptr i 0 0),(6,.int .u32 (vl p a k:Int)),(29,O J (m:Int)),(30,O J (k:Int))] (H.set i (rA p n (a+k))) _ by exact .a (hloop 0 (vU _)) rfl hself.symm
 intro k hk;induction hmk:m - k using qA generalizing k with
 | _ r ih=>
  refine .round (.e ?_);have hat:∀ B:Blk,(H.set i B)[i]? =some B:=λB=>by simp[hi]
  refine .c (λh=> ?_) (λh=> ?_)
  .have h4:k<m:=ot h;have hnext:=ih (m - (k+1)) om (k+1) om rfl;have hr8:(a+k)%8<8:=rC _ om;have hq8:(a+k) / 8<p.length:=om;have hu:zal p (a+k)=(p.getD ((a+k) / 8) 0).toNat / 2^(7 - (a+k)%8)%2:=rfl;have e3:(7:Int) - (((a+k)%8:Nat):Int)=((7 - (a+k)%8:Nat):Int):=om;have e4:((a+k:Nat):Int)+1=((a+(k+1):Nat):Int):=om;have hul:=zch p (a+k);have hvl:=zgQ p a k;have hvl2:2 * vl p a k<4294967296:=by have:2^k<=2^31:=dF om om;omega
   have hb:byt p ((a+k) / 8)=((p.getD ((a+k) / 8) 0).toNat:Int):=rfl;refine .skip (.b ?_);refine .dn λK hK=> ?_;simp(disch:=omega) only[go_sem,hat,rA,zzz,zzx,zd,zak,e3,hb,zvr,zsK,<-hu];refine hK _ _ ?_;refine .g (nq2 @zjv @zo0) ?_;refine .f (λK k=>by simp(disch:=omega) only[go_sem,hat,rA,e4,vL];exact k) ?_;refine .e ?_;exact .a hnext
  .have h4:k=m:=ofF h;subst h4;refine .exit (.e ?_);refine .ret ⟨_,rfl,Fin.now⟩
inductive Rr(α:Type) where
 | ok (v:α) (a:Nat)
 | er (e:Nat) (a:Nat)
def Rr.bind{α β:Type}(x:Rr α)(f:α->Nat->Rr β):Rr β:=match x with| .ok v a=>f v a| .er e a=>.er e a
def Rr.at{α:Type}:Rr α->Nat| .ok _ a=>a| .er _ a=>a
theorem Rr.bind_ok{α β:Type}(v:α)(a:Nat)(f:α->Nat->Rr β):(Rr.ok v a).bind f=f v a:=rfl
theorem Rr.bind_er{α β:Type}(e a:Nat)(f:α->Nat->Rr β):(Rr.er e a:Rr α).bind f= .er e a:=rfl
theorem Rr.bind_bind{α β γ:Type}(x:Rr α)(f:α->Nat->Rr β)(g:β->Nat->Rr γ):(x.bind f).bind g=x.bind λv a=>(f v a).bind g:=by cases x<;>rfl
theorem zj2(p:List UInt8)(a m:Nat):∀ n,vl p a (m+n)=vl p a m * 2^n+vl p (a+m) n
 | 0=>by simp[vl]
 | n+1=>by rw[show m+(n+1)=(m+n)+1 from om,vl,zj2 p a m n,vl,Nat.pow_succ,show a+(m+n)=a+m+n from om,<-Nat.mul_assoc];omega
def zrs(q:List UInt8)(n:Nat):Nat->Nat->Nat
 | 0,_=>0
 | c+1,a=>if a<n/\zal q a=0 then zrs q n c (a+1)+1 else 0
section
variable {q:List UInt8} {n:Nat}
theorem zm5:∀(c a:Nat),zrs q n c a<=c
 | 0,a=>by simp[zrs]
 | c+1,a=>by have:=zm5 c (a+1);simp only[zrs];split<;>omega
theorem zlp{c a:Nat}(h:a<n)(h0:zal q a=0):zrs q n (c+1) a=zrs q n c (a+1)+1:=by simp only[zrs];rw[gD ⟨h,h0⟩]
theorem zos{c a:Nat}(h:n<=a):zrs q n c a=0:=by
 cases c with
 | zero=>rfl
 | succ c=>simp only[zrs];rw[gC om]
theorem zor{c a:Nat}(h:zal q a=1):zrs q n c a=0:=by
 cases c with
 | zero=>rfl
 | succ c=>simp only[zrs];rw[gC om]
theorem zqX:∀(c a k:Nat),k<=zrs q n c a->vl q a k=0
 | 0,a,k,h=>by
  have:k=0:=by simpa[zrs]using h
  subst this;rfl
 | c+1,a,k,h=>by
  simp only[zrs]at h;split at h
  .rename_i hh;cases k with
   | zero=>rfl
   | succ k=>rw[show k+1=1+k from om,zj2,zqX c (a+1) k om];simp[vl,hh.2]
  .have:k=0:=om;subst this;rfl
theorem zqY:∀(c a:Nat),zrs q n c a<c->a+zrs q n c a<n->zal q (a+zrs q n c a)=1
 | 0,a,h,_=>om
 | c+1,a,h,h2=>by
  simp only[zrs]at h h2 |-;split at h
  .rename_i hh;rw[gD hh]at h2 |-;have:=zqY c (a+1) om om;rwa[show a+(zrs q n c (a+1)+1)=a+1+zrs q n c (a+1)from om]
  .rename_i hh;rw[gC hh]at h2 |-;have:=zch q a;have h3:¬ zal q a=0:=λe=>hh ⟨om,e⟩;rw[vQ];omega
end
def tkU(q:List UInt8)(n a:Nat):Rr Nat:=if zrs q n 16 a=16 then .er 2 a else if n - a<2 * zrs q n 16 a+1 then .er 3 a else .ok (2^zrs q n 16 a+vl q (a+zrs q n 16 a+1) (zrs q n 16 a) - 1) (a+(2 * zrs q n 16 a+1))
def usg(v:Nat):Int:=if v%2=1 then((v+1) / 2:Nat)else -((v / 2:Nat):Int)
def tkS(q:List UInt8)(n a:Nat):Rr Int:=(tkU q n a).bind λv a=>.ok (usg v) a
theorem zdR{q:List UInt8}{n a v a1:Nat}(h:tkU q n a= .ok v a1)(ha:a<=n):v<=65534/\a<a1/\a1<=n:=by
 unfold tkU at h;split at h
 .cases h
 .split at h
  .cases h
  .have h1:=zm5 (q:=q) (n:=n) 16 a;injection h with h2 h3;have h4:zrs q n 16 a<=15:=om;have h5:=zgQ q (a+zrs q n 16 a+1) (zrs q n 16 a);have h6:2^zrs q n 16 a<=2^15:=dF om h4;omega
theorem zgR{q:List UInt8}{n a e a1:Nat}(h:tkU q n a= .er e a1):a1=a/\e<=3:=by
 unfold tkU at h;split at h
 .injection h with h2 h3;omega
 .split at h
  .injection h with h2 h3;omega
  .cases h
theorem zxL(q:List UInt8)(n a:Nat)(h:¬ zrs q n 16 a=16)(h2:¬ n - a<2 * zrs q n 16 a+1):vl q a (2 * zrs q n 16 a+1)=2^zrs q n 16 a+vl q (a+zrs q n 16 a+1) (zrs q n 16 a):=by have h1:=zm5 (q:=q) (n:=n) 16 a;have h3:=zqY (q:=q) (n:=n) 16 a om om;have h4:=zqX (q:=q) (n:=n) 16 a (zrs q n 16 a) (gV _);generalize zrs q n 16 a=k at *;rw[show 2 * k+1=k+(1+k)from om,zj2,zj2,h4];simp only[vl,vQ,h3,vV,wF,dU,wK]
theorem zzt(v:Nat)(h:v<=65534): -32767<=usg v/\usg v<=32767:=by unfold usg;split<;>omega
theorem zcS{q:List UInt8}{n a a1:Nat}{v:Int}(h:tkS q n a= .ok v a1)(ha:a<=n):(-32767<=v/\v<=32767)/\a<a1/\a1<=n:=by
 unfold tkS at h;cases hu:tkU q n a with
 | er e a2=>rw[hu]at h;cases h
 | ok w a2=>rw[hu]at h;injection h with h2 h3;have:=zdR hu ha;subst h2 h3;exact⟨zzt w this.1,this.2⟩
theorem zft{q:List UInt8}{n a e a1:Nat}(h:tkS q n a= .er e a1):a1=a/\e<=3:=by
 unfold tkS at h;cases hu:tkU q n a with
 | ok w a2=>rw[hu]at h;cases h
 | er e a2=>rw[hu]at h;injection h with h2 h3;have:=zgR hu;omega
end Sc
namespace Sc
open Pm Ty Go.RowKit
def tz8(b:Nat):Nat:=if b%2≠0 then 0 else if b%4≠0 then 1 else if b%8≠0 then 2 else if b%16≠0 then 3 else if b%32≠0 then 4 else if b%64≠0 then 5 else if b%128≠0 then 6 else if b%256≠0 then 7 else 8
theorem zlC:∀ b<256,b=0\/(tz8 b<8/\b / 2^tz8 b%2=1/\∀ j<8,tz8 b<=j\/b / 2^j%2=0):=by decide+kernel
def zxa(r:Option Res)(v:Nat):Bool:=match r with
 | some (.val (O J n) [])=>n==(v:Int)
 | _=>false
theorem zxG:∀ b:Nat,b<256->zxa (zjH prog 100 (.call 143 [.int .u8 (b:Int)] [])) (tz8 b)=true:=by decide+kernel
theorem zzu(b:Nat)(hb:b<256)(H:za):CallOk prog 143 [.int .u8 (b:Int)] H (O J (tz8 b:Int)) H:=by
 refine .eval 100 ?_ ?_
 .have h:=zxG b hb;unfold zxa at h;split at h
  .rename_i he;rw[he,eq_of_beq h]
  .cases h
 .intro x hx;simp only[gM,gL,uA]at hx;rw[hx];exact .int _ _
def zbo(q:List UInt8):Nat:=(q.getD (q.length - 1) 0).toNat
def nb(q:List UInt8):Nat:=8 * q.length - 1 - tz8 (zbo q)
theorem zsU(q:List UInt8)(f:Bool)(H:za)(hl:q.length<=100000000)(hb:q.length=0\/zbo q=0):
  CallOk prog 84 [.slice (bs q) q.length f] H (.tup [.nilp,O J 3]) H:=by
 refine .go func84 ntmps84 results84 ?_;by_cases h0:q.length=0
 .refine .e (.x λK hK=> ?_);simp(disch:=omega) only[go_sem,h0];refine hK _ _ ?_;refine .c (λh=> ?_) (λh=> ?_)
  .refine .e ?_;exact .ret ⟨_,rfl,Fin.now⟩
  .cases h
 .have e1:(q.length:Int) - 1=((q.length - 1:Nat):Int):=om;have hby:byt q (q.length - 1)=0:=by have:byt q (q.length - 1)=(zbo q:Int):=rfl;omega
  refine .e (.x λK hK=> ?_);simp(disch:=omega) only[go_sem,e1,zak,zd,hby];refine hK _ _ ?_;refine .c (λh=> ?_) (λh=> ?_)
  .refine .e ?_;exact .ret ⟨_,rfl,Fin.now⟩
  .cases h
theorem zvE(q:List UInt8)(f:Bool)(H:za)(hl:q.length<=100000000)(hq:q.length≠0)(hb:zbo q≠0):
  CallOk prog 84 [.slice (bs q) q.length f] H (.tup [.ptr (H.length+1) 0 0,O J 0]) (H++[⟨5,1,[]⟩,rA q (nb q) 0]):=by
 have e1:(q.length:Int) - 1=((q.length - 1:Nat):Int):=om;have hby:byt q (q.length - 1)=(zbo q:Int):=rfl;have hlt:zbo q<256:=UInt8.toNat_lt _;have htz:tz8 (zbo q)<8:=((zlC _ hlt).resolve_left hb).1;refine .go func84 ntmps84 results84 ?_;refine .e (.f (λK k=>by simp(disch:=omega) only[go_sem,e1,zak,zd,hby];exact k) ?_);refine .us (.e ?_);have hcl:(List.replicate q.length [PV.int .u8 0]).flatten.length=q.length:=by simp
 refine .to [0,4] [(0,.slice (bs q) q.length f),(4,.ptr (H.length+1) 0 0)] (H++[⟨5,0,bs q⟩,⟨245,0,[.msl H.length 0 0 q.length 1 true,O J 0,O J 0]⟩]) ?_ ?_
 .refine .f (λK k=>by simp(disch:=omega) only[go_sem,zd,hcl];exact k) ?_;refine⟨rfl,?_⟩;have htk:List.take q.length (bs q)=bs q:=gH (by rw[zd];exact gV _);simp[zM,zcc,zd,htk]
 refine .view (Vs.frzCell (id:=H.length) (id':=H.length+1) (j:=0) (hp0 _ _ _) (hp1 _ _ _ _) om rfl (by simp[zd])) ?_;simp only[hs0,hs1,rV];refine .f (λK k=>by simp(disch:=omega) only[go_sem,zd,e1,zak,hby];refine VCx.call (zzu _ hlt _) rfl ?_;simp(disch:=omega) only[go_sem,zd,e1,zak,hby];exact k) ?_;refine .e ?_;have e2:8 * (q.length:Int) - 1 - (tz8 (zbo q):Int)=(nb q:Int):=by unfold nb;omega
 refine .ret ⟨_,rfl,?_⟩;refine .inl ⟨?_,?_⟩
 .simp[slot,Nat.beq]
 .rw[e2];rfl
theorem _root_.Go.Proofs.YtleejngibkbjnaaGreatDoor.Pm.CallOk.lose{P:Program}{H:za}{f:FuncId}{args:List PV}{v v':PV}{K:za}(h:CallOk P f args H v (H++K))(hz:Fz H.length (H++K) v v'):CallOk P f args H v' H:=
 ⟨h.1,λC us w hw hu=>(h.2 C us w hw hu).mono λe w' ⟨C',u,q1,q2,q3,q4,q5⟩=>by
  obtain⟨g1,g2⟩:=WRel.give hw q1 q2;exact⟨_,u,g1,g2,q3,q4,Fz.sound q2 hz q5⟩⟩
theorem zqQ(V n:Nat)(H:za)(hn:n<=32):CallOk prog 265 [.int .u32 (V:Int),O J (n:Int)] H (.slice (bs (zb (zbl V n))) n false) H:=(zuq V n H hn).lose (Fz.mslC (e:=5) (xs:=bs (zb (zbl V n))) (gV _) sp (by simp[zd,zca,zbN]) (FzC.refl (zh _ _)))
def bl(q:List UInt8):List Bool:=(List.range (8 * q.length)).map λk=>decide (zal q k=1)
theorem zcK(q:List UInt8):(bl q).length=8 * q.length:=by simp[bl]
theorem zAy(q:List UInt8)(k:Nat)(h:k<8 * q.length):bn (bl q) k=zal q k:=by have:=zch q k;simp[bn,bl,h];have:zal q k=0\/zal q k=1:=om;rcases this with e|e<;>simp[e]
theorem zi1(q:List UInt8)(k:Nat)(h:k<8 * q.length):(bs (zb (bl q)))[k]? =some (.int .u8 (zal q k:Int)):=by rw[zak _ _ (by rw[zca,zcK];exact h),zxr _ _ (by rw[zcK];exact h),zAy q k h]
theorem zwm(q:List UInt8)(k:Nat)(h:k<q.length):bl (q.take (k+1))=bl (q.take k)++zbl (q.getD k 0).toNat 8:=by
 apply dG;intro j;have h1:(q.take (k+1)).length=k+1:=by simp;omega
 have h2:(q.take k).length=k:=by simp;omega
 by_cases hj:j<8 * k
 .rw[gK (by rw[zcK,h2];exact hj)];simp only[bl,vD];rw[dJ om,dJ om];simp only[vM,zal,List.getD,vZ];rw[gD om,gD om]
 .by_cases hj2:j<8 * (k+1)
  .rw[gN (by rw[zcK,h2];omega),zcK,h2];simp only[bl,zbl,vD];rw[dJ om,dJ om];simp only[vM,zal,List.getD,vZ];rw[gD om,show j / 8=k from om,show 7 - j%8=8 - 1 - (j - 8 * k)from om];rfl
  .rw[vP (by rw[zcK,h1];omega),vP (by rw[gP,zcK,h2,zbN];omega)]
theorem zji(q:List UInt8)(r:Nat)(hq:q.length≠0)(hr:r<8):zal q (8 * q.length - 1 - r)=zbo q / 2^r%2:=by unfold zal zbo;rw[show(8 * q.length - 1 - r) / 8=q.length - 1 from om,show 7 - (8 * q.length - 1 - r)%8=r from om]
theorem znQ(q:List UInt8)(hq:q.length≠0)(hb:zbo q≠0):zal q (nb q)=1/\nb q<8 * q.length/\∀ j,nb q<j->j<8 * q.length->zal q j=0:=by
 have hlt:zbo q<256:=UInt8.toNat_lt _;obtain⟨h1,h2,h3⟩:=(zlC _ hlt).resolve_left hb;refine⟨?_,by unfold nb;omega,λj hj hj2=> ?_⟩
 .rw[nb,zji q _ hq h1,h2]
 .unfold nb at hj;have:=zji q (8 * q.length - 1 - j) hq om;rw[show 8 * q.length - 1 - (8 * q.length - 1 - j)=j from om]at this;rw[this];exact(h3 _ om).resolve_left om
def rR(j v n a:Nat):Blk:=⟨346,0,[.msl j v 0 n 1 true,O J (a:Int)]⟩
def rB(q:List UInt8)(v:Nat):Blk:=⟨5,v,bs (zb (bl q))⟩
theorem zeJ(i j v:Nat)(q:List UInt8)(n a:Nat)(H:za)(hA:H[i]? =some (rR j v n a))(hB:H[j]? =some (rB q v))(ha:a<=n)(hn:n<=1000000000):CallOk prog 232 [.ptr i 0 0] H (O J ((n - a:Nat):Int)) H:=by have e:(n:Int) - (a:Int)=((n - a:Nat):Int):=om;refine .go func232 ntmps232 results232 ?_;refine .e (.dn λK hK=> ?_);simp(disch:=omega) only[go_sem,hA,hB,rR,rB,e];refine hK _ _ ?_;exact .ret ⟨_,rfl,Fin.now⟩
theorem zeG(i j v:Nat)(q:List UInt8)(n a m:Nat)(H:za)(hA:H[i]? =some (rR j v n a))(hB:H[j]? =some (rB q v))(hne:i≠j)(ha:a+m<=n)(hn:n<=8 * q.length)(hq:q.length<=100000000)(hm:m<=32):
  CallOk prog 230 [.ptr i 0 0,O J (m:Int)] H (.tup [.int .u32 (vl q a m:Int),O J 0]) (H.set i (rR j v n (a+m))):=by
 have hi:=(gA.1 hA).1;have hlf:=zeJ i j v q n a H hA hB om om;refine .go func230 ntmps230 results230 ?_;refine .e (.e ?_);refine .us (.f (λK k=>by simp(disch:=omega) only[go_sem];refine VCx.call (hlf) rfl ?_;simp(disch:=omega) only[go_sem];exact k) ?_);refine .us (.e ?_);refine .e (.l ?_);suffices hloop:∀(k:Nat),k<=m->PL prog _ _ [(0,.ptr i 0 0),(1,O J (m:Int)),(6,.int .u32 (vl q a k:Int)),(7,O J (k:Int))] H _ by exact .a (hloop 0 (vU _))
 intro k hk;induction hmk:m - k using qA generalizing k with
 | _ r ih=>
  refine .round (.e ?_);refine .c (λh=> ?_) (λh=> ?_)
  .have h4:k<m:=ot h;have hnext:=ih (m - (k+1)) om (k+1) om rfl;have hul:=zch q (a+k);have hvl:=zgQ q a k;have hvl2:2 * vl q a k<4294967296:=by have:2^k<=2^31:=dF om om;omega
   have e4:(a:Int)+(k:Int)=((a+k:Nat):Int):=om;have hbl:=zcK q;refine .skip (.b ?_);refine .dn λK hK=> ?_;simp(disch:=omega) only[go_sem,hA,hB,rR,rB,e4,zd,zca,hbl,zi1,zjv,zo0];refine hK _ _ ?_;refine .e ?_;exact .a hnext
  .have h4:k=m:=ofF h;subst h4;have e4:(a:Int)+(k:Int)=((a+k:Nat):Int):=om;refine .exit (.g (nq2 hA (nq2 @rR.eq_1 e4)) ?_);refine .e ?_;exact .ret ⟨_,rfl,Fin.now⟩
theorem zgp(i j v:Nat)(q:List UInt8)(n a m:Nat)(H:za)(hA:H[i]? =some (rR j v n a))(hB:H[j]? =some (rB q v))(ha:a<=n)(hn:n<=1000000000)(hm:m<=32)(hs:n - a<m):
  CallOk prog 230 [.ptr i 0 0,O J (m:Int)] H (.tup [.int .u32 0,O J 4]) H:=by
 have hlf:=zeJ i j v q n a H hA hB ha hn;have d1:decide (((n - a:Nat):Int)<(m:Int))=true:=gX om;refine .go func230 ntmps230 results230 ?_;refine .e (.e ?_);refine .us (.f (λK k=>by simp(disch:=omega) only[go_sem,d1];refine VCx.call (hlf) rfl ?_;simp(disch:=omega) only[go_sem,d1];exact k) ?_);refine .t (.e ?_);exact .ret ⟨_,rfl,Fin.now⟩
theorem zsL(q:List UInt8)(f:Bool)(H:za)(hl:q.length<=100000000)(hb:q.length=0\/zbo q=0):
  CallOk prog 229 [.slice (bs q) q.length f] H (.tup [.nilp,O J 3]) H:=by
 refine .go func229 ntmps229 results229 ?_;by_cases h0:q.length=0
 .refine .e (.x λK hK=> ?_);simp(disch:=omega) only[go_sem,h0];refine hK _ _ ?_;refine .c (λh=> ?_) (λh=> ?_)
  .refine .e ?_;exact .ret ⟨_,rfl,Fin.now⟩
  .cases h
 .have e1:(q.length:Int) - 1=((q.length - 1:Nat):Int):=om;have hby:byt q (q.length - 1)=0:=by have:byt q (q.length - 1)=(zbo q:Int):=rfl;omega
  refine .e (.x λK hK=> ?_);simp(disch:=omega) only[go_sem,e1,zak,zd,hby];refine hK _ _ ?_;refine .c (λh=> ?_) (λh=> ?_)
  .refine .e ?_;exact .ret ⟨_,rfl,Fin.now⟩
  .cases h
theorem zvC(q:List UInt8)(f:Bool)(H:za)(hl:q.length<=100000000)(hq:q.length≠0)(hb:zbo q≠0):
  CallOk prog 229 [.slice (bs q) q.length f] H (.tup [.ptr (H.length+1) 0 0,O J 0]) (H++[rB q (8 * q.length),rR H.length (8 * q.length) (nb q) 0]):=by
 have e1:(q.length:Int) - 1=((q.length - 1:Nat):Int):=om;have hby:byt q (q.length - 1)=(zbo q:Int):=rfl;obtain⟨n1,n2,n3⟩:=znQ q hq hb;refine .go func229 ntmps229 results229 ?_;refine .e (.f (λK k=>by simp(disch:=omega) only[go_sem,e1,zak,zd,hby];exact k) ?_);refine .us (.e ?_);refine .e ?_;(repeat refine .seq ?_);refine .view (Vs.ghost 4 5 1 rfl) ?_;refine .block (PW.loop ?_);suffices hloop:∀(k:Nat),k<=q.length->PL prog _ _ [(0,.slice (bs q) q.length f),(4,.msl H.length (8 * k) 0 (8 * k) 1 true),(5,O J (k:Int))] (H++[⟨5,(8 * k),bs (zb (bl (q.take k)))⟩]) _ by exact .a (hloop 0 (vU _)) (by simp(disch:=omega) only[go_sem];simp[zb,bs,bl]) (by simp[zb,bs,bl])
 intro k hk;induction hm:q.length - k using qA generalizing k with
 | _ m ih=>
  have hlk:(zb (bl (q.take k))).length=8 * k:=by rw[zca,zcK,wA];omega
  refine .round (.e ?_);refine .c (λh=> ?_) (λh=> ?_)
  .have h4:k<q.length:=ot h;have hnext:=ih (q.length - (k+1)) om (k+1) om rfl;rw[zwm q k h4,zgd,zS]at hnext;have hbk:byt q k=((q.getD k 0).toNat:Int):=rfl;have hr:=zR q k;have hv8:(zbl (q.getD k 0).toNat 8).length=8:=zbN _ _;refine .skip (.b ?_);have hbits:=zqQ (q.getD k 0).toNat 8 (H++[⟨5,(8 * k),bs (zb (bl (q.take k)))⟩]) om;refine .f (λK k=>by simp(disch:=omega) only[go_sem,zak,zd,hlk,hbk,zca,hv8];refine VCx.call (hbits) rfl ?_;simp(disch:=omega) only[go_sem,zak,zd,hlk,hbk,zca,hv8];exact k) ?_;refine .e ?_;have hce:(bs (zb (bl (List.take k q)))++bs (zb (zbl (q.getD k 0).toNat 8))).length=8 * (k+1):=by rw[gP,zd,zd,hlk,zca,hv8];omega
   refine .a hnext ?_ ?_
   .refine sqz ?_;rw[hce];rfl
   .rw[hce]
  .have h4:k=q.length:=ofF h;subst h4;rw[gH (gV _)]at hlk |-;refine .exit ?_;have hbl:=zcK q;have e2:((8 * q.length:Nat):Int) - 1=((8 * q.length - 1:Nat):Int):=om;refine .f (λK k=>by simp(disch:=omega) only[go_sem,zd,e2];exact k) ?_;refine .l ?_;clear ih;suffices hloop:∀(m:Nat),nb q<=m->m<8 * q.length->PL prog _ _ [(4,.msl H.length (8 * q.length) 0 (8 * q.length) 1 true),(6,O J (m:Int))] (H++[⟨5,8 * q.length,bs (zb (bl q))⟩]) _ by exact .a (hloop (8 * q.length - 1) om om)
   intro m hm1 hm2;induction m using qA with
   | _ m ih=>
    refine .round ?_;by_cases h5:m=nb q
    .have h6:zal q m=1:=by rw[h5];exact n1
     refine .f (λK k=>by simp(disch:=omega) only[go_sem,zd,zca,hbl,zi1,h6];exact k) ?_;refine .u (.exit ?_);refine .g h5 ?_;exact .ret ⟨_,rfl,Fin.now⟩
    .have h6:zal q m=0:=n3 m om hm2;have e3:(m:Int) - 1=((m - 1:Nat):Int):=om;refine .f (λK k=>by simp(disch:=omega) only[go_sem,zd,zca,hbl,zi1,h6];exact k) ?_;refine .c (λh=> ?_) (λh=> ?_)
     .refine .skip (.b ?_);refine .g e3 ?_;exact .a (ih (m - 1) om om om)
     .cases h
end Sc
end Go.Proofs.YtleejngibkbjnaaGreatDoor
