/-
  Parts of the proof. No condition.
-/
import Derived.Test.YtleejngibkbjnaaGreatDoorW08
import Derived.Test.YtleejngibkbjnaaGreatDoorW09
import Derived.Test.YtleejngibkbjnaaGreatDoorW06
open Go.Proofs.YtleejngibkbjnaaGreatDoor.Pm.PV renaming int → O
open Go.IntKind renaming i64 → J
open List renaming take → qA, drop → qB
open Nat renaming beq → qD
open Go.Proofs.Tryz
set_option linter.all false
set_option maxRecDepth 100000
set_option maxHeartbeats 32000000
namespace Go.Proofs.YtleejngibkbjnaaGreatDoor.Sc
open Pm Ty Go.RowKit
theorem zqu(H:za):CallOk prog 221 [] H (.agg (is tmL)) H:=CallOk.eval 1000 kr (λx hx=>by cases hx)
theorem zsS(H:za):CallOk prog 222 [] H (.agg (is nrL)) H:=CallOk.eval 1000 kr (λx hx=>by cases hx)
theorem znP(s:Int)(H:za)(hs: -1000000000000000000<=s/\s<=1000000000000000000):CallOk prog 223 [O J s] H (O J (nst s)) H:=by
 have h1:=zhW (2 * s+547363225600) 1094726451200;have h2:=flr (2 * s+547363225600) 1094726451200 om;rw[<-nst]at h2;refine .go func223 ntmps223 results223 ?_;refine .e (.e ?_);refine .g @zjW ?_;refine .e ?_;refine .c (λh=> ?_) (λh=> ?_)
 .have h3:(2 * s+547363225600).tmod 1094726451200<0:=by simpa using h
  rw[gD h3]at h2;refine .e (.e ?_);(refine .ret ⟨_,rfl,?_⟩;refine .inl ⟨?_,rfl⟩);exact congrArg _ h2
 .have h3:¬(2 * s+547363225600).tmod 1094726451200<0:=by simpa using h
  rw[gC h3]at h2;refine .skip (.e ?_);(refine .ret ⟨_,rfl,?_⟩;refine .inl ⟨?_,rfl⟩);exact congrArg _ h2
def tsc(p:Nat):List Int:=rgI 64 λj=>if j<p then tS (j / 8) (j%8)else ze tmL j
theorem zzw:tsc 0=tmL:=by rfl
theorem zoA(p:Nat):(tsc p).length=64:=zaP _ _
theorem zxI{i k:Nat}(hi:i<8)(hk:k<8):ze (tsc (8 * i+k)) (i * 8+k)=ze tmL (8 * i+k):=by grind[tsc,zdA,Nat.mul_comm]
theorem zuU{i k:Nat}(hi:i<8)(hk:k<8):(tsc (8 * i+k)).set (i * 8+k) (ze tmL (8 * i+k) * ze msL i)=tsc (8 * i+(k+1)):=by rw[tsc,zhk];refine zbU λj hj=> ?_;grind[tS,bas]
theorem zre{i k:Nat}(hi:i<8)(hk:k<8):ze (tsc 64) (i * 8+k)=tS i k:=by grind[tsc,zdA]
theorem zsY{i:Nat}(hi:i<8):ze nrL i≠0/\Int.tdiv 739840 (ze nrL i)=ze msL i/\-1000<=ze nrL i/\ze nrL i<=1000:=by
 have:∀ i,i<8->ze nrL i≠0/\Int.tdiv 739840 (ze nrL i)=ze msL i/\-1000<=ze nrL i/\ze nrL i<=1000:=by decide
 simp_all
def fil(f:Nat->Int)(n:Nat):List Int:=rgI 64 λj=>if j<n then f j else 0
theorem za2(f:Nat->Int)(n:Nat):(fil f n).length=64:=zaP _ _
def zi:List Int:=List.replicate 64 0
theorem zm6:zi.length=64:=uQ
theorem zg1(f:Nat->Int):fil f 0=zi:=by rfl
theorem zeV(f:Nat->Int)(n:Nat):(fil f n).set n (f n)=fil f (n+1):=by rw[fil,zhk];refine zbU λj hj=> ?_;grind
theorem zkU(f:Nat->Int):fil f 64=rgI 64 f:=zbU λj hj=>om
theorem ztP(f:Nat->Int){n j:Nat}(hj:j<n)(h:j<64):ze (fil f n) j=f j:=by rw[fil,zdA _ h,gD hj]
def zb3(y:List Int)(p:Nat):Int:=zko y (p / 8) (p%8)
theorem zhj(y:List Int){i l:Nat}(hl:l<8):zb3 y (8 * i+l)=zko y i l:=by unfold zb3;congr 1<;>omega
def zbf(y:List Int)(p:Nat):Int:=nst (zlb y (p / 8) (p%8))
theorem zpE(y:List Int){k l:Nat}(hl:l<8):zbf y (8 * k+l)=nst (zlb y k l):=by unfold zbf;congr 2<;>omega
theorem zhc{f:Nat->Int}{B:Int}(h:∀ j,-B<=f j/\f j<=B){n:Nat}(hn:n<=8): -(8 * B)<=zci f n/\zci f n<=8 * B:=by have h0:=h 0;have h1:=zhd h n;have h2:=ziw (a:=(n:Int)) (b:=B) (A:=8) (B:=B) om om;omega
theorem zn1(y:List Int)(hl:y.length=64)(H:za):CallOk prog 160 [.agg (is y)] H (.agg (is (inv y))) H:=by
 have hinv:inv y=fil (zbf y) 64:=(zkU _).symm;have hall:=zq y;have hz:=zg1 (zb3 y);have hz2:=zg1 (zbf y);refine .go func160 ntmps160 results160 ?_;refine .g hall ?_;refine .k zqu ?_;refine .k zsS ?_;refine .l ?_;suffices h1:∀ i:Nat,i<=8->PL prog _ _ [(1,.ptr H.length 0 0),(2,.ptr (H.length+1) 0 0),(3,.ptr (H.length+2) 0 0),(18,.agg (is nrL)),(19,O J (i:Int))] (H++[⟨139,0,is y⟩,⟨139,0,is zi⟩,⟨306,0,is (tsc (8 * i))⟩]) _ by exact .a (h1 0 om) rfl (by rw[dU,zzw];rfl)
 refine cnt 8 (λi hi ih=> ?_) ?_
 .refine .round (.e ?_);refine .t (.skip ?_);refine .b ?_;have nl:(is nrL).length=8:=rfl;have nl2:nrL.length=8:=rfl;obtain⟨m1,m2,m3,m4⟩:=zsY hi;refine .f (λK k=>by simp(disch:=omega) only[go_sem,zQ,nl,nl2];exact k) ?_;refine .e (.l ?_);suffices h2:∀ k:Nat,k<=8->PL prog _ _ [(1,.ptr H.length 0 0),(2,.ptr (H.length+1) 0 0),(3,.ptr (H.length+2) 0 0),(4,O J (i:Int)),(5,O J (ze nrL i)),(18,.agg (is nrL)),(19,O J (i:Int)),(23,O J (k:Int))] (H++[⟨139,0,is y⟩,⟨139,0,is zi⟩,⟨306,0,is (tsc (8 * i+k))⟩]) _ by exact .a (h2 0 om)
  refine cnt 8 (λk hk ih=> ?_) ?_
  .refine .round (.e ?_);refine .t ?_;have b1:=zlK i k;rw[tS,bas]at b1;have t1:=zxI hi hk;have t2:=zuU hi hk;have t3:=zoA (8 * i+k);have b2:=zo9 i;refine .skip (.b ?_);refine .e (.y [H.length+2] [(3,[0]),(28,[0]),(29,[0]),(34,[0]),(35,[0])] [] [] λK hK=> ?_);simp(disch:=omega) only[go_sem,zy,zQ,zj,t3,t1,m1,m2,zaB,t2];refine hK _ _ ?_;clear hK K;refine .e ?_;exact .a ih
  .refine .round (.e ?_);refine .u (.exit ?_);refine .e ?_;exact .a ih
 refine .round (.e ?_);refine .u (.exit ?_);refine .e (.e ?_);refine .l ?_;have y3:=zoA 64;suffices h1:∀ i:Nat,i<=8->PL prog _ _ [(1,.ptr H.length 0 0),(2,.ptr (H.length+1) 0 0),(3,.ptr (H.length+2) 0 0),(7,.ptr (H.length+3) 0 0),(38,O J (i:Int))] (H++[⟨139,0,is y⟩,⟨139,0,is zi⟩,⟨306,0,is (tsc 64)⟩,⟨309,0,is (fil (zb3 y) (8 * i))⟩]) _ by exact .a (h1 0 om) rfl (by rw[dU,hz];rfl)
 refine cnt 8 (λi hi ih=> ?_) ?_
 .refine .round (.e ?_);refine .t (.skip ?_);refine .b (.e ?_);refine .e (.l ?_);suffices h2:∀ l:Nat,l<=8->PL prog _ _ [(1,.ptr H.length 0 0),(2,.ptr (H.length+1) 0 0),(3,.ptr (H.length+2) 0 0),(7,.ptr (H.length+3) 0 0),(8,O J (i:Int)),(38,O J (i:Int)),(41,O J (l:Int))] (H++[⟨139,0,is y⟩,⟨139,0,is zi⟩,⟨306,0,is (tsc 64)⟩,⟨309,0,is (fil (zb3 y) (8 * i+l))⟩]) _ by exact .a (h2 0 om)
  refine cnt 8 (λl hlt ih=> ?_) ?_
  .refine .round (.e ?_);refine .t (.skip ?_);refine .b (.e ?_);refine .e (.e ?_);refine .l ?_;suffices h3:∀ j:Nat,j<=8->PL prog _ _ [(1,.ptr H.length 0 0),(2,.ptr (H.length+1) 0 0),(3,.ptr (H.length+2) 0 0),(7,.ptr (H.length+3) 0 0),(8,O J (i:Int)),(9,O J (l:Int)),(10,O J (zci (rtm y i l) j)),(38,O J (i:Int)),(41,O J (l:Int)),(44,O J (j:Int))] (H++[⟨139,0,is y⟩,⟨139,0,is zi⟩,⟨306,0,is (tsc 64)⟩,⟨309,0,is (fil (zb3 y) (8 * i+l))⟩]) _ by exact .a (h3 0 om)
   refine cnt 8 (λj hj ih=> ?_) ?_
   .refine .round (.e ?_);refine .t (.skip ?_);refine .b (.e ?_);have g1:=zre hj hlt;have b1:=zic y i l j;rw[rtm]at b1;have b2:=zhc (zic y i l) (show j<=8 from om);have cl:∀ v:Int,(if 2097152<(if v< -2097152 then -2097152 else v)then 2097152 else(if v< -2097152 then -2097152 else v))=zlc v:=λv=>by unfold zlc;omega
    have e1:(8:Int) * (i:Int)+(j:Int)=((8 * i+j:Nat):Int):=om;refine .y [] [] [] [] λK hK=> ?_;simp(disch:=omega) only[go_sem,zy,zQ,zj,y3,hl,g1,e1,cl];refine hK _ _ ?_;clear hK K;refine .e ?_;exact .a ih
   .refine .round (.e ?_);refine .u (.exit ?_);have e1:(8:Int) * (i:Int)+(l:Int)=((8 * i+l:Nat):Int):=om;have f1:=za2 (zb3 y) (8 * i+l);have f2:=zeV (zb3 y) (8 * i+l);rw[zhj y hlt,zko]at f2;refine .f (λK k=>by simp(disch:=omega) only[go_sem,e1,zj,f1,zaB,f2];exact k) ?_;refine .e ?_;exact .a ih
  .refine .round (.e ?_);refine .u (.exit ?_);refine .e ?_;exact .a ih
 refine .round (.e ?_);refine .u (.exit ?_);refine .e (.e ?_);refine .l ?_;have r3:=za2 (zb3 y) 64;suffices h1:∀ k:Nat,k<=8->PL prog _ _ [(2,.ptr (H.length+1) 0 0),(3,.ptr (H.length+2) 0 0),(7,.ptr (H.length+3) 0 0),(12,.ptr (H.length+4) 0 0),(72,O J (k:Int))] (H++[⟨139,0,is y⟩,⟨139,0,is zi⟩,⟨306,0,is (tsc 64)⟩,⟨309,0,is (fil (zb3 y) 64)⟩,⟨139,0,is (fil (zbf y) (8 * k))⟩]) _ by exact .a (h1 0 om) rfl (by rw[dU,hz2];rfl)
 refine cnt 8 (λk hk ih=> ?_) ?_
 .refine .round (.e ?_);refine .t (.skip ?_);refine .b (.e ?_);refine .e (.l ?_);suffices h2:∀ l:Nat,l<=8->PL prog _ _ [(2,.ptr (H.length+1) 0 0),(3,.ptr (H.length+2) 0 0),(7,.ptr (H.length+3) 0 0),(12,.ptr (H.length+4) 0 0),(13,O J (k:Int)),(72,O J (k:Int)),(75,O J (l:Int))] (H++[⟨139,0,is y⟩,⟨139,0,is zi⟩,⟨306,0,is (tsc 64)⟩,⟨309,0,is (fil (zb3 y) 64)⟩,⟨139,0,is (fil (zbf y) (8 * k+l))⟩]) _ by exact .a (h2 0 om)
  refine cnt 8 (λl hlt ih=> ?_) ?_
  .refine .round (.e ?_);refine .t (.skip ?_);refine .b (.e ?_);refine .e (.e ?_);refine .l ?_;suffices h3:∀ i:Nat,i<=8->PL prog _ _ [(2,.ptr (H.length+1) 0 0),(3,.ptr (H.length+2) 0 0),(7,.ptr (H.length+3) 0 0),(12,.ptr (H.length+4) 0 0),(13,O J (k:Int)),(14,O J (l:Int)),(15,O J (zci (ctm y k l) i)),(72,O J (k:Int)),(75,O J (l:Int)),(78,O J (i:Int))] (H++[⟨139,0,is y⟩,⟨139,0,is zi⟩,⟨306,0,is (tsc 64)⟩,⟨309,0,is (fil (zb3 y) 64)⟩,⟨139,0,is (fil (zbf y) (8 * k+l))⟩]) _ by exact .a (h3 0 om)
   refine cnt 8 (λi hi ih=> ?_) ?_
   .refine .round (.e ?_);refine .t (.skip ?_);refine .b (.e ?_);have g1:=zre hi hk;have g2:=ztP (zb3 y) (n:=64) (j:=8 * i+l) om om;rw[zhj y hlt]at g2;have b1:=ziT y k l i;rw[ctm]at b1;have b2:=zhc (ziT y k l) (show i<=8 from om);have e1:(8:Int) * (i:Int)+(l:Int)=((8 * i+l:Nat):Int):=om;refine .y [] [] [] [] λK hK=> ?_;simp(disch:=omega) only[go_sem,zy,zQ,zj,y3,r3,g1,g2,e1];refine hK _ _ ?_;clear hK K;refine .e ?_;exact .a ih
   .refine .round (.e ?_);refine .u (.exit ?_);have e1:(8:Int) * (k:Int)+(l:Int)=((8 * k+l:Nat):Int):=om;have f1:=za2 (zbf y) (8 * k+l);have f2:=zeV (zbf y) (8 * k+l);rw[zpE y hlt]at f2;have b2:=zla y k l;rw[zlb]at f2 b2;have nn:=λK=>znP (zci (ctm y k l) 8) K om;refine .f (λK k=>by simp(disch:=omega) only[go_sem,e1,zj,f1,zaB,f2];refine VCx.call (nn _) rfl ?_;simp(disch:=omega) only[go_sem,e1,zj,f1,zaB,f2];exact k) ?_;refine .e ?_;exact .a ih
  .refine .round (.e ?_);refine .u (.exit ?_);refine .e ?_;exact .a ih
 refine .round (.e ?_);refine .u (.exit ?_);have c3:=za2 (zbf y) 64;have c4:(is (fil (zbf y) 64)).length=64:=by rfl
 have c5:=zq (fil (zbf y) 64);have c6:qA 64 (is (fil (zbf y) 64))=is (fil (zbf y) 64):=gH om;have z3:(is zi).length=64:=by rfl
 have z4:qB 64 (is zi)=[]:=uB om;refine .g (nq2 c4 (nq2 c5 (nq2 c6 (nq2 z3 z4)))) ?_;rw[hinv];refine .w (.agg (is (fil (zbf y) 64))) (nq2 c4 c6) ?_;exact .base (.id (zn (zae _ _)))
theorem zpI(b:Bool):∀ x∈[PV.bool b],Scoped 0 x:=λx hx=>by simp only[gM,gL,uA]at hx;subst hx;exact .bool _
theorem zr5(al:Bool)(H:za):CallOk prog 189 [.bool al] H (.agg (is (sca al))) H:=by
 cases al
 .exact .evalV 1000000 kr (zpI _)
 .exact .evalV 1000000 kr (zpI _)
theorem ztF{l s:List Int}{n X:Nat}(hx:ze s n=(X:Int)):(frn l s n).set X (ze l n)=frn l s (n+1):=by rw[frn,hx,uV]
theorem zmJ(l:List Int)(al:Bool)(hl:l.length=64)(H:za):CallOk prog 158 [.agg (is l),.bool al] H (.agg (is (frs l al))) H:=by
 have hall:=zq l;have sc:=λK=>zr5 al K;have sl:=zoQ al;refine .go func158 ntmps158 results158 ?_;refine .g hall ?_;refine .e (.k sc ?_);refine .l ?_;suffices h1:∀ p:Nat,p<=64->PL prog _ _ [(2,.ptr H.length 0 0),(4,.ptr (H.length+1) 0 0),(5,.ptr (H.length+2) 0 0),(9,.agg (is (sca al))),(10,O J (p:Int))] (H++[⟨139,0,is l⟩,⟨139,0,is zi⟩,⟨139,0,is (frn l (sca al) p)⟩]) _ by exact .a (h1 0 om)
 refine cnt 64 (λp hp ih=> ?_) ?_
 .refine .round (.e ?_);refine .t ?_;obtain⟨b1,b2⟩:=zr7 al p;obtain⟨X,hX⟩:∃ X:Nat,ze (sca al) p=(X:Int):=⟨(ze (sca al) p).toNat,om⟩;have f1:=ztF (l:=l) hX;have f2:=zeT l (sca al) p;refine .skip (.b ?_);refine .f (λK k=>by simp(disch:=omega) only[go_sem,zQ,zj,sl,hX];exact k) ?_;refine .f (λK k=>by simp(disch:=omega) only[go_sem,zQ,zj,hl,hX,f2,zaB,f1];exact k) ?_;refine .e ?_;exact .a ih
 refine .round (.e ?_);refine .u (.exit ?_);have c3:=zeT l (sca al) 64;have c4:(is (frn l (sca al) 64)).length=64:=by rw[zj,c3]
 have c5:=zq (frn l (sca al) 64);have c6:qA 64 (is (frn l (sca al) 64))=is (frn l (sca al) 64):=gH om;have z3:(is zi).length=64:=by rfl
 have z4:qB 64 (is zi)=[]:=uB om;refine .g (nq2 c4 (nq2 c5 (nq2 c6 (nq2 z3 z4)))) ?_;unfold frs;refine .w (.agg (is (frn l (sca al) 64))) (nq2 c4 c6) ?_;exact .base (.id (zn (zae _ _)))
theorem or8{i:Nat}(h:i<8):i=0\/i=1\/i=2\/i=3\/i=4\/i=5\/i=6\/i=7:=om
theorem sc2(a b:Int):∀ x∈[PV.int .i64 a,PV.int .i64 b],Scoped 0 x:=λx hx=>by simp only[gM,gL,uA]at hx;rcases hx with rfl|rfl<;>exact .int _ _
theorem sc1(a:Int):∀ x∈[PV.int .i64 a],Scoped 0 x:=λx hx=>by simp only[gM,gL,uA]at hx;subst hx;exact .int _ _
theorem zo5(i:Nat)(H:za)(hi:i<8):CallOk prog 262 [O J (i:Int)] H (O J (ze nrL i)) H:=by rcases or8 hi with rfl|rfl|rfl|rfl|rfl|rfl|rfl|rfl;all_goals exact .eval 10000 kr (sc1 _)
theorem nr3{i:Nat}(h:i<8):ze nrL i=512\/ze nrL i=578\/ze nrL i=320:=by
 have:∀ i,i<8->ze nrL i=512\/ze nrL i=578\/ze nrL i=320:=by decide
 simp_all
def gnV(a b:Int):Int:=if a=512/\b=512 then 32 else if(a=512/\b=578)\/(a=578/\b=512)then 34 else if(a=512/\b=320)\/(a=320/\b=512)then 25 else if a=578/\b=578 then 36 else if(a=578/\b=320)\/(a=320/\b=578)then 27 else 20
theorem ztA{k:Nat}(h:k<64):gnV (ze nrL (k / 8)) (ze nrL (k%8))=ze gnL k:=by
 have:∀ k,k<64->gnV (ze nrL (k / 8)) (ze nrL (k%8))=ze gnL k:=by decide+kernel
 simp_all
theorem zvV{a b:Int}(ha:a=512\/a=578\/a=320)(hb:b=512\/b=578\/b=320)(H:za):CallOk prog 261 [O J a,O J b] H (O J (gnV a b)) H:=by rcases ha with rfl|rfl|rfl<;>rcases hb with rfl|rfl|rfl;all_goals exact .eval 10000 kr (sc2 _ _)
def qnB(q:Int):Bool:=decide (1<=q)&&decide (q<=31)
theorem zwW(q:Int)(H:za):CallOk prog 217 [O J q] H (.bool (qnB q)) H:=by refine .go func217 ntmps217 results217 ?_;(repeat'(first|refine .seq ?_|((refine .rg rfl λK hK=> ?_);simp(disch:=omega) only[go_sem])|((refine zg ?_ ?_)<;>intro h<;>(try simp only[nqb]at h)<;>simp(disch:=omega) only[go_sem,h])|(refine hK _ _ ?_)));all_goals((refine .ret ⟨_,rfl,?_⟩;refine .inl ⟨?_,rfl⟩);(simp_all[qnB,slot,qD]<;>omega))
theorem zih{q:Int}(h:qnB q=true):1<=q/\q<=31:=by simpa[qnB]using h
theorem zsV{a b:Int}{A B:Int}(ha:0<=a/\a<=A)(hb:0<=b/\b<=B):0<=a * b/\a * b<=A * B:=⟨mJ ha.1 hb.1,mK ha.2 hb.2 hb.1 om⟩
theorem zu7(w q:Int)(k:Nat)(H:za)(hw:8<=w/\w<=255)(hq:qnB q=true)(hk:k<64):CallOk prog 218 [O J w,O J q,O J (k:Int)] H (O J (w * q * ze gnL k)) H:=by
 have vq:=λH=>zwW q H;rw[hq]at vq;have q1:=zih hq;have n1:=λH=>zo5 (k / 8) H om;have n2:=λH=>zo5 (k%8) H om;have gk:=λH=>zvV (nr3 (show k / 8<8 from om)) (nr3 (show k%8<8 from om)) H;rw[ztA hk]at gk;have b1:=zsV (a:=w) (b:=q) (A:=255) (B:=31) om om;have b2:=zsV (a:=w * q) (b:=ze gnL k) (A:=7905) (B:=36) om (zxd k);have d1:(k:Int).tdiv 8=((k / 8:Nat):Int):=by rfl
 have d2:(k:Int).tmod 8=((k%8:Nat):Int):=by rfl
 refine .go func218 ntmps218 results218 ?_;refine .e ?_;(repeat refine .seq ?_);refine .rgv (P:=prog) [0,1,2] 25 (.bool false) ?_ ?_ ?_
 .rfl
 .simp(disch:=omega) only[go_sem];(repeat'(((refine VCx.call (vq _) rfl ?_);simp(disch:=omega) only[go_sem])));all_goals(simp_all[slot,qD])
 refine .us (.x λK hK=> ?_);simp(disch:=omega) only[go_sem,d1,d2];(repeat'(((first|refine VCx.call (n1 _) rfl ?_|refine VCx.call (n2 _) rfl ?_|refine VCx.call (gk _) rfl ?_);simp(disch:=omega) only[go_sem,d1,d2])));refine hK _ _ ?_;(refine .ret ⟨_,rfl,?_⟩;refine .inl ⟨?_,rfl⟩);rfl
def lrg(l:List Int):Prop:=∀ i,-4095<=ze l i/\ze l i<=4095
def dqf(l:List Int)(m:List UInt8)(q:Int)(k:Nat):Int:=ze l k * (byt m k * q * ze gnL k)
theorem zpA(l:List Int)(m:List UInt8)(q:Int):fil (dqf l m q) 64=dqz l m q:=zkU _
theorem zw1{m:List UInt8}(h:zaM m=true){k:Nat}(hk:k<m.length):8<=byt m k:=by grind[zaM,List.all_eq_true,List.getElem_mem,byt,List.getElem?_eq_getElem]
theorem zt0{l:List Int}{m:List UInt8}{q:Int}(hl:lrg l)(hq:1<=q/\q<=31)(k:Nat):(0<=byt m k * q * ze gnL k/\byt m k * q * ze gnL k<=284580)/\-1165355100<=dqf l m q k/\dqf l m q k<=1165355100:=by have h1:=zR m k;have b1:=zsV (a:=byt m k) (b:=q) (A:=255) (B:=31) om om;have b2:=zsV (a:=byt m k * q) (b:=ze gnL k) (A:=7905) (B:=36) om (zxd k);refine⟨om,?_⟩;exact ziw (hl k) (show -284580<=_/\_<=(284580:Int)from om)
theorem zoc(l:List Int)(m:List UInt8)(q:Int)(hl:l.length=64)(hlr:lrg l)(hm:m.length=64)(hmx:zaM m=true)(hq:qnB q=true)(H:za):
  CallOk prog 157 [.agg (is l),.agg (bs m),O J q] H (.tup [.agg (is (dqz l m q)),O J 0]) H:=by
 have hall:=zq l;have hall2:(bs m).all PV.cell=true:=by simp[bs,PV.cell]
 have vm:=λK=>zms m K hm;rw[hmx]at vm;have vq:=λK=>zwW q K;rw[hq]at vq;have q1:=zih hq;have hz:=zg1 (dqf l m q);have tkm:qA 64 (bs m)=bs m:=gH (by rw[zd];omega);have tkl:qA 64 (is l)=is l:=gH (by rw[zj];omega);refine .go func157 ntmps157 results157 ?_;refine .g (nq2 hall hall2) ?_;(repeat refine .seq ?_);refine .rgv (P:=prog) [2,3,4,6,7] 18 (.bool false) ?_ ?_ ?_
 .rfl
 .simp(disch:=omega) only[go_sem,zd,tkm];(repeat'(((first|refine VCx.call (vm _) rfl ?_|refine VCx.call (vq _) rfl ?_);simp(disch:=omega) only[go_sem,zd,tkm])));all_goals(simp_all[slot,qD])
 refine .us (.e ?_);refine .f (λK k=>by simp(disch:=omega) only[go_sem,zj,tkl];exact k) ?_;refine .l ?_;suffices h1:∀ k:Nat,k<=64->PL prog _ _ [(2,O J q),(4,.ptr (H.length+1) 0 0),(6,.ptr (H.length+2) 0 0),(8,.ptr (H.length+3) 0 0),(20,.agg (is l)),(21,O J (k:Int))] (H++[⟨139,0,is l⟩,⟨35,0,bs m⟩,⟨139,0,is zi⟩,⟨139,0,is (fil (dqf l m q) k)⟩]) _ by exact .a (h1 0 om) rfl (by rw[hz];rfl)
 refine cnt 64 (λk hk ih=> ?_) ?_
 .refine .round (.e ?_);refine .t ?_;obtain⟨b1,b2⟩:=hlr k;refine .skip (.b ?_);refine .f (λK k=>by simp(disch:=omega) only[go_sem,zQ,zj,hl];exact k) ?_;(repeat refine .seq ?_);refine .rgv (P:=prog) [2,4,6,8,9,10,20,21] 30 (.bool false) ?_ ?_ ?_
  .rfl
  .simp(disch:=omega) only[go_sem];(repeat'((refine zg ?_ ?_)<;>intro h<;>(try simp only[nqb]at h)<;>simp(disch:=omega) only[go_sem,h]));all_goals(simp_all[slot,qD])
  refine .us ?_;have m8:=zw1 hmx (show k<m.length from om);have m9:=zR m k;have st:=λK=>zu7 (byt m k) q k K ⟨m8,m9.2⟩ hq hk;obtain⟨d1,d2⟩:=zt0 (m:=m) hlr q1 k;rw[dqf]at d2;have f1:=zeV (dqf l m q) k;rw[dqf]at f1;have f2:=za2 (dqf l m q) k;refine .f (λK k=>by simp(disch:=omega) only[go_sem,zak,zd,hm,zj,f2,zaB,f1];refine VCx.call (st _) rfl ?_;simp(disch:=omega) only[go_sem,zak,zd,hm,zj,f2,zaB,f1];exact k) ?_;refine .e ?_;exact .a ih
 refine .round (.e ?_);refine .u (.exit ?_);have c3:=za2 (dqf l m q) 64;have c4:(is (fil (dqf l m q) 64)).length=64:=by rfl
 have c5:=zq (fil (dqf l m q) 64);have c6:qA 64 (is (fil (dqf l m q) 64))=is (fil (dqf l m q) 64):=gH om;have z3:(is zi).length=64:=by rfl
 have z4:qB 64 (is zi)=[]:=uB om;refine .g (nq2 c4 (nq2 c5 (nq2 c6 (nq2 z3 z4)))) ?_;rw[<-zpA];refine .w (.tup [.agg (is (fil (dqf l m q) 64)),O J 0]) (nq2 c4 c6) ?_;refine .base (.id (.tup (asc λx hx=> ?_)));simp only[gM,gL,uA]at hx;rcases hx with rfl|rfl
 .exact zn (zae _ _)
 .exact .int _ _
theorem zjN(i k:Nat)(H:za)(hi:i<8)(hk:k<8):CallOk prog 247 [O J (i:Int),O J (k:Int)] H (O J (bas i k)) H:=by rcases or8 hi with rfl|rfl|rfl|rfl|rfl|rfl|rfl|rfl<;>rcases or8 hk with rfl|rfl|rfl|rfl|rfl|rfl|rfl|rfl;all_goals exact .eval 1000 kr (sc2 _ _)
theorem zfP(i:Nat)(H:za)(hi:i<8):CallOk prog 248 [O J (i:Int)] H (O J (ze nrL i)) H:=by rcases or8 hi with rfl|rfl|rfl|rfl|rfl|rfl|rfl|rfl;all_goals exact .eval 10000 kr (sc1 _)
theorem zqM(v:Int)(H:za):CallOk prog 249 [O J v] H (O J (zlc v)) H:=by
 have cl:(if(if 2097152<v then 2097152 else v)> -2097152 then(if 2097152<v then 2097152 else v)else -2097152)=zlc v:=by unfold zlc;omega
 refine .go func249 ntmps249 results249 ?_;refine .e (.e ?_);(refine .ret ⟨_,rfl,?_⟩;refine .inl ⟨?_,rfl⟩);exact congrArg _ cl
def fim(f:Nat->Int)(n:Nat)(v:Int):List Int:=rgI 64 λj=>if j<n then f j else if j=n then v else 0
theorem zpx(f:Nat->Int)(n:Nat)(v:Int):(fim f n v).length=64:=zaP _ _
theorem zxi(f:Nat->Int)(n:Nat):fim f n 0=fil f n:=zbU λj hj=>by
 by_cases h:j<n
 .rw[gD h,gD h]
 .rw[gC h,gC h];split<;>rfl
theorem zxh(f:Nat->Int)(n:Nat):fim f n (f n)=fil f (n+1):=zbU λj hj=>by
 by_cases h:j<n
 .rw[gD h,gD om]
 .by_cases h2:j=n
  .rw[gC h,gD h2,gD om,h2]
  .rw[gC h,gC h2,gC om]
theorem ztN(f:Nat->Int){n:Nat}(v:Int)(h:n<64):ze (fim f n v) n=v:=by rw[fim,zdA _ h,gC om,gD rfl]
theorem zkT(f:Nat->Int)(n:Nat)(v w:Int):(fim f n v).set n w=fim f n w:=by
 rw[fim,zhk];refine zbU λj hj=> ?_;by_cases h1:j=n
 .rw[gD h1,gC om,gD h1]
 .rw[gC h1,gC h1,gC h1]
theorem ztO(f:Nat->Int)(n:Nat)(v:Int):(fil f n).set n v=fim f n v:=by rw[<-zxi,zkT]
theorem zyi(c:Int):nst c=(273681612800+c) / 547363225600:=by unfold nst;omega
theorem zmE(y:List Int)(hl:y.length=64)(H:za):CallOk prog 186 [.agg (is y)] H (.agg (is (inv y))) H:=by
 have hinv:inv y=fil (zbf y) 64:=(zkU _).symm;have hall:=zq y;have hz:=zg1 (zb3 y);have hz2:=zg1 (zbf y);refine .go func186 ntmps186 results186 ?_;refine .g hall ?_;refine .e (.e ?_);refine .l ?_;suffices h1:∀ i:Nat,i<=8->PL prog _ _ [(1,.ptr H.length 0 0),(2,.ptr (H.length+1) 0 0),(3,.ptr (H.length+2) 0 0),(4,.ptr (H.length+3) 0 0),(5,O J (i:Int))] (H++[⟨139,0,is y⟩,⟨139,0,is zi⟩,⟨139,0,is (fil (zb3 y) (8 * i))⟩,⟨139,0,is zi⟩]) _ by exact .a (h1 0 om) rfl (by rw[dU,hz];rfl)
 refine cnt 8 (λi hi ih=> ?_) ?_
 .refine .round (.e ?_);refine .t (.skip ?_);refine .b (.e ?_);refine .l ?_;suffices h2:∀ l:Nat,l<=8->PL prog _ _ [(1,.ptr H.length 0 0),(2,.ptr (H.length+1) 0 0),(3,.ptr (H.length+2) 0 0),(4,.ptr (H.length+3) 0 0),(5,O J (i:Int)),(6,O J (l:Int))] (H++[⟨139,0,is y⟩,⟨139,0,is zi⟩,⟨139,0,is (fil (zb3 y) (8 * i+l))⟩,⟨139,0,is zi⟩]) _ by exact .a (h2 0 om)
  refine cnt 8 (λl hlt ih=> ?_) ?_
  .refine .round (.e ?_);refine .t (.skip ?_);refine .b (.e ?_);refine .l ?_;suffices h3:∀ j:Nat,j<=8->PL prog _ _ [(1,.ptr H.length 0 0),(2,.ptr (H.length+1) 0 0),(3,.ptr (H.length+2) 0 0),(4,.ptr (H.length+3) 0 0),(5,O J (i:Int)),(6,O J (l:Int)),(7,O J (j:Int))] (H++[⟨139,0,is y⟩,⟨139,0,is zi⟩,⟨139,0,is (fim (zb3 y) (8 * i+l) (zci (rtm y i l) j))⟩,⟨139,0,is zi⟩]) _ by exact .a (h3 0 om) rfl (by rw[show zci (rtm y i l) 0=0 from rfl,zxi])
   refine cnt 8 (λj hj ih=> ?_) ?_
   .refine .round (.e ?_);refine .t ?_;have b1:=zic y i l j;rw[rtm,tS]at b1;have b0:=zlK j l;rw[tS]at b0;obtain⟨m1,m2,m3,m4⟩:=zsY hj;have bm:=zo9 j;have b2:=zhc (zic y i l) (show j<=8 from om);have e1:(8:Int) * (i:Int)+(j:Int)=((8 * i+j:Nat):Int):=om;have e2:(8:Int) * (i:Int)+(l:Int)=((8 * i+l:Nat):Int):=om;have f1:=λv=>zpx (zb3 y) (8 * i+l) v;have f2:=λv=>ztN (zb3 y) v (show 8 * i+l<64 from om);have f3:=λv w=>zkT (zb3 y) (8 * i+l) v w;have f7:=f1 (zci (rtm y i l) j);have ba:=λK=>zjN j l K hj hlt;have no:=λK=>zfP j K hj;have cl:=λK=>zqM (ze y (8 * i+j)) K;refine .skip (.b ?_);refine .y [H.length+2] [(3,[0]),(28,[0]),(46,[0])] [] [32,34,43] λK hK=> ?_;simp(disch:=omega) only[go_sem,zy,zQ,zj,hl,f1,f2,e1,e2];refine VCj.read (λ_ _=>ba _) rfl ?_;simp(disch:=omega) only[go_sem,zy,zQ,zj,hl,f1,f2,e1,e2,m1,m2];refine VCj.read (λ_ _=>no _) rfl ?_;simp(disch:=omega) only[go_sem,zy,zQ,zj,hl,f1,f2,e1,e2,m1,m2];refine VCj.read (λ_ _=>cl _) rfl ?_;simp(disch:=omega) only[go_sem,zy,zQ,zj,hl,f1,f2,e1,e2,m1,m2,zaB,f3];refine hK _ _ ?_;clear hK K;refine .e ?_;exact .a ih
   .refine .round (.e ?_);refine .u (.exit ?_);have f2:=zxh (zb3 y) (8 * i+l);rw[zhj y hlt,zko]at f2;rw[f2];refine .e ?_;exact .a ih
  .refine .round (.e ?_);refine .u (.exit ?_);refine .e ?_;exact .a ih
 refine .round (.e ?_);refine .u (.exit ?_);refine .e (.l ?_);have r3:=za2 (zb3 y) 64;suffices h1:∀ k:Nat,k<=8->PL prog _ _ [(2,.ptr (H.length+1) 0 0),(3,.ptr (H.length+2) 0 0),(4,.ptr (H.length+3) 0 0),(8,O J (k:Int))] (H++[⟨139,0,is y⟩,⟨139,0,is zi⟩,⟨139,0,is (fil (zb3 y) 64)⟩,⟨139,0,is (fil (zbf y) (8 * k))⟩]) _ by exact .a (h1 0 om) rfl (by rw[dU,hz2])
 refine cnt 8 (λk hk ih=> ?_) ?_
 .refine .round (.e ?_);refine .t (.skip ?_);refine .b (.e ?_);refine .l ?_;suffices h2:∀ l:Nat,l<=8->PL prog _ _ [(2,.ptr (H.length+1) 0 0),(3,.ptr (H.length+2) 0 0),(4,.ptr (H.length+3) 0 0),(8,O J (k:Int)),(9,O J (l:Int))] (H++[⟨139,0,is y⟩,⟨139,0,is zi⟩,⟨139,0,is (fil (zb3 y) 64)⟩,⟨139,0,is (fil (zbf y) (8 * k+l))⟩]) _ by exact .a (h2 0 om)
  refine cnt 8 (λl hlt ih=> ?_) ?_
  .refine .round (.e ?_);refine .t (.skip ?_);refine .b (.e ?_);refine .e (.l ?_);suffices h3:∀ i:Nat,i<=8->PL prog _ _ [(2,.ptr (H.length+1) 0 0),(3,.ptr (H.length+2) 0 0),(4,.ptr (H.length+3) 0 0),(8,O J (k:Int)),(9,O J (l:Int)),(10,O J (273681612800+zci (ctm y k l) i)),(11,O J (i:Int))] (H++[⟨139,0,is y⟩,⟨139,0,is zi⟩,⟨139,0,is (fil (zb3 y) 64)⟩,⟨139,0,is (fil (zbf y) (8 * k+l))⟩]) _ by exact .a (h3 0 om)
   refine cnt 8 (λi hi ih=> ?_) ?_
   .refine .round (.e ?_);refine .t ?_;have g2:=ztP (zb3 y) (n:=64) (j:=8 * i+l) om om;rw[zhj y hlt]at g2;have b1:=ziT y k l i;rw[ctm,tS]at b1;have b0:=zlK i k;rw[tS]at b0;obtain⟨m1,m2,m3,m4⟩:=zsY hi;have bm:=zo9 i;have b2:=zhc (ziT y k l) (show i<=8 from om);have e1:(8:Int) * (i:Int)+(l:Int)=((8 * i+l:Nat):Int):=om;have ba:=λK=>zjN i k K hi hk;have no:=λK=>zfP i K hi;refine .skip (.b ?_);refine .y [] [] [] [62,64] λK hK=> ?_;simp(disch:=omega) only[go_sem,zy,zQ,zj,r3,e1];refine VCj.read (λ_ _=>ba _) rfl ?_;simp(disch:=omega) only[go_sem,zy,zQ,zj,r3,e1];refine VCj.read (λ_ _=>no _) rfl ?_;simp(disch:=omega) only[go_sem,zy,zQ,zj,r3,e1,m1,m2,g2];refine hK _ _ ?_;clear hK K;refine .e ?_;have ih':=ih;rw[show(273681612800:Int)+zci (ctm y k l) (i+1)=273681612800+zci (ctm y k l) i+bas i k * ze msL i * zko y i l from by rw[zci,ctm,tS];omega]at ih';exact .a ih'
   .refine .round (.e ?_);refine .u (.exit ?_);have e1:(8:Int) * (k:Int)+(l:Int)=((8 * k+l:Nat):Int):=om;have f1:=za2 (zbf y) (8 * k+l);have f0:=λv=>ztO (zbf y) (8 * k+l) v;have f4:=λv=>zpx (zbf y) (8 * k+l) v;have f2:=λv=>ztN (zbf y) v (show 8 * k+l<64 from om);have f3:=λv w=>zkT (zbf y) (8 * k+l) v w;have f7:=f4 ((273681612800+zci (ctm y k l) 8).tdiv 547363225600);have f5:=zxh (zbf y) (8 * k+l);rw[zpE y hlt,zyi,zlb]at f5;have b2:=zla y k l;rw[zlb]at b2;have h1:=zhW (273681612800+zci (ctm y k l) 8) 547363225600;have h2:=flr (273681612800+zci (ctm y k l) 8) 547363225600 om;refine .f (λK k=>by simp(disch:=omega) only[go_sem,e1,zj,f1,zaB,f0,zjW];exact k) ?_;refine .e ?_;refine .c (λh=> ?_) (λh=> ?_)
    .have h3:(273681612800+zci (ctm y k l) 8).tmod 547363225600<0:=by simpa using h
     rw[gD h3]at h2;rw[<-h2]at f5;refine .f (λK k=>by simp(disch:=omega) only[go_sem,e1,zj,zQ,f4,f2,zaB,f3];exact k) ?_;rw[f5];refine .e ?_;exact .a ih
    .have h3:¬(273681612800+zci (ctm y k l) 8).tmod 547363225600<0:=by simpa using h
     rw[gC h3]at h2;rw[<-h2]at f5;refine .skip ?_;rw[f5];refine .e ?_;exact .a ih
  .refine .round (.e ?_);refine .u (.exit ?_);refine .e ?_;exact .a ih
 refine .round (.e ?_);refine .u (.exit ?_);have c3:=za2 (zbf y) 64;have c4:(is (fil (zbf y) 64)).length=64:=by rfl
 have c5:=zq (fil (zbf y) 64);have c6:qA 64 (is (fil (zbf y) 64))=is (fil (zbf y) 64):=gH om;have z3:(is zi).length=64:=by rfl
 have z4:qB 64 (is zi)=[]:=uB om;refine .g (nq2 c4 (nq2 c5 (nq2 c6 (nq2 z3 z4)))) ?_;rw[hinv];refine .w (.agg (is (fil (zbf y) 64))) (nq2 c4 c6) ?_;exact .base (.id (zn (zae _ _)))
theorem zqa(al:Bool)(H:za):CallOk prog 246 [.bool al] H (.agg (is (sca al))) H:=by
 cases al
 .exact .evalV 1000000 kr (zpI _)
 .exact .evalV 1000000 kr (zpI _)
theorem zkQ(l:List Int)(al:Bool)(hl:l.length=64)(H:za):CallOk prog 185 [.agg (is l),.bool al] H (.agg (is (frs l al))) H:=by
 have hall:=zq l;have hall2:=zq (sca al);have sc:=λK=>zqa al K;have sl:=zoQ al;have sd:qB 64 (is zi)=[]:=uB (by rw[zj,zm6];omega);refine .go func185 ntmps185 results185 ?_;refine .g hall ?_;refine .f (λK k=>by simp(disch:=omega) only[go_sem,hall2,zj,sl,zm6,sd];refine VCx.call (sc _) rfl ?_;simp(disch:=omega) only[go_sem,hall2,zj,sl,zm6,sd];exact k) ?_;refine .e (.e ?_);refine .l ?_;suffices h1:∀ p:Nat,p<=64->PL prog _ _ [(2,.ptr H.length 0 0),(4,.ptr (H.length+1) 0 0),(5,.ptr (H.length+2) 0 0),(6,.ptr (H.length+3) 0 0),(7,O J (p:Int))] (H++[⟨139,0,is l⟩,⟨139,0,is zi⟩,⟨139,0,is (sca al)⟩,⟨139,0,is (frn l (sca al) p)⟩]) _ by exact .a (h1 0 om)
 refine cnt 64 (λp hp ih=> ?_) ?_
 .refine .round (.e ?_);refine .t ?_;obtain⟨b1,b2⟩:=zr7 al p;obtain⟨X,hX⟩:∃ X:Nat,ze (sca al) p=(X:Int):=⟨(ze (sca al) p).toNat,om⟩;have f1:=ztF (l:=l) hX;have f2:=zeT l (sca al) p;refine .skip (.b ?_);refine .y [H.length+3] [(6,[0]),(20,[0])] [] [] λK hK=> ?_;simp(disch:=omega) only[go_sem,zy,zQ,zj,sl,hl,hX,f2,zaB,f1];refine hK _ _ ?_;clear hK K;refine .e ?_;exact .a ih
 refine .round (.e ?_);refine .u (.exit ?_);have c3:=zeT l (sca al) 64;have c4:(is (frn l (sca al) 64)).length=64:=by rw[zj,c3]
 have c5:=zq (frn l (sca al) 64);have c6:qA 64 (is (frn l (sca al) 64))=is (frn l (sca al) 64):=gH om;have z3:(is zi).length=64:=by rfl
 have z4:qB 64 (is zi)=[]:=uB om;refine .g (nq2 c4 (nq2 c5 (nq2 c6 (nq2 z3 z4)))) ?_;unfold frs;refine .w (.agg (is (frn l (sca al) 64))) (nq2 c4 c6) ?_;exact .base (.id (zn (zae _ _)))
theorem zrE(w q:Int)(k:Nat)(H:za)(hw:8<=w/\w<=255)(hq:qnB q=true)(hk:k<64):CallOk prog 245 [O J w,O J q,O J (k:Int)] H (O J (w * q * ze gnL k)) H:=by
 have q1:=zih hq;have n1:=λH=>zfP (k / 8) H om;have n2:=λH=>zfP (k%8) H om;have r1:=nr3 (show k / 8<8 from om);have r2:=nr3 (show k%8<8 from om);have b1:=zsV (a:=w) (b:=q) (A:=255) (B:=31) om om;rw[<-ztA hk];have d1:(k:Int).tdiv 8=((k / 8:Nat):Int):=by rfl
 have d2:(k:Int).tmod 8=((k%8:Nat):Int):=by rfl
 generalize ze nrL (k / 8)=a at n1 r1 |-;generalize ze nrL (k%8)=b at n2 r2 |-;refine .go func245 ntmps245 results245 ?_;refine .e ?_;(repeat refine .seq ?_);refine .rgv (P:=prog) [0,1,2] 29 (.bool false) ?_ ?_ ?_
 .rfl
 .simp(disch:=omega) only[go_sem];(repeat'((refine zg ?_ ?_)<;>intro h<;>(try simp only[nqb]at h)<;>simp(disch:=omega) only[go_sem,h]));all_goals(simp_all[slot,qD])
 refine .us (.e ?_);refine .x λK hK=> ?_;simp(disch:=omega) only[go_sem,d1,d2];refine VCx.call (n1 _) rfl ?_;simp(disch:=omega) only[go_sem,d1,d2];refine VCx.call (n2 _) rfl ?_;rcases r1 with rfl|rfl|rfl<;>rcases r2 with rfl|rfl|rfl;all_goals(simp(disch:=omega) only[go_sem,Int.reduceMul];refine hK _ _ ?_;(repeat'(first|refine .seq ?_|refine .block ?_|((refine .rg rfl λK hK=> ?_);simp(disch:=omega) only[go_sem,Int.reduceMul])|(refine hK _ _ ?_)|(refine .cond (t:=_) rfl (λh=> ?_) (λh=> ?_)<;>(try(cases h;done))<;>(try simp only[nqb]at h))));(refine .ret ⟨_,rfl,?_⟩;refine .inl ⟨?_,rfl⟩);rfl)
theorem zvI(m:List UInt8)(q:Int)(hm:m.length=64)(hmx:zaM m=true)(hq:qnB q=true)(H:za):CallOk prog 244 [.agg (bs m),O J q] H (.bool true) H:=by
 have vm:=λK=>ziv m K hm;rw[hmx]at vm;have q1:=zih hq;have hall2:(bs m).all PV.cell=true:=by simp[bs,PV.cell]
 have tkm:qA 64 (bs m)=bs m:=gH (by rw[zd];omega);refine .go func244 ntmps244 results244 ?_;refine .g hall2 ?_;refine .x λK hK=> ?_;simp(disch:=omega) only[go_sem,zd,hm,tkm];(repeat'(((refine VCx.call (vm _) rfl ?_);simp(disch:=omega) only[go_sem,zd,hm,tkm])));all_goals(refine hK _ _ ?_;clear hK;(refine .ret ⟨_,rfl,?_⟩;refine .base (.id' ?_ (.bool _)));(simp_all[slot,qD]))
theorem zmR(l:List Int)(m:List UInt8)(q:Int)(hl:l.length=64)(hlr:lrg l)(hm:m.length=64)(hmx:zaM m=true)(hq:qnB q=true)(H:za):
  CallOk prog 184 [.agg (is l),.agg (bs m),O J q] H (.tup [.agg (is (dqz l m q)),O J 0]) H:=by
 have hall:=zq l;have hall2:(bs m).all PV.cell=true:=by simp[bs,PV.cell]
 have vm:=λK=>zvI m q hm hmx hq K;have q1:=zih hq;have hz:=zg1 (dqf l m q);have tkm:qA 64 (bs m)=bs m:=gH (by rw[zd];omega);refine .go func184 ntmps184 results184 ?_;refine .g (nq2 hall hall2) ?_;refine .f (λK k=>by simp(disch:=omega) only[go_sem,zd,hm,tkm];refine VCx.call (vm _) rfl ?_;simp(disch:=omega) only[go_sem,zd,hm,tkm];exact k) ?_;refine .us (.e ?_);refine .e (.l ?_);suffices h1:∀ k:Nat,k<=64->PL prog _ _ [(2,O J q),(3,.ptr H.length 0 0),(4,.ptr (H.length+1) 0 0),(6,.ptr (H.length+2) 0 0),(8,.ptr (H.length+3) 0 0),(9,O J (k:Int))] (H++[⟨139,0,is l⟩,⟨35,0,bs m⟩,⟨139,0,is zi⟩,⟨139,0,is (fil (dqf l m q) k)⟩]) _ by exact .a (h1 0 om) rfl (by rw[hz];rfl)
 refine cnt 64 (λk hk ih=> ?_) ?_
 .refine .round (.e ?_);refine .t ?_;obtain⟨b1,b2⟩:=hlr k;refine .skip (.b ?_);(repeat refine .seq ?_);refine .rgv (P:=prog) [2,3,4,6,8,9] 28 (.bool false) ?_ ?_ ?_
  .rfl
  .simp(disch:=omega) only[go_sem,zQ,zj,hl];(repeat'((refine zg ?_ ?_)<;>intro h<;>(try simp only[nqb]at h)<;>simp(disch:=omega) only[go_sem,zQ,zj,hl,h]));all_goals(simp_all[slot,qD])
  refine .us ?_;have m8:=zw1 hmx (show k<m.length from om);have m9:=zR m k;have st:=λK=>zrE (byt m k) q k K ⟨m8,m9.2⟩ hq hk;obtain⟨d1,d2⟩:=zt0 (m:=m) hlr q1 k;rw[dqf]at d2;have f1:=zeV (dqf l m q) k;rw[dqf]at f1;have f2:=za2 (dqf l m q) k;refine .y [H.length+3] [(8,[0]),(42,[0])] [] [40] λK hK=> ?_;simp(disch:=omega) only[go_sem,zy,zQ,zj,hl,zak,zd,hm];refine VCj.read (λ_ _=>st _) rfl ?_;simp(disch:=omega) only[go_sem,zy,zQ,zj,hl,zak,zd,hm,f2,zaB,f1];refine hK _ _ ?_;clear hK K;refine .e ?_;exact .a ih
 refine .round (.e ?_);refine .u (.exit ?_);have c3:=za2 (dqf l m q) 64;have c4:(is (fil (dqf l m q) 64)).length=64:=by rfl
 have c5:=zq (fil (dqf l m q) 64);have c6:qA 64 (is (fil (dqf l m q) 64))=is (fil (dqf l m q) 64):=gH om;have z3:(is zi).length=64:=by rfl
 have z4:qB 64 (is zi)=[]:=uB om;refine .g (nq2 c4 (nq2 c5 (nq2 c6 (nq2 z3 z4)))) ?_;rw[<-zpA];refine .w (.tup [.agg (is (fil (dqf l m q) 64)),O J 0]) (nq2 c4 c6) ?_;refine .base (.id (.tup (asc λx hx=> ?_)));simp only[gM,gL,uA]at hx;rcases hx with rfl|rfl
 .exact zn (zae _ _)
 .exact .int _ _
end Go.Proofs.YtleejngibkbjnaaGreatDoor.Sc
