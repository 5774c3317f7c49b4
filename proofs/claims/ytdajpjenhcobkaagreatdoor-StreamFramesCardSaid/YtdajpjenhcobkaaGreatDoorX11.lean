/-
  Parts of the proof. No condition.
-/
import Derived.Test.YtdajpjenhcobkaaGreatDoorX09
import Derived.Test.YtdajpjenhcobkaaGreatDoorX10
import Derived.Test.YtdajpjenhcobkaaGreatDoorX07
open Nat renaming mul_zero → qB
open Go.Proofs.Tryz renaming prog → qA
set_option linter.all false
set_option maxRecDepth 100000
set_option maxHeartbeats 32000000
namespace Go.Proofs.YtdajpjenhcobkaaGreatDoor.Sc
open Pm Ty Go.RowKit
theorem zoT(H:za):CallOk qA 236 [] H (.agg (is tmL)) H:=CallOk.eval 1000 kr (λx hx=>by cases hx)
theorem zq8(H:za):CallOk qA 237 [] H (.agg (is nrL)) H:=CallOk.eval 1000 kr (λx hx=>by cases hx)
theorem zmy(s:Int)(H:za)(hs: -1000000000000000000<=s/\s<=1000000000000000000):CallOk qA 238 [.int .i64 s] H (.int .i64 (nst s)) H:=by
 have h1:=zhl (2 * s+547363225600) 1094726451200;have h2:=flr (2 * s+547363225600) 1094726451200 om;rw[<-nst]at h2;refine .go Tryz.func238 Tryz.ntmps238 Tryz.results238 ?_;refine .e ?_;refine .e ?_;refine .f (λK k=>by simp(disch:=omega) only[go_sem,zi4];exact k) ?_;refine .e ?_;refine .c (λh=> ?_) (λh=> ?_)
 .have h3:(2 * s+547363225600).tmod 1094726451200<0:=by simpa using h
  rw[if_pos h3]at h2;refine .e ?_;refine .e ?_;(refine .ret ⟨_,rfl,?_⟩;refine .inl ⟨?_,rfl⟩);exact congrArg _ h2
 .have h3:¬(2 * s+547363225600).tmod 1094726451200<0:=by simpa using h
  rw[if_neg h3]at h2;refine .skip ?_;refine .e ?_;(refine .ret ⟨_,rfl,?_⟩;refine .inl ⟨?_,rfl⟩);exact congrArg _ h2
def tsc(p:Nat):List Int:=rgI 64 λj=>if j<p then tS (j / 8) (j%8)else ze tmL j
theorem zw2:tsc 0=tmL:=by rfl
theorem zm7(p:Nat):(tsc p).length=64:=zaW _ _
theorem zvj{i k:Nat}(hi:i<8)(hk:k<8):ze (tsc (8 * i+k)) (i * 8+k)=ze tmL (8 * i+k):=by grind[tsc,zbF,Nat.mul_comm]
theorem zsS{i k:Nat}(hi:i<8)(hk:k<8):(tsc (8 * i+k)).set (i * 8+k) (ze tmL (8 * i+k) * ze msL i)=tsc (8 * i+(k+1)):=by rw[tsc,zgM];refine zbN λj hj=> ?_;grind[tS,bas]
theorem zpy{i k:Nat}(hi:i<8)(hk:k<8):ze (tsc 64) (i * 8+k)=tS i k:=by grind[tsc,zbF]
theorem zre{i:Nat}(hi:i<8):ze nrL i≠0/\Int.tdiv 739840 (ze nrL i)=ze msL i/\-1000<=ze nrL i/\ze nrL i<=1000:=by
 have:∀ i,i<8->ze nrL i≠0/\Int.tdiv 739840 (ze nrL i)=ze msL i/\-1000<=ze nrL i/\ze nrL i<=1000:=by decide
 simp_all
def fil(f:Nat->Int)(n:Nat):List Int:=rgI 64 λj=>if j<n then f j else 0
theorem za6(f:Nat->Int)(n:Nat):(fil f n).length=64:=zaW _ _
def zi:List Int:=List.replicate 64 0
theorem zlP:zi.length=64:=List.length_replicate
theorem zgr(f:Nat->Int):fil f 0=zi:=by rfl
theorem zeq(f:Nat->Int)(n:Nat):(fil f n).set n (f n)=fil f (n+1):=by rw[fil,zgM];refine zbN λj hj=> ?_;grind
theorem zj3(f:Nat->Int):fil f 64=rgI 64 f:=zbN λj hj=>om
theorem zrZ(f:Nat->Int){n j:Nat}(hj:j<n)(h:j<64):ze (fil f n) j=f j:=by rw[fil,zbF _ h,if_pos hj]
def zbZ(y:List Int)(p:Nat):Int:=zju y (p / 8) (p%8)
theorem zgL(y:List Int){i l:Nat}(hl:l<8):zbZ y (8 * i+l)=zju y i l:=by unfold zbZ;congr 1<;>omega
def zbi(y:List Int)(p:Nat):Int:=nst (zkd y (p / 8) (p%8))
theorem zn0(y:List Int){k l:Nat}(hl:l<8):zbi y (8 * k+l)=nst (zkd y k l):=by unfold zbi;congr 2<;>omega
theorem zgF{f:Nat->Int}{B:Int}(h:∀ j,-B<=f j/\f j<=B){n:Nat}(hn:n<=8): -(8 * B)<=zce f n/\zce f n<=8 * B:=by have h0:=h 0;have h1:=zgG h n;have h2:=zhU (a:=(n:Int)) (b:=B) (A:=8) (B:=B) om om;omega
theorem zmJ(y:List Int)(hl:y.length=64)(H:za):CallOk qA 151 [.agg (is y)] H (.agg (is (inv y))) H:=by
 have hinv:inv y=fil (zbi y) 64:=(zj3 _).symm;have hall:=zt y;have hz:=zgr (zbZ y);have hz2:=zgr (zbi y);refine .go Tryz.func151 Tryz.ntmps151 Tryz.results151 ?_;refine .g hall ?_;refine .k zoT ?_;refine .k zq8 ?_;refine .l ?_;suffices h1:∀ i:Nat,i<=8->PL qA _ _ [(1,.ptr H.length 0 0),(2,.ptr (H.length+1) 0 0),(3,.ptr (H.length+2) 0 0),(18,.agg (is nrL)),(19,.int .i64 (i:Int))] (H++[⟨106,0,is y⟩,⟨106,0,is zi⟩,⟨309,0,is (tsc (8 * i))⟩]) _ by exact .at [1,2,3,18,19] (h1 0 om) rfl (by rw[qB,zw2];rfl)
 refine cnt 8 (λi hi ih=> ?_) ?_
 .refine .round ?_;refine .e ?_;refine .t ?_;refine .skip ?_;refine .b ?_;have nl:(is nrL).length=8:=rfl;have nl2:nrL.length=8:=rfl;obtain⟨m1,m2,m3,m4⟩:=zre hi;refine .f (λK k=>by simp(disch:=omega) only[go_sem,zQ,nl,nl2];exact k) ?_;refine .e ?_;refine .l ?_;suffices h2:∀ k:Nat,k<=8->PL qA _ _ [(1,.ptr H.length 0 0),(2,.ptr (H.length+1) 0 0),(3,.ptr (H.length+2) 0 0),(4,.int .i64 (i:Int)),(5,.int .i64 (ze nrL i)),(18,.agg (is nrL)),(19,.int .i64 (i:Int)),(23,.int .i64 (k:Int))] (H++[⟨106,0,is y⟩,⟨106,0,is zi⟩,⟨309,0,is (tsc (8 * i+k))⟩]) _ by exact .at [1,2,3,4,5,18,19,23] (h2 0 om) rfl rfl
  refine cnt 8 (λk hk ih=> ?_) ?_
  .refine .round ?_;refine .e ?_;refine .t ?_;have b1:=zkE i k;rw[tS,bas]at b1;have t1:=zvj hi hk;have t2:=zsS hi hk;have t3:=zm7 (8 * i+k);have b2:=znC i;refine .skip ?_;refine .b ?_;refine .e ?_;(repeat refine .seq ?_);refine .drawi [H.length+2] [(3,[0]),(28,[0]),(29,[0]),(34,[0]),(35,[0])] [] [] mix kr (by simp<;>omega) λK hK=> ?_;simp(disch:=omega) only[go_sem,zD,zQ,zj,t3,t1,m1,m2,zaG,t2];refine hK _ _ ?_;clear hK K;refine .e ?_;exact .at [1,2,3,4,5,18,19,23] ih rfl rfl
  .refine .round ?_;refine .e ?_;refine .u ?_;refine .exit ?_;refine .e ?_;exact .at [1,2,3,18,19] ih rfl rfl
 refine .round ?_;refine .e ?_;refine .u ?_;refine .exit ?_;refine .e ?_;refine .e ?_;refine .l ?_;have y3:=zm7 64;suffices h1:∀ i:Nat,i<=8->PL qA _ _ [(1,.ptr H.length 0 0),(2,.ptr (H.length+1) 0 0),(3,.ptr (H.length+2) 0 0),(7,.ptr (H.length+3) 0 0),(38,.int .i64 (i:Int))] (H++[⟨106,0,is y⟩,⟨106,0,is zi⟩,⟨309,0,is (tsc 64)⟩,⟨312,0,is (fil (zbZ y) (8 * i))⟩]) _ by exact .at [1,2,3,7,38] (h1 0 om) rfl (by rw[qB,hz];rfl)
 refine cnt 8 (λi hi ih=> ?_) ?_
 .refine .round ?_;refine .e ?_;refine .t ?_;refine .skip ?_;refine .b ?_;refine .e ?_;refine .e ?_;refine .l ?_;suffices h2:∀ l:Nat,l<=8->PL qA _ _ [(1,.ptr H.length 0 0),(2,.ptr (H.length+1) 0 0),(3,.ptr (H.length+2) 0 0),(7,.ptr (H.length+3) 0 0),(8,.int .i64 (i:Int)),(38,.int .i64 (i:Int)),(41,.int .i64 (l:Int))] (H++[⟨106,0,is y⟩,⟨106,0,is zi⟩,⟨309,0,is (tsc 64)⟩,⟨312,0,is (fil (zbZ y) (8 * i+l))⟩]) _ by exact .at [1,2,3,7,8,38,41] (h2 0 om) rfl rfl
  refine cnt 8 (λl hlt ih=> ?_) ?_
  .refine .round ?_;refine .e ?_;refine .t ?_;refine .skip ?_;refine .b ?_;refine .e ?_;refine .e ?_;refine .e ?_;refine .l ?_;suffices h3:∀ j:Nat,j<=8->PL qA _ _ [(1,.ptr H.length 0 0),(2,.ptr (H.length+1) 0 0),(3,.ptr (H.length+2) 0 0),(7,.ptr (H.length+3) 0 0),(8,.int .i64 (i:Int)),(9,.int .i64 (l:Int)),(10,.int .i64 (zce (rtm y i l) j)),(38,.int .i64 (i:Int)),(41,.int .i64 (l:Int)),(44,.int .i64 (j:Int))] (H++[⟨106,0,is y⟩,⟨106,0,is zi⟩,⟨309,0,is (tsc 64)⟩,⟨312,0,is (fil (zbZ y) (8 * i+l))⟩]) _ by exact .at [1,2,3,7,8,9,10,38,41,44] (h3 0 om) rfl rfl
   refine cnt 8 (λj hj ih=> ?_) ?_
   .refine .round ?_;refine .e ?_;refine .t ?_;refine .skip ?_;refine .b ?_;refine .e ?_;have g1:=zpy hj hlt;have b1:=zhz y i l j;rw[rtm]at b1;have b2:=zgF (zhz y i l) (show j<=8 from om);have cl:∀ v:Int,(if 2097152<(if v< -2097152 then -2097152 else v)then 2097152 else(if v< -2097152 then -2097152 else v))=zke v:=λv=>by unfold zke;omega
    have e1:(8:Int) * (i:Int)+(j:Int)=((8 * i+j:Nat):Int):=om;(repeat refine .seq ?_);refine .drawi [] [] [] [] mix kr (by simp<;>omega) λK hK=> ?_;simp(disch:=omega) only[go_sem,zD,zQ,zj,y3,hl,g1,e1,cl];refine hK _ _ ?_;clear hK K;refine .e ?_;exact .at [1,2,3,7,8,9,10,38,41,44] ih rfl rfl
   .refine .round ?_;refine .e ?_;refine .u ?_;refine .exit ?_;have e1:(8:Int) * (i:Int)+(l:Int)=((8 * i+l:Nat):Int):=om;have f1:=za6 (zbZ y) (8 * i+l);have f2:=zeq (zbZ y) (8 * i+l);rw[zgL y hlt,zju]at f2;refine .f (λK k=>by simp(disch:=omega) only[go_sem,e1,zj,f1,zaG,f2];exact k) ?_;refine .e ?_;exact .at [1,2,3,7,8,38,41] ih rfl rfl
  .refine .round ?_;refine .e ?_;refine .u ?_;refine .exit ?_;refine .e ?_;exact .at [1,2,3,7,38] ih rfl rfl
 refine .round ?_;refine .e ?_;refine .u ?_;refine .exit ?_;refine .e ?_;refine .e ?_;refine .l ?_;have r3:=za6 (zbZ y) 64;suffices h1:∀ k:Nat,k<=8->PL qA _ _ [(2,.ptr (H.length+1) 0 0),(3,.ptr (H.length+2) 0 0),(7,.ptr (H.length+3) 0 0),(12,.ptr (H.length+4) 0 0),(72,.int .i64 (k:Int))] (H++[⟨106,0,is y⟩,⟨106,0,is zi⟩,⟨309,0,is (tsc 64)⟩,⟨312,0,is (fil (zbZ y) 64)⟩,⟨106,0,is (fil (zbi y) (8 * k))⟩]) _ by exact .at [2,3,7,12,72] (h1 0 om) rfl (by rw[qB,hz2];rfl)
 refine cnt 8 (λk hk ih=> ?_) ?_
 .refine .round ?_;refine .e ?_;refine .t ?_;refine .skip ?_;refine .b ?_;refine .e ?_;refine .e ?_;refine .l ?_;suffices h2:∀ l:Nat,l<=8->PL qA _ _ [(2,.ptr (H.length+1) 0 0),(3,.ptr (H.length+2) 0 0),(7,.ptr (H.length+3) 0 0),(12,.ptr (H.length+4) 0 0),(13,.int .i64 (k:Int)),(72,.int .i64 (k:Int)),(75,.int .i64 (l:Int))] (H++[⟨106,0,is y⟩,⟨106,0,is zi⟩,⟨309,0,is (tsc 64)⟩,⟨312,0,is (fil (zbZ y) 64)⟩,⟨106,0,is (fil (zbi y) (8 * k+l))⟩]) _ by exact .at [2,3,7,12,13,72,75] (h2 0 om) rfl rfl
  refine cnt 8 (λl hlt ih=> ?_) ?_
  .refine .round ?_;refine .e ?_;refine .t ?_;refine .skip ?_;refine .b ?_;refine .e ?_;refine .e ?_;refine .e ?_;refine .l ?_;suffices h3:∀ i:Nat,i<=8->PL qA _ _ [(2,.ptr (H.length+1) 0 0),(3,.ptr (H.length+2) 0 0),(7,.ptr (H.length+3) 0 0),(12,.ptr (H.length+4) 0 0),(13,.int .i64 (k:Int)),(14,.int .i64 (l:Int)),(15,.int .i64 (zce (ctm y k l) i)),(72,.int .i64 (k:Int)),(75,.int .i64 (l:Int)),(78,.int .i64 (i:Int))] (H++[⟨106,0,is y⟩,⟨106,0,is zi⟩,⟨309,0,is (tsc 64)⟩,⟨312,0,is (fil (zbZ y) 64)⟩,⟨106,0,is (fil (zbi y) (8 * k+l))⟩]) _ by exact .at [2,3,7,12,13,14,15,72,75,78] (h3 0 om) rfl rfl
   refine cnt 8 (λi hi ih=> ?_) ?_
   .refine .round ?_;refine .e ?_;refine .t ?_;refine .skip ?_;refine .b ?_;refine .e ?_;have g1:=zpy hi hk;have g2:=zrZ (zbZ y) (n:=64) (j:=8 * i+l) om om;rw[zgL y hlt]at g2;have b1:=zh9 y k l i;rw[ctm]at b1;have b2:=zgF (zh9 y k l) (show i<=8 from om);have e1:(8:Int) * (i:Int)+(l:Int)=((8 * i+l:Nat):Int):=om;(repeat refine .seq ?_);refine .drawi [] [] [] [] mix kr (by simp<;>omega) λK hK=> ?_;simp(disch:=omega) only[go_sem,zD,zQ,zj,y3,r3,g1,g2,e1];refine hK _ _ ?_;clear hK K;refine .e ?_;exact .at [2,3,7,12,13,14,15,72,75,78] ih rfl rfl
   .refine .round ?_;refine .e ?_;refine .u ?_;refine .exit ?_;have e1:(8:Int) * (k:Int)+(l:Int)=((8 * k+l:Nat):Int):=om;have f1:=za6 (zbi y) (8 * k+l);have f2:=zeq (zbi y) (8 * k+l);rw[zn0 y hlt]at f2;have b2:=zkc y k l;rw[zkd]at f2 b2;have nn:=λK=>zmy (zce (ctm y k l) 8) K om;refine .f (λK k=>by simp(disch:=omega) only[go_sem,e1,zj,f1,zaG,f2];refine VCx.call (nn _) rfl ?_;simp(disch:=omega) only[go_sem,e1,zj,f1,zaG,f2];exact k) ?_;refine .e ?_;exact .at [2,3,7,12,13,72,75] ih rfl rfl
  .refine .round ?_;refine .e ?_;refine .u ?_;refine .exit ?_;refine .e ?_;exact .at [2,3,7,12,72] ih rfl rfl
 refine .round ?_;refine .e ?_;refine .u ?_;refine .exit ?_;have c3:=za6 (zbi y) 64;have c4:(is (fil (zbi y) 64)).length=64:=by rfl
 have c5:=zt (fil (zbi y) 64);have c6:List.take 64 (is (fil (zbi y) 64))=is (fil (zbi y) 64):=List.take_of_length_le om;have z3:(is zi).length=64:=by rfl
 have z4:List.drop 64 (is zi)=[]:=List.drop_of_length_le om;refine .g (nq2 c4 (nq2 c5 (nq2 c6 (nq2 z3 z4)))) ?_;rw[hinv];refine .w (.agg (is (fil (zbi y) 64))) (nq2 c4 c6) ?_;exact .base (.id (zq (zZ _ _)))
end Go.Proofs.YtdajpjenhcobkaaGreatDoor.Sc
