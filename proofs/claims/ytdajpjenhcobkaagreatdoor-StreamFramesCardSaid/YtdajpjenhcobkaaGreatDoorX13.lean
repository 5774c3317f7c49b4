/-
  Parts of the proof. No condition.
-/
import Derived.Test.YtdajpjenhcobkaaGreatDoorX11
import Derived.Test.YtdajpjenhcobkaaGreatDoorX12
open List renaming take_of_length_le → qB, drop_of_length_le → qD, take → qE, not_mem_nil → qF, mem_cons → qG, drop → qH
open Nat renaming beq → qI
open Go.Proofs.Tryz renaming prog → qA
set_option linter.all false
set_option maxRecDepth 100000
set_option maxHeartbeats 32000000
namespace Go.Proofs.YtdajpjenhcobkaaGreatDoor.Sc
open Pm Ty Go.RowKit
theorem zn4(b:Bool):∀ x∈[PV.bool b],Scoped 0 x:=λx hx=>by simp only[qG,qF,or_false]at hx;subst hx;exact .bool _
theorem zqh(al:Bool)(H:za):CallOk qA 233 [.bool al] H (.agg (is (sca al))) H:=by
 cases al
 .exact .evalV 1000000 kr (zn4 _)
 .exact .evalV 1000000 kr (zn4 _)
theorem zrP{l s:List Int}{n X:Nat}(hx:ze s n=(X:Int)):(frn l s n).set X (ze l n)=frn l s (n+1):=by rw[frn,hx,Int.toNat_natCast]
theorem zlr(l:List Int)(al:Bool)(hl:l.length=64)(H:za):CallOk qA 149 [.agg (is l),.bool al] H (.agg (is (frs l al))) H:=by
 have hall:=zt l;have sc:=λK=>zqh al K;have sl:=znm al;refine .go Tryz.func149 Tryz.ntmps149 Tryz.results149 ?_;refine .g hall ?_;refine .e ?_;refine .k sc ?_;refine .l ?_;suffices h1:∀ p:Nat,p<=64->PL qA _ _ [(2,.ptr H.length 0 0),(4,.ptr (H.length+1) 0 0),(5,.ptr (H.length+2) 0 0),(9,.agg (is (sca al))),(10,.int .i64 (p:Int))] (H++[⟨106,0,is l⟩,⟨106,0,is zi⟩,⟨106,0,is (frn l (sca al) p)⟩]) _ by exact .at [2,4,5,9,10] (h1 0 om) rfl rfl
 refine cnt 64 (λp hp ih=> ?_) ?_
 .refine .round ?_;refine .e ?_;refine .t ?_;obtain⟨b1,b2⟩:=zqj al p;obtain⟨X,hX⟩:∃ X:Nat,ze (sca al) p=(X:Int):=⟨(ze (sca al) p).toNat,om⟩;have f1:=zrP (l:=l) hX;have f2:=zeo l (sca al) p;refine .skip ?_;refine .b ?_;refine .f (λK k=>by simp(disch:=omega) only[go_sem,zQ,zj,sl,hX];exact k) ?_;refine .f (λK k=>by simp(disch:=omega) only[go_sem,zQ,zj,hl,hX,f2,zaG,f1];exact k) ?_;refine .e ?_;exact .at [2,4,5,9,10] ih rfl rfl
 refine .round ?_;refine .e ?_;refine .u ?_;refine .exit ?_;have c3:=zeo l (sca al) 64;have c4:(is (frn l (sca al) 64)).length=64:=by rw[zj,c3]
 have c5:=zt (frn l (sca al) 64);have c6:qE 64 (is (frn l (sca al) 64))=is (frn l (sca al) 64):=qB om;have z3:(is zi).length=64:=by rfl
 have z4:qH 64 (is zi)=[]:=qD om;refine .g (nq2 c4 (nq2 c5 (nq2 c6 (nq2 z3 z4)))) ?_;unfold frs;refine .w (.agg (is (frn l (sca al) 64))) (nq2 c4 c6) ?_;exact .base (.id (zq (zZ _ _)))
theorem or8{i:Nat}(h:i<8):i=0\/i=1\/i=2\/i=3\/i=4\/i=5\/i=6\/i=7:=om
theorem sc2(a b:Int):∀ x∈[PV.int .i64 a,PV.int .i64 b],Scoped 0 x:=λx hx=>by simp only[qG,qF,or_false]at hx;rcases hx with rfl|rfl<;>exact .int _ _
theorem sc1(a:Int):∀ x∈[PV.int .i64 a],Scoped 0 x:=λx hx=>by simp only[qG,qF,or_false]at hx;subst hx;exact .int _ _
theorem zny(i:Nat)(H:za)(hi:i<8):CallOk qA 272 [.int .i64 (i:Int)] H (.int .i64 (ze nrL i)) H:=by rcases or8 hi with rfl|rfl|rfl|rfl|rfl|rfl|rfl|rfl;all_goals exact .eval 10000 kr (sc1 _)
theorem nr3{i:Nat}(h:i<8):ze nrL i=512\/ze nrL i=578\/ze nrL i=320:=by
 have:∀ i,i<8->ze nrL i=512\/ze nrL i=578\/ze nrL i=320:=by decide
 simp_all
def gnV(a b:Int):Int:=if a=512/\b=512 then 32 else if(a=512/\b=578)\/(a=578/\b=512)then 34 else if(a=512/\b=320)\/(a=320/\b=512)then 25 else if a=578/\b=578 then 36 else if(a=578/\b=320)\/(a=320/\b=578)then 27 else 20
theorem zrK{k:Nat}(h:k<64):gnV (ze nrL (k / 8)) (ze nrL (k%8))=ze gnL k:=by
 have:∀ k,k<64->gnV (ze nrL (k / 8)) (ze nrL (k%8))=ze gnL k:=by decide+kernel
 simp_all
theorem ztS{a b:Int}(ha:a=512\/a=578\/a=320)(hb:b=512\/b=578\/b=320)(H:za):CallOk qA 271 [.int .i64 a,.int .i64 b] H (.int .i64 (gnV a b)) H:=by rcases ha with rfl|rfl|rfl<;>rcases hb with rfl|rfl|rfl;all_goals exact .eval 10000 kr (sc2 _ _)
def qnB(q:Int):Bool:=decide (1<=q)&&decide (q<=31)
theorem zuI(q:Int)(H:za):CallOk qA 231 [.int .i64 q] H (.bool (qnB q)) H:=by refine .go Tryz.func231 Tryz.ntmps231 Tryz.results231 ?_;(repeat'(first|refine .seq ?_|((refine .rg rfl λK hK=> ?_);simp(disch:=omega) only[go_sem])|((refine zg ?_ ?_)<;>intro h<;>(try simp only[nqb]at h)<;>simp(disch:=omega) only[go_sem,h])|(refine hK _ _ ?_;clear hK K)));all_goals((refine .ret ⟨_,rfl,?_⟩;refine .inl ⟨?_,rfl⟩);(simp_all[qnB,slot,qI]<;>omega))
theorem zhF{q:Int}(h:qnB q=true):1<=q/\q<=31:=by simpa[qnB]using h
theorem zrb{a b:Int}{A B:Int}(ha:0<=a/\a<=A)(hb:0<=b/\b<=B):0<=a * b/\a * b<=A * B:=⟨Int.mul_nonneg ha.1 hb.1,Int.mul_le_mul ha.2 hb.2 hb.1 om⟩
theorem zs2(w q:Int)(k:Nat)(H:za)(hw:8<=w/\w<=255)(hq:qnB q=true)(hk:k<64):CallOk qA 232 [.int .i64 w,.int .i64 q,.int .i64 (k:Int)] H (.int .i64 (w * q * ze gnL k)) H:=by
 have vq:=λH=>zuI q H;rw[hq]at vq;have q1:=zhF hq;have n1:=λH=>zny (k / 8) H om;have n2:=λH=>zny (k%8) H om;have gk:=λH=>ztS (nr3 (show k / 8<8 from om)) (nr3 (show k%8<8 from om)) H;rw[zrK hk]at gk;have b1:=zrb (a:=w) (b:=q) (A:=255) (B:=31) om om;have b2:=zrb (a:=w * q) (b:=ze gnL k) (A:=7905) (B:=36) om (zuV k);have d1:(k:Int).tdiv 8=((k / 8:Nat):Int):=by rfl
 have d2:(k:Int).tmod 8=((k%8:Nat):Int):=by rfl
 refine .go Tryz.func232 Tryz.ntmps232 Tryz.results232 ?_;refine .e ?_;(repeat refine .seq ?_);refine .rgv (P:=qA) [0,1,2] 25 (.bool false) ?_ ?_ ?_
 .rfl
 .simp(disch:=omega) only[go_sem];(repeat'(((refine VCx.call (vq _) rfl ?_);simp(disch:=omega) only[go_sem])));all_goals(simp_all[slot,qI])
 refine .us ?_;(repeat refine .seq ?_);refine .rg rfl λK hK=> ?_;simp(disch:=omega) only[go_sem,d1,d2];(repeat'(((first|refine VCx.call (n1 _) rfl ?_|refine VCx.call (n2 _) rfl ?_|refine VCx.call (gk _) rfl ?_);simp(disch:=omega) only[go_sem,d1,d2])));refine hK _ _ ?_;clear hK K;(refine .ret ⟨_,rfl,?_⟩;refine .inl ⟨?_,rfl⟩);rfl
def lrg(l:List Int):Prop:=∀ i,-4095<=ze l i/\ze l i<=4095
def dqf(l:List Int)(m:List UInt8)(q:Int)(k:Nat):Int:=ze l k * (byt m k * q * ze gnL k)
theorem znX(l:List Int)(m:List UInt8)(q:Int):fil (dqf l m q) 64=dqz l m q:=zj3 _
theorem zuM{m:List UInt8}(h:zaU m=true){k:Nat}(hk:k<m.length):8<=byt m k:=by grind[zaU,List.all_eq_true,List.getElem_mem,byt,List.getElem?_eq_getElem]
theorem zr7{l:List Int}{m:List UInt8}{q:Int}(hl:lrg l)(hq:1<=q/\q<=31)(k:Nat):(0<=byt m k * q * ze gnL k/\byt m k * q * ze gnL k<=284580)/\-1165355100<=dqf l m q k/\dqf l m q k<=1165355100:=by have h1:=zK m k;have b1:=zrb (a:=byt m k) (b:=q) (A:=255) (B:=31) om om;have b2:=zrb (a:=byt m k * q) (b:=ze gnL k) (A:=7905) (B:=36) om (zuV k);refine⟨om,?_⟩;exact zhU (hl k) (show -284580<=_/\_<=(284580:Int)from om)
theorem zmQ(l:List Int)(m:List UInt8)(q:Int)(hl:l.length=64)(hlr:lrg l)(hm:m.length=64)(hmx:zaU m=true)(hq:qnB q=true)(H:za):
  CallOk qA 148 [.agg (is l),.agg (bs m),.int .i64 q] H (.tup [.agg (is (dqz l m q)),.int .i64 0]) H:=by
 have hall:=zt l;have hall2:(bs m).all PV.cell=true:=by simp[bs,PV.cell]
 have vm:=λK=>zlg m K hm;rw[hmx]at vm;have vq:=λK=>zuI q K;rw[hq]at vq;have q1:=zhF hq;have hz:=zgr (dqf l m q);have tkm:qE 64 (bs m)=bs m:=qB (by rw[zd];omega);have tkl:qE 64 (is l)=is l:=qB (by rw[zj];omega);refine .go Tryz.func148 Tryz.ntmps148 Tryz.results148 ?_;refine .g (nq2 hall hall2) ?_;(repeat refine .seq ?_);refine .rgv (P:=qA) [2,3,4,6,7] 18 (.bool false) ?_ ?_ ?_
 .rfl
 .simp(disch:=omega) only[go_sem,zd,tkm];(repeat'(((first|refine VCx.call (vm _) rfl ?_|refine VCx.call (vq _) rfl ?_);simp(disch:=omega) only[go_sem,zd,tkm])));all_goals(simp_all[slot,qI])
 refine .us ?_;refine .e ?_;refine .f (λK k=>by simp(disch:=omega) only[go_sem,zj,tkl];exact k) ?_;refine .l ?_;suffices h1:∀ k:Nat,k<=64->PL qA _ _ [(2,.int .i64 q),(4,.ptr (H.length+1) 0 0),(6,.ptr (H.length+2) 0 0),(8,.ptr (H.length+3) 0 0),(20,.agg (is l)),(21,.int .i64 (k:Int))] (H++[⟨106,0,is l⟩,⟨24,0,bs m⟩,⟨106,0,is zi⟩,⟨106,0,is (fil (dqf l m q) k)⟩]) _ by exact .at [2,4,6,8,20,21] (h1 0 om) rfl (by rw[hz];rfl)
 refine cnt 64 (λk hk ih=> ?_) ?_
 .refine .round ?_;refine .e ?_;refine .t ?_;obtain⟨b1,b2⟩:=hlr k;refine .skip ?_;refine .b ?_;refine .f (λK k=>by simp(disch:=omega) only[go_sem,zQ,zj,hl];exact k) ?_;(repeat refine .seq ?_);refine .rgv (P:=qA) [2,4,6,8,9,10,20,21] 30 (.bool false) ?_ ?_ ?_
  .rfl
  .simp(disch:=omega) only[go_sem];(repeat'((refine zg ?_ ?_)<;>intro h<;>(try simp only[nqb]at h)<;>simp(disch:=omega) only[go_sem,h]));all_goals(simp_all[slot,qI])
  refine .us ?_;have m8:=zuM hmx (show k<m.length from om);have m9:=zK m k;have st:=λK=>zs2 (byt m k) q k K ⟨m8,m9.2⟩ hq hk;obtain⟨d1,d2⟩:=zr7 (m:=m) hlr q1 k;rw[dqf]at d2;have f1:=zeq (dqf l m q) k;rw[dqf]at f1;have f2:=za6 (dqf l m q) k;refine .f (λK k=>by simp(disch:=omega) only[go_sem,zaf,zd,hm,zj,f2,zaG,f1];refine VCx.call (st _) rfl ?_;simp(disch:=omega) only[go_sem,zaf,zd,hm,zj,f2,zaG,f1];exact k) ?_;refine .e ?_;exact .at [2,4,6,8,20,21] ih rfl rfl
 refine .round ?_;refine .e ?_;refine .u ?_;refine .exit ?_;have c3:=za6 (dqf l m q) 64;have c4:(is (fil (dqf l m q) 64)).length=64:=by rfl
 have c5:=zt (fil (dqf l m q) 64);have c6:qE 64 (is (fil (dqf l m q) 64))=is (fil (dqf l m q) 64):=qB om;have z3:(is zi).length=64:=by rfl
 have z4:qH 64 (is zi)=[]:=qD om;refine .g (nq2 c4 (nq2 c5 (nq2 c6 (nq2 z3 z4)))) ?_;rw[<-znX];refine .w (.tup [.agg (is (fil (dqf l m q) 64)),.int .i64 0]) (nq2 c4 c6) ?_;refine .base (.id (.tup (asc λx hx=> ?_)));simp only[qG,qF,or_false]at hx;rcases hx with rfl|rfl
 .exact zq (zZ _ _)
 .exact .int _ _
theorem ziX(i k:Nat)(H:za)(hi:i<8)(hk:k<8):CallOk qA 182 [.int .i64 (i:Int),.int .i64 (k:Int)] H (.int .i64 (bas i k)) H:=by rcases or8 hi with rfl|rfl|rfl|rfl|rfl|rfl|rfl|rfl<;>rcases or8 hk with rfl|rfl|rfl|rfl|rfl|rfl|rfl|rfl;all_goals exact .eval 1000 kr (sc2 _ _)
theorem zfe(i:Nat)(H:za)(hi:i<8):CallOk qA 183 [.int .i64 (i:Int)] H (.int .i64 (ze nrL i)) H:=by rcases or8 hi with rfl|rfl|rfl|rfl|rfl|rfl|rfl|rfl;all_goals exact .eval 10000 kr (sc1 _)
theorem zpc(v:Int)(H:za):CallOk qA 184 [.int .i64 v] H (.int .i64 (zke v)) H:=by
 have cl:(if(if 2097152<v then 2097152 else v)> -2097152 then(if 2097152<v then 2097152 else v)else -2097152)=zke v:=by unfold zke;omega
 refine .go Tryz.func184 Tryz.ntmps184 Tryz.results184 ?_;refine .e ?_;refine .e ?_;(refine .ret ⟨_,rfl,?_⟩;refine .inl ⟨?_,rfl⟩);exact congrArg _ cl
def fim(f:Nat->Int)(n:Nat)(v:Int):List Int:=rgI 64 λj=>if j<n then f j else if j=n then v else 0
theorem znW(f:Nat->Int)(n:Nat)(v:Int):(fim f n v).length=64:=zaW _ _
theorem zuZ(f:Nat->Int)(n:Nat):fim f n 0=fil f n:=zbN λj hj=>by
 by_cases h:j<n
 .rw[if_pos h,if_pos h]
 .rw[if_neg h,if_neg h];split<;>rfl
theorem zuY(f:Nat->Int)(n:Nat):fim f n (f n)=fil f (n+1):=zbN λj hj=>by
 by_cases h:j<n
 .rw[if_pos h,if_pos om]
 .by_cases h2:j=n
  .rw[if_neg h,if_pos h2,if_pos om,h2]
  .rw[if_neg h,if_neg h2,if_neg om]
theorem zrX(f:Nat->Int){n:Nat}(v:Int)(h:n<64):ze (fim f n v) n=v:=by rw[fim,zbF _ h,if_neg om,if_pos rfl]
theorem zj2(f:Nat->Int)(n:Nat)(v w:Int):(fim f n v).set n w=fim f n w:=by
 rw[fim,zgM];refine zbN λj hj=> ?_;by_cases h1:j=n
 .rw[if_pos h1,if_neg om,if_pos h1]
 .rw[if_neg h1,if_neg h1,if_neg h1]
theorem zrY(f:Nat->Int)(n:Nat)(v:Int):(fil f n).set n v=fim f n v:=by rw[<-zuZ,zj2]
theorem zvT(c:Int):nst c=(273681612800+c) / 547363225600:=by unfold nst;omega
theorem zln(y:List Int)(hl:y.length=64)(H:za):CallOk qA 107 [.agg (is y)] H (.agg (is (inv y))) H:=by
 have hinv:inv y=fil (zbi y) 64:=(zj3 _).symm;have hall:=zt y;have hz:=zgr (zbZ y);have hz2:=zgr (zbi y);refine .go Tryz.func107 Tryz.ntmps107 Tryz.results107 ?_;refine .g hall ?_;refine .e ?_;refine .e ?_;refine .l ?_;suffices h1:∀ i:Nat,i<=8->PL qA _ _ [(1,.ptr H.length 0 0),(2,.ptr (H.length+1) 0 0),(3,.ptr (H.length+2) 0 0),(4,.ptr (H.length+3) 0 0),(5,.int .i64 (i:Int))] (H++[⟨106,0,is y⟩,⟨106,0,is zi⟩,⟨106,0,is (fil (zbZ y) (8 * i))⟩,⟨106,0,is zi⟩]) _ by exact .at [1,2,3,4,5] (h1 0 om) rfl (by rw[Nat.mul_zero,hz];rfl)
 refine cnt 8 (λi hi ih=> ?_) ?_
 .refine .round ?_;refine .e ?_;refine .t ?_;refine .skip ?_;refine .b ?_;refine .e ?_;refine .l ?_;suffices h2:∀ l:Nat,l<=8->PL qA _ _ [(1,.ptr H.length 0 0),(2,.ptr (H.length+1) 0 0),(3,.ptr (H.length+2) 0 0),(4,.ptr (H.length+3) 0 0),(5,.int .i64 (i:Int)),(6,.int .i64 (l:Int))] (H++[⟨106,0,is y⟩,⟨106,0,is zi⟩,⟨106,0,is (fil (zbZ y) (8 * i+l))⟩,⟨106,0,is zi⟩]) _ by exact .at [1,2,3,4,5,6] (h2 0 om) rfl rfl
  refine cnt 8 (λl hlt ih=> ?_) ?_
  .refine .round ?_;refine .e ?_;refine .t ?_;refine .skip ?_;refine .b ?_;refine .e ?_;refine .l ?_;suffices h3:∀ j:Nat,j<=8->PL qA _ _ [(1,.ptr H.length 0 0),(2,.ptr (H.length+1) 0 0),(3,.ptr (H.length+2) 0 0),(4,.ptr (H.length+3) 0 0),(5,.int .i64 (i:Int)),(6,.int .i64 (l:Int)),(7,.int .i64 (j:Int))] (H++[⟨106,0,is y⟩,⟨106,0,is zi⟩,⟨106,0,is (fim (zbZ y) (8 * i+l) (zce (rtm y i l) j))⟩,⟨106,0,is zi⟩]) _ by exact .at [1,2,3,4,5,6,7] (h3 0 om) rfl (by rw[show zce (rtm y i l) 0=0 from rfl,zuZ])
   refine cnt 8 (λj hj ih=> ?_) ?_
   .refine .round ?_;refine .e ?_;refine .t ?_;have b1:=zhz y i l j;rw[rtm,tS]at b1;have b0:=zkE j l;rw[tS]at b0;obtain⟨m1,m2,m3,m4⟩:=zre hj;have bm:=znC j;have b2:=zgF (zhz y i l) (show j<=8 from om);have e1:(8:Int) * (i:Int)+(j:Int)=((8 * i+j:Nat):Int):=om;have e2:(8:Int) * (i:Int)+(l:Int)=((8 * i+l:Nat):Int):=om;have f1:=λv=>znW (zbZ y) (8 * i+l) v;have f2:=λv=>zrX (zbZ y) v (show 8 * i+l<64 from om);have f3:=λv w=>zj2 (zbZ y) (8 * i+l) v w;have f7:=f1 (zce (rtm y i l) j);have ba:=λK=>ziX j l K hj hlt;have no:=λK=>zfe j K hj;have cl:=λK=>zpc (ze y (8 * i+j)) K;refine .skip ?_;refine .b ?_;(repeat refine .seq ?_);refine .drawi [H.length+2] [(3,[0]),(28,[0]),(46,[0])] [] [32,34,43] mix kr (by simp<;>omega) λK hK=> ?_;simp(disch:=omega) only[go_sem,zD,zQ,zj,hl,f1,f2,e1,e2];refine VCj.read (λ_ _=>ba _) rfl ?_;simp(disch:=omega) only[go_sem,zD,zQ,zj,hl,f1,f2,e1,e2,m1,m2];refine VCj.read (λ_ _=>no _) rfl ?_;simp(disch:=omega) only[go_sem,zD,zQ,zj,hl,f1,f2,e1,e2,m1,m2];refine VCj.read (λ_ _=>cl _) rfl ?_;simp(disch:=omega) only[go_sem,zD,zQ,zj,hl,f1,f2,e1,e2,m1,m2,zaG,f3];refine hK _ _ ?_;clear hK K;refine .e ?_;exact .at [1,2,3,4,5,6,7] ih rfl rfl
   .refine .round ?_;refine .e ?_;refine .u ?_;refine .exit ?_;have f2:=zuY (zbZ y) (8 * i+l);rw[zgL y hlt,zju]at f2;rw[f2];refine .e ?_;exact .at [1,2,3,4,5,6] ih rfl rfl
  .refine .round ?_;refine .e ?_;refine .u ?_;refine .exit ?_;refine .e ?_;exact .at [1,2,3,4,5] ih rfl rfl
 refine .round ?_;refine .e ?_;refine .u ?_;refine .exit ?_;refine .e ?_;refine .l ?_;have r3:=za6 (zbZ y) 64;suffices h1:∀ k:Nat,k<=8->PL qA _ _ [(2,.ptr (H.length+1) 0 0),(3,.ptr (H.length+2) 0 0),(4,.ptr (H.length+3) 0 0),(8,.int .i64 (k:Int))] (H++[⟨106,0,is y⟩,⟨106,0,is zi⟩,⟨106,0,is (fil (zbZ y) 64)⟩,⟨106,0,is (fil (zbi y) (8 * k))⟩]) _ by exact .at [2,3,4,8] (h1 0 om) rfl (by rw[Nat.mul_zero,hz2])
 refine cnt 8 (λk hk ih=> ?_) ?_
 .refine .round ?_;refine .e ?_;refine .t ?_;refine .skip ?_;refine .b ?_;refine .e ?_;refine .l ?_;suffices h2:∀ l:Nat,l<=8->PL qA _ _ [(2,.ptr (H.length+1) 0 0),(3,.ptr (H.length+2) 0 0),(4,.ptr (H.length+3) 0 0),(8,.int .i64 (k:Int)),(9,.int .i64 (l:Int))] (H++[⟨106,0,is y⟩,⟨106,0,is zi⟩,⟨106,0,is (fil (zbZ y) 64)⟩,⟨106,0,is (fil (zbi y) (8 * k+l))⟩]) _ by exact .at [2,3,4,8,9] (h2 0 om) rfl rfl
  refine cnt 8 (λl hlt ih=> ?_) ?_
  .refine .round ?_;refine .e ?_;refine .t ?_;refine .skip ?_;refine .b ?_;refine .e ?_;refine .e ?_;refine .l ?_;suffices h3:∀ i:Nat,i<=8->PL qA _ _ [(2,.ptr (H.length+1) 0 0),(3,.ptr (H.length+2) 0 0),(4,.ptr (H.length+3) 0 0),(8,.int .i64 (k:Int)),(9,.int .i64 (l:Int)),(10,.int .i64 (273681612800+zce (ctm y k l) i)),(11,.int .i64 (i:Int))] (H++[⟨106,0,is y⟩,⟨106,0,is zi⟩,⟨106,0,is (fil (zbZ y) 64)⟩,⟨106,0,is (fil (zbi y) (8 * k+l))⟩]) _ by exact .at [2,3,4,8,9,10,11] (h3 0 om) rfl rfl
   refine cnt 8 (λi hi ih=> ?_) ?_
   .refine .round ?_;refine .e ?_;refine .t ?_;have g2:=zrZ (zbZ y) (n:=64) (j:=8 * i+l) om om;rw[zgL y hlt]at g2;have b1:=zh9 y k l i;rw[ctm,tS]at b1;have b0:=zkE i k;rw[tS]at b0;obtain⟨m1,m2,m3,m4⟩:=zre hi;have bm:=znC i;have b2:=zgF (zh9 y k l) (show i<=8 from om);have e1:(8:Int) * (i:Int)+(l:Int)=((8 * i+l:Nat):Int):=om;have ba:=λK=>ziX i k K hi hk;have no:=λK=>zfe i K hi;refine .skip ?_;refine .b ?_;(repeat refine .seq ?_);refine .drawi [] [] [] [62,64] mix kr (by simp<;>omega) λK hK=> ?_;simp(disch:=omega) only[go_sem,zD,zQ,zj,r3,e1];refine VCj.read (λ_ _=>ba _) rfl ?_;simp(disch:=omega) only[go_sem,zD,zQ,zj,r3,e1];refine VCj.read (λ_ _=>no _) rfl ?_;simp(disch:=omega) only[go_sem,zD,zQ,zj,r3,e1,m1,m2,g2];refine hK _ _ ?_;clear hK K;refine .e ?_;have ih':=ih;rw[show(273681612800:Int)+zce (ctm y k l) (i+1)=273681612800+zce (ctm y k l) i+bas i k * ze msL i * zju y i l from by rw[zce,ctm,tS];omega]at ih';exact .at [2,3,4,8,9,10,11] ih' rfl rfl
   .refine .round ?_;refine .e ?_;refine .u ?_;refine .exit ?_;have e1:(8:Int) * (k:Int)+(l:Int)=((8 * k+l:Nat):Int):=om;have f1:=za6 (zbi y) (8 * k+l);have f0:=λv=>zrY (zbi y) (8 * k+l) v;have f4:=λv=>znW (zbi y) (8 * k+l) v;have f2:=λv=>zrX (zbi y) v (show 8 * k+l<64 from om);have f3:=λv w=>zj2 (zbi y) (8 * k+l) v w;have f7:=f4 ((273681612800+zce (ctm y k l) 8).tdiv 547363225600);have f5:=zuY (zbi y) (8 * k+l);rw[zn0 y hlt,zvT,zkd]at f5;have b2:=zkc y k l;rw[zkd]at b2;have h1:=zhl (273681612800+zce (ctm y k l) 8) 547363225600;have h2:=flr (273681612800+zce (ctm y k l) 8) 547363225600 om;refine .f (λK k=>by simp(disch:=omega) only[go_sem,e1,zj,f1,zaG,f0,zi4];exact k) ?_;refine .e ?_;refine .c (λh=> ?_) (λh=> ?_)
    .have h3:(273681612800+zce (ctm y k l) 8).tmod 547363225600<0:=by simpa using h
     rw[if_pos h3]at h2;rw[<-h2]at f5;refine .f (λK k=>by simp(disch:=omega) only[go_sem,e1,zj,zQ,f4,f2,zaG,f3];exact k) ?_;rw[f5];refine .e ?_;exact .at [2,3,4,8,9] ih rfl rfl
    .have h3:¬(273681612800+zce (ctm y k l) 8).tmod 547363225600<0:=by simpa using h
     rw[if_neg h3]at h2;rw[<-h2]at f5;refine .skip ?_;rw[f5];refine .e ?_;exact .at [2,3,4,8,9] ih rfl rfl
  .refine .round ?_;refine .e ?_;refine .u ?_;refine .exit ?_;refine .e ?_;exact .at [2,3,4,8] ih rfl rfl
 refine .round ?_;refine .e ?_;refine .u ?_;refine .exit ?_;have c3:=za6 (zbi y) 64;have c4:(is (fil (zbi y) 64)).length=64:=by rfl
 have c5:=zt (fil (zbi y) 64);have c6:qE 64 (is (fil (zbi y) 64))=is (fil (zbi y) 64):=qB om;have z3:(is zi).length=64:=by rfl
 have z4:qH 64 (is zi)=[]:=qD om;refine .g (nq2 c4 (nq2 c5 (nq2 c6 (nq2 z3 z4)))) ?_;rw[hinv];refine .w (.agg (is (fil (zbi y) 64))) (nq2 c4 c6) ?_;exact .base (.id (zq (zZ _ _)))
theorem zov(al:Bool)(H:za):CallOk qA 181 [.bool al] H (.agg (is (sca al))) H:=by
 cases al
 .exact .evalV 1000000 kr (zn4 _)
 .exact .evalV 1000000 kr (zn4 _)
theorem zjY(l:List Int)(al:Bool)(hl:l.length=64)(H:za):CallOk qA 106 [.agg (is l),.bool al] H (.agg (is (frs l al))) H:=by
 have hall:=zt l;have hall2:=zt (sca al);have sc:=λK=>zov al K;have sl:=znm al;have sd:qH 64 (is zi)=[]:=qD (by rw[zj,zlP];omega);refine .go Tryz.func106 Tryz.ntmps106 Tryz.results106 ?_;refine .g hall ?_;refine .f (λK k=>by simp(disch:=omega) only[go_sem,hall2,zj,sl,zlP,sd];refine VCx.call (sc _) rfl ?_;simp(disch:=omega) only[go_sem,hall2,zj,sl,zlP,sd];exact k) ?_;refine .e ?_;refine .e ?_;refine .l ?_;suffices h1:∀ p:Nat,p<=64->PL qA _ _ [(2,.ptr H.length 0 0),(4,.ptr (H.length+1) 0 0),(5,.ptr (H.length+2) 0 0),(6,.ptr (H.length+3) 0 0),(7,.int .i64 (p:Int))] (H++[⟨106,0,is l⟩,⟨106,0,is zi⟩,⟨106,0,is (sca al)⟩,⟨106,0,is (frn l (sca al) p)⟩]) _ by exact .at [2,4,5,6,7] (h1 0 om) rfl rfl
 refine cnt 64 (λp hp ih=> ?_) ?_
 .refine .round ?_;refine .e ?_;refine .t ?_;obtain⟨b1,b2⟩:=zqj al p;obtain⟨X,hX⟩:∃ X:Nat,ze (sca al) p=(X:Int):=⟨(ze (sca al) p).toNat,om⟩;have f1:=zrP (l:=l) hX;have f2:=zeo l (sca al) p;refine .skip ?_;refine .b ?_;(repeat refine .seq ?_);refine .drawi [H.length+3] [(6,[0]),(20,[0])] [] [] mix kr (by simp<;>omega) λK hK=> ?_;simp(disch:=omega) only[go_sem,zD,zQ,zj,sl,hl,hX,f2,zaG,f1];refine hK _ _ ?_;clear hK K;refine .e ?_;exact .at [2,4,5,6,7] ih rfl rfl
 refine .round ?_;refine .e ?_;refine .u ?_;refine .exit ?_;have c3:=zeo l (sca al) 64;have c4:(is (frn l (sca al) 64)).length=64:=by rw[zj,c3]
 have c5:=zt (frn l (sca al) 64);have c6:qE 64 (is (frn l (sca al) 64))=is (frn l (sca al) 64):=qB om;have z3:(is zi).length=64:=by rfl
 have z4:qH 64 (is zi)=[]:=qD om;refine .g (nq2 c4 (nq2 c5 (nq2 c6 (nq2 z3 z4)))) ?_;unfold frs;refine .w (.agg (is (frn l (sca al) 64))) (nq2 c4 c6) ?_;exact .base (.id (zq (zZ _ _)))
theorem zpW(w q:Int)(k:Nat)(H:za)(hw:8<=w/\w<=255)(hq:qnB q=true)(hk:k<64):CallOk qA 180 [.int .i64 w,.int .i64 q,.int .i64 (k:Int)] H (.int .i64 (w * q * ze gnL k)) H:=by
 have q1:=zhF hq;have n1:=λH=>zfe (k / 8) H om;have n2:=λH=>zfe (k%8) H om;have r1:=nr3 (show k / 8<8 from om);have r2:=nr3 (show k%8<8 from om);have b1:=zrb (a:=w) (b:=q) (A:=255) (B:=31) om om;rw[<-zrK hk];have d1:(k:Int).tdiv 8=((k / 8:Nat):Int):=by rfl
 have d2:(k:Int).tmod 8=((k%8:Nat):Int):=by rfl
 generalize ze nrL (k / 8)=a at n1 r1 |-;generalize ze nrL (k%8)=b at n2 r2 |-;refine .go Tryz.func180 Tryz.ntmps180 Tryz.results180 ?_;refine .e ?_;(repeat refine .seq ?_);refine .rgv (P:=qA) [0,1,2] 29 (.bool false) ?_ ?_ ?_
 .rfl
 .simp(disch:=omega) only[go_sem];(repeat'((refine zg ?_ ?_)<;>intro h<;>(try simp only[nqb]at h)<;>simp(disch:=omega) only[go_sem,h]));all_goals(simp_all[slot,qI])
 refine .us ?_;refine .e ?_;(repeat refine .seq ?_);refine .rg rfl λK hK=> ?_;simp(disch:=omega) only[go_sem,d1,d2];refine VCx.call (n1 _) rfl ?_;simp(disch:=omega) only[go_sem,d1,d2];refine VCx.call (n2 _) rfl ?_;rcases r1 with rfl|rfl|rfl<;>rcases r2 with rfl|rfl|rfl;all_goals(simp(disch:=omega) only[go_sem,Int.reduceMul];refine hK _ _ ?_;clear hK K;(repeat'(first|refine .seq ?_|refine .block ?_|((refine .rg rfl λK hK=> ?_);simp(disch:=omega) only[go_sem,Int.reduceMul])|(refine hK _ _ ?_;clear hK K)|(refine .cond (t:=_) rfl (λh=> ?_) (λh=> ?_)<;>(try(cases h;done))<;>(try simp only[nqb]at h))));(refine .ret ⟨_,rfl,?_⟩;refine .inl ⟨?_,rfl⟩);rfl)
theorem ztD(m:List UInt8)(q:Int)(hm:m.length=64)(hmx:zaU m=true)(hq:qnB q=true)(H:za):CallOk qA 179 [.agg (bs m),.int .i64 q] H (.bool true) H:=by
 have vm:=λK=>zhT m K hm;rw[hmx]at vm;have q1:=zhF hq;have hall2:(bs m).all PV.cell=true:=by simp[bs,PV.cell]
 have tkm:qE 64 (bs m)=bs m:=qB (by rw[zd];omega);refine .go Tryz.func179 Tryz.ntmps179 Tryz.results179 ?_;refine .g hall2 ?_;(repeat refine .seq ?_);refine .rg rfl λK hK=> ?_;simp(disch:=omega) only[go_sem,zd,hm,tkm];(repeat'(((refine VCx.call (vm _) rfl ?_);simp(disch:=omega) only[go_sem,zd,hm,tkm])));all_goals(refine hK _ _ ?_;clear hK;(refine .ret ⟨_,rfl,?_⟩;refine .base (.id' ?_ (.bool _)));(simp_all[slot,qI]))
theorem zlz(l:List Int)(m:List UInt8)(q:Int)(hl:l.length=64)(hlr:lrg l)(hm:m.length=64)(hmx:zaU m=true)(hq:qnB q=true)(H:za):
  CallOk qA 105 [.agg (is l),.agg (bs m),.int .i64 q] H (.tup [.agg (is (dqz l m q)),.int .i64 0]) H:=by
 have hall:=zt l;have hall2:(bs m).all PV.cell=true:=by simp[bs,PV.cell]
 have vm:=λK=>ztD m q hm hmx hq K;have q1:=zhF hq;have hz:=zgr (dqf l m q);have tkm:qE 64 (bs m)=bs m:=qB (by rw[zd];omega);refine .go Tryz.func105 Tryz.ntmps105 Tryz.results105 ?_;refine .g (nq2 hall hall2) ?_;refine .f (λK k=>by simp(disch:=omega) only[go_sem,zd,hm,tkm];refine VCx.call (vm _) rfl ?_;simp(disch:=omega) only[go_sem,zd,hm,tkm];exact k) ?_;refine .us ?_;refine .e ?_;refine .e ?_;refine .l ?_;suffices h1:∀ k:Nat,k<=64->PL qA _ _ [(2,.int .i64 q),(3,.ptr H.length 0 0),(4,.ptr (H.length+1) 0 0),(6,.ptr (H.length+2) 0 0),(8,.ptr (H.length+3) 0 0),(9,.int .i64 (k:Int))] (H++[⟨106,0,is l⟩,⟨24,0,bs m⟩,⟨106,0,is zi⟩,⟨106,0,is (fil (dqf l m q) k)⟩]) _ by exact .at [2,3,4,6,8,9] (h1 0 om) rfl (by rw[hz];rfl)
 refine cnt 64 (λk hk ih=> ?_) ?_
 .refine .round ?_;refine .e ?_;refine .t ?_;obtain⟨b1,b2⟩:=hlr k;refine .skip ?_;refine .b ?_;(repeat refine .seq ?_);refine .rgv (P:=qA) [2,3,4,6,8,9] 28 (.bool false) ?_ ?_ ?_
  .rfl
  .simp(disch:=omega) only[go_sem,zQ,zj,hl];(repeat'((refine zg ?_ ?_)<;>intro h<;>(try simp only[nqb]at h)<;>simp(disch:=omega) only[go_sem,zQ,zj,hl,h]));all_goals(simp_all[slot,qI])
  refine .us ?_;have m8:=zuM hmx (show k<m.length from om);have m9:=zK m k;have st:=λK=>zpW (byt m k) q k K ⟨m8,m9.2⟩ hq hk;obtain⟨d1,d2⟩:=zr7 (m:=m) hlr q1 k;rw[dqf]at d2;have f1:=zeq (dqf l m q) k;rw[dqf]at f1;have f2:=za6 (dqf l m q) k;(repeat refine .seq ?_);refine .drawi [H.length+3] [(8,[0]),(42,[0])] [] [40] mix kr (by simp<;>omega) λK hK=> ?_;simp(disch:=omega) only[go_sem,zD,zQ,zj,hl,zaf,zd,hm];refine VCj.read (λ_ _=>st _) rfl ?_;simp(disch:=omega) only[go_sem,zD,zQ,zj,hl,zaf,zd,hm,f2,zaG,f1];refine hK _ _ ?_;clear hK K;refine .e ?_;exact .at [2,3,4,6,8,9] ih rfl rfl
 refine .round ?_;refine .e ?_;refine .u ?_;refine .exit ?_;have c3:=za6 (dqf l m q) 64;have c4:(is (fil (dqf l m q) 64)).length=64:=by rfl
 have c5:=zt (fil (dqf l m q) 64);have c6:qE 64 (is (fil (dqf l m q) 64))=is (fil (dqf l m q) 64):=qB om;have z3:(is zi).length=64:=by rfl
 have z4:qH 64 (is zi)=[]:=qD om;refine .g (nq2 c4 (nq2 c5 (nq2 c6 (nq2 z3 z4)))) ?_;rw[<-znX];refine .w (.tup [.agg (is (fil (dqf l m q) 64)),.int .i64 0]) (nq2 c4 c6) ?_;refine .base (.id (.tup (asc λx hx=> ?_)));simp only[qG,qF,or_false]at hx;rcases hx with rfl|rfl
 .exact zq (zZ _ _)
 .exact .int _ _
end Go.Proofs.YtdajpjenhcobkaaGreatDoor.Sc
