/-
  Parts of the proof, put together in one text. No condition.
-/
import Derived.Test.YtpjlfoficnpfoaaGreatDoorS13
open Array renaming toArray_toList → qV
open Bool renaming eq_iff_iff → qA, and_eq_true → qI
open Int renaming natCast_mul → qK, ofNat_inj → qT
open List renaming getElem?_append_right → qB, take_of_length_le → qC, set_append_right → qD, not_mem_nil → qE, mem_cons → qF, length_replicate → qH, drop_of_length_le → qM, replicate → qN, take → qQ, mem_of_getElem? → qW
open Nat renaming mul_comm → qG, mul_mul_mul_comm → qJ, beq → qL, le_refl → qR, mul_le_mul → qS, mul_zero → qU
open Option renaming some → qP
open Prod renaming mk → qO
namespace Go.Proofs.YtpjlfoficnpfoaaGreatDoor.Sc
set_option linter.all false
open Pm Ty Go.RowKit
theorem cnt{R:Nat→Prop}(n:Nat)(hs:∀ j,j<n→R (j+1)→R j)(hl:R n):∀ j,j≤n→R j:=fun j hj=>by
 induction hd:n - j using Nat.strongRecOn generalizing j with
 | _ d ih=>
  by_cases h:j<n
  ·exact hs j h (ih (n - (j+1)) om (j+1) om rfl)
  ·rw[show j=n from om];exact hl
theorem zcA{j n:Nat}(h:j<n):decide ((j:Int)<(n:Int))=true:=decide_eq_true om
theorem ze3(n:Nat):decide ((n:Int)<(n:Int))=false:=decide_eq_false om
theorem zpy(H:za):CallOk Tryz.prog 289 [] H (.agg (is tmL)) H:=CallOk.eval 1000 kr (fun x hx=>by cases hx)
theorem zrU(H:za):CallOk Tryz.prog 290 [] H (.agg (is nrL)) H:=CallOk.eval 1000 kr (fun x hx=>by cases hx)
theorem zmO(s:Int)(H:za)(hs: -1000000000000000000≤s∧s≤1000000000000000000):CallOk Tryz.prog 291 [.int .i64 s] H (.int .i64 (nst s)) H:=by
 have h1:=zeP (2 * s+547363225600) 1094726451200;have h2:=flr (2 * s+547363225600) 1094726451200 om;rw[←nst]at h2;refine CallOk.go Tryz.func291 Tryz.ntmps291 Tryz.results291 ?_;refine PW.e ?_;refine PW.e ?_;refine PW.f (fun K k=>by simp(disch:=omega) only[go_sem,↓reduceIte,reduceCtorEq,zl1];exact k) ?_;refine PW.e ?_;refine PW.c (fun h=> ?_) (fun h=> ?_)
 ·have h3:(2 * s+547363225600).tmod 1094726451200<0:=by simpa using h
  rw[if_pos h3]at h2;refine PW.e ?_;refine PW.e ?_;(refine PW.ret ⟨_,rfl,?_⟩;first|refine .inl ⟨?_,rfl⟩|refine Fin.base (.id' ?_ (.bool _))|refine Fin.base (.id' ?_ (.int _ _)));exact congrArg _ h2
 ·have h3:¬(2 * s+547363225600).tmod 1094726451200<0:=by simpa using h
  rw[if_neg h3]at h2;refine PW.skip ?_;refine PW.e ?_;(refine PW.ret ⟨_,rfl,?_⟩;first|refine .inl ⟨?_,rfl⟩|refine Fin.base (.id' ?_ (.bool _))|refine Fin.base (.id' ?_ (.int _ _)));exact congrArg _ h2
def tsc(p:Nat):List Int:=rgI 64 fun j=>if j<p then tS (j / 8) (j%8)else zg tmL j
theorem zyT:tsc 0=tmL:=by decide+kernel
theorem znr(p:Nat):(tsc p).length=64:=zbL _ _
theorem zwT{i k:Nat}(hi:i<8)(hk:k<8):zg (tsc (8 * i+k)) (i * 8+k)=zg tmL (8 * i+k):=by rw[tsc,zb3 _ om,if_neg om,qG]
theorem ztN{i k:Nat}(hi:i<8)(hk:k<8):(tsc (8 * i+k)).set (i * 8+k) (zg tmL (8 * i+k) * zg msL i)=tsc (8 * i+(k+1)):=by
 rw[tsc,zjl];refine zd1 fun j hj=> ?_;by_cases h1:j=i * 8+k
 ·rw[if_pos h1,if_pos om,tS,bas];subst h1;congr 2<;>omega
 ·rw[if_neg h1];by_cases h2:j<8 * i+k
  ·rw[if_pos h2,if_pos om]
  ·rw[if_neg h2,if_neg om]
theorem zqa{i k:Nat}(hi:i<8)(hk:k<8):zg (tsc 64) (i * 8+k)=tS i k:=by rw[tsc,zb3 _ om,if_pos om];congr 1<;>omega
theorem zzD{i:Nat}(hi:i<8):zg nrL i≠0∧Int.tdiv 739840 (zg nrL i)=zg msL i∧-1000≤zg nrL i∧zg nrL i≤1000:=by
 have:∀ i,i<8→zg nrL i≠0∧Int.tdiv 739840 (zg nrL i)=zg msL i∧-1000≤zg nrL i∧zg nrL i≤1000:=by decide
 exact this i hi
def fil(f:Nat→Int)(n:Nat):List Int:=rgI 64 fun j=>if j<n then f j else 0
theorem zdf(f:Nat→Int)(n:Nat):(fil f n).length=64:=zbL _ _
def zi:List Int:=qN 64 0
theorem zi2:zi.length=64:=qH
theorem zou(f:Nat→Int):fil f 0=zi:=by
 unfold zi;apply List.ext_getElem
 ·simp[fil,rgI]
 intro i h1 h2;rw[List.getElem_replicate];simp[fil,rgI]
theorem zgz(f:Nat→Int)(n:Nat):(fil f n).set n (f n)=fil f (n+1):=by
 rw[fil,zjl];refine zd1 fun j hj=> ?_;by_cases h1:j=n
 ·rw[if_pos h1,if_pos om,h1]
 ·rw[if_neg h1];by_cases h2:j<n
  ·rw[if_pos h2,if_pos om]
  ·rw[if_neg h2,if_neg om]
theorem zm1(f:Nat→Int):fil f 64=rgI 64 f:=zd1 fun j hj=>by rw[if_pos hj]
theorem zx9(f:Nat→Int){n j:Nat}(hj:j<n)(h:j<64):zg (fil f n) j=f j:=by rw[fil,zb3 _ h,if_pos hj]
def zfC(y:List Int)(p:Nat):Int:=zmn y (p / 8) (p%8)
theorem znJ(y:List Int){i l:Nat}(hl:l<8):zfC y (8 * i+l)=zmn y i l:=by unfold zfC;congr 1<;>omega
def zeF(y:List Int)(p:Nat):Int:=nst (zm9 y (p / 8) (p%8))
theorem zvv(y:List Int){k l:Nat}(hl:l<8):zeF y (8 * k+l)=nst (zm9 y k l):=by unfold zeF;congr 2<;>omega
theorem znA{f:Nat→Int}{B:Int}(h:∀ j,-B≤f j∧f j≤B){n:Nat}(hn:n≤8): -(8 * B)≤zgf f n∧zgf f n≤8 * B:=by have h0:=h 0;have h1:=zgs h n;have h2:=zhy (a:=(n:Int)) (b:=B) (A:=8) (B:=B) om om;omega
set_option maxHeartbeats 4000000 in
set_option maxRecDepth 100000 in
theorem zmU(y:List Int)(hl:y.length=64)(H:za):CallOk Tryz.prog 209 [.agg (is y)] H (.agg (is (inv y))) H:=by
 have hinv:inv y=fil (zeF y) 64:=(zm1 _).symm;have hall:=zX y;have hz:=zou (zfC y);have hz2:=zou (zeF y);refine CallOk.go Tryz.func209 Tryz.ntmps209 Tryz.results209 ?_;refine PW.g hall ?_;refine PW.k zpy ?_;refine PW.k zrU ?_;refine PW.l ?_;suffices h1:∀ i:Nat,i≤8→PL Tryz.prog _ _ [(1,.ptr H.length 0 0),(2,.ptr (H.length+1) 0 0),(3,.ptr (H.length+2) 0 0),(18,.agg (is nrL)),(19,.int .i64 (i:Int))] (H++[⟨146,0,is y⟩,⟨146,0,is zi⟩,⟨344,0,is (tsc (8 * i))⟩]) _ by exact PL.at [1,2,3,18,19] (h1 0 om) rfl (by rw[qU,zyT];rfl)
 refine cnt 8 (fun i hi ih=> ?_) ?_
 ·refine PL.round ?_;refine PW.e ?_;refine PW.t ?_;refine PW.skip ?_;refine PW.b ?_;have nl:(is nrL).length=8:=rfl;have nl2:nrL.length=8:=rfl;obtain⟨m1,m2,m3,m4⟩:=zzD hi;refine PW.f (fun K k=>by simp(disch:=omega) only[go_sem,↓reduceIte,reduceCtorEq,zbJ,nl,nl2];exact k) ?_;refine PW.e ?_;refine PW.l ?_;suffices h2:∀ k:Nat,k≤8→PL Tryz.prog _ _ [(1,.ptr H.length 0 0),(2,.ptr (H.length+1) 0 0),(3,.ptr (H.length+2) 0 0),(4,.int .i64 (i:Int)),(5,.int .i64 (zg nrL i)),(18,.agg (is nrL)),(19,.int .i64 (i:Int)),(23,.int .i64 (k:Int))] (H++[⟨146,0,is y⟩,⟨146,0,is zi⟩,⟨344,0,is (tsc (8 * i+k))⟩]) _ by exact PL.at [1,2,3,4,5,18,19,23] (h2 0 om) rfl rfl
  refine cnt 8 (fun k hk ih=> ?_) ?_
  ·refine PL.round ?_;refine PW.e ?_;refine PW.t ?_;have b1:=zqt i k;rw[tS,bas]at b1;have t1:=zwT hi hk;have t2:=ztN hi hk;have t3:=znr (8 * i+k);have b2:=zwe i;refine PW.skip ?_;refine PW.b ?_;refine PW.e ?_;(repeat refine PW.seq ?_);refine PW.drawi [H.length+2] [(3,[0]),(28,[0]),(29,[0]),(34,[0]),(35,[0])] [] [] mix kr (by simp<;>omega) fun K hK=> ?_;simp(disch:=omega) only[go_sem,↓reduceIte,reduceCtorEq,zaU,zbJ,zr,t3,t1,m1,m2,zb5,t2];refine hK _ _ ?_;clear hK K;refine PW.e ?_;exact PL.at [1,2,3,4,5,18,19,23] ih rfl rfl
  ·refine PL.round ?_;refine PW.e ?_;refine PW.u ?_;refine PW.exit ?_;refine PW.e ?_;exact PL.at [1,2,3,18,19] ih rfl rfl
 refine PL.round ?_;refine PW.e ?_;refine PW.u ?_;refine PW.exit ?_;refine PW.e ?_;refine PW.e ?_;refine PW.l ?_;have y3:=znr 64;suffices h1:∀ i:Nat,i≤8→PL Tryz.prog _ _ [(1,.ptr H.length 0 0),(2,.ptr (H.length+1) 0 0),(3,.ptr (H.length+2) 0 0),(7,.ptr (H.length+3) 0 0),(38,.int .i64 (i:Int))] (H++[⟨146,0,is y⟩,⟨146,0,is zi⟩,⟨344,0,is (tsc 64)⟩,⟨347,0,is (fil (zfC y) (8 * i))⟩]) _ by exact PL.at [1,2,3,7,38] (h1 0 om) rfl (by rw[qU,hz];rfl)
 refine cnt 8 (fun i hi ih=> ?_) ?_
 ·refine PL.round ?_;refine PW.e ?_;refine PW.t ?_;refine PW.skip ?_;refine PW.b ?_;refine PW.e ?_;refine PW.e ?_;refine PW.l ?_;suffices h2:∀ l:Nat,l≤8→PL Tryz.prog _ _ [(1,.ptr H.length 0 0),(2,.ptr (H.length+1) 0 0),(3,.ptr (H.length+2) 0 0),(7,.ptr (H.length+3) 0 0),(8,.int .i64 (i:Int)),(38,.int .i64 (i:Int)),(41,.int .i64 (l:Int))] (H++[⟨146,0,is y⟩,⟨146,0,is zi⟩,⟨344,0,is (tsc 64)⟩,⟨347,0,is (fil (zfC y) (8 * i+l))⟩]) _ by exact PL.at [1,2,3,7,8,38,41] (h2 0 om) rfl rfl
  refine cnt 8 (fun l hlt ih=> ?_) ?_
  ·refine PL.round ?_;refine PW.e ?_;refine PW.t ?_;refine PW.skip ?_;refine PW.b ?_;refine PW.e ?_;refine PW.e ?_;refine PW.e ?_;refine PW.l ?_;suffices h3:∀ j:Nat,j≤8→PL Tryz.prog _ _ [(1,.ptr H.length 0 0),(2,.ptr (H.length+1) 0 0),(3,.ptr (H.length+2) 0 0),(7,.ptr (H.length+3) 0 0),(8,.int .i64 (i:Int)),(9,.int .i64 (l:Int)),(10,.int .i64 (zgf (rtm y i l) j)),(38,.int .i64 (i:Int)),(41,.int .i64 (l:Int)),(44,.int .i64 (j:Int))] (H++[⟨146,0,is y⟩,⟨146,0,is zi⟩,⟨344,0,is (tsc 64)⟩,⟨347,0,is (fil (zfC y) (8 * i+l))⟩]) _ by exact PL.at [1,2,3,7,8,9,10,38,41,44] (h3 0 om) rfl rfl
   refine cnt 8 (fun j hj ih=> ?_) ?_
   ·refine PL.round ?_;refine PW.e ?_;refine PW.t ?_;refine PW.skip ?_;refine PW.b ?_;refine PW.e ?_;have g1:=zqa hj hlt;have b1:=zmm y i l j;rw[rtm]at b1;have b2:=znA (zmm y i l) (show j≤8 from om);have cl:∀ v:Int,(if 2097152<(if v< -2097152 then -2097152 else v)then 2097152 else(if v< -2097152 then -2097152 else v))=zpK v:=fun v=>by unfold zpK;omega
    have e1:(8:Int) * (i:Int)+(j:Int)=((8 * i+j:Nat):Int):=om;(repeat refine PW.seq ?_);refine PW.drawi [] [] [] [] mix kr (by simp<;>omega) fun K hK=> ?_;simp(disch:=omega) only[go_sem,↓reduceIte,reduceCtorEq,zaU,zbJ,zr,y3,hl,g1,e1,cl];refine hK _ _ ?_;clear hK K;refine PW.e ?_;exact PL.at [1,2,3,7,8,9,10,38,41,44] ih rfl rfl
   ·refine PL.round ?_;refine PW.e ?_;refine PW.u ?_;refine PW.exit ?_;have e1:(8:Int) * (i:Int)+(l:Int)=((8 * i+l:Nat):Int):=om;have f1:=zdf (zfC y) (8 * i+l);have f2:=zgz (zfC y) (8 * i+l);rw[znJ y hlt,zmn]at f2;refine PW.f (fun K k=>by simp(disch:=omega) only[go_sem,↓reduceIte,reduceCtorEq,e1,zr,f1,zb5,f2];exact k) ?_;refine PW.e ?_;exact PL.at [1,2,3,7,8,38,41] ih rfl rfl
  ·refine PL.round ?_;refine PW.e ?_;refine PW.u ?_;refine PW.exit ?_;refine PW.e ?_;exact PL.at [1,2,3,7,38] ih rfl rfl
 refine PL.round ?_;refine PW.e ?_;refine PW.u ?_;refine PW.exit ?_;refine PW.e ?_;refine PW.e ?_;refine PW.l ?_;have r3:=zdf (zfC y) 64;suffices h1:∀ k:Nat,k≤8→PL Tryz.prog _ _ [(2,.ptr (H.length+1) 0 0),(3,.ptr (H.length+2) 0 0),(7,.ptr (H.length+3) 0 0),(12,.ptr (H.length+4) 0 0),(72,.int .i64 (k:Int))] (H++[⟨146,0,is y⟩,⟨146,0,is zi⟩,⟨344,0,is (tsc 64)⟩,⟨347,0,is (fil (zfC y) 64)⟩,⟨146,0,is (fil (zeF y) (8 * k))⟩]) _ by exact PL.at [2,3,7,12,72] (h1 0 om) rfl (by rw[qU,hz2];rfl)
 refine cnt 8 (fun k hk ih=> ?_) ?_
 ·refine PL.round ?_;refine PW.e ?_;refine PW.t ?_;refine PW.skip ?_;refine PW.b ?_;refine PW.e ?_;refine PW.e ?_;refine PW.l ?_;suffices h2:∀ l:Nat,l≤8→PL Tryz.prog _ _ [(2,.ptr (H.length+1) 0 0),(3,.ptr (H.length+2) 0 0),(7,.ptr (H.length+3) 0 0),(12,.ptr (H.length+4) 0 0),(13,.int .i64 (k:Int)),(72,.int .i64 (k:Int)),(75,.int .i64 (l:Int))] (H++[⟨146,0,is y⟩,⟨146,0,is zi⟩,⟨344,0,is (tsc 64)⟩,⟨347,0,is (fil (zfC y) 64)⟩,⟨146,0,is (fil (zeF y) (8 * k+l))⟩]) _ by exact PL.at [2,3,7,12,13,72,75] (h2 0 om) rfl rfl
  refine cnt 8 (fun l hlt ih=> ?_) ?_
  ·refine PL.round ?_;refine PW.e ?_;refine PW.t ?_;refine PW.skip ?_;refine PW.b ?_;refine PW.e ?_;refine PW.e ?_;refine PW.e ?_;refine PW.l ?_;suffices h3:∀ i:Nat,i≤8→PL Tryz.prog _ _ [(2,.ptr (H.length+1) 0 0),(3,.ptr (H.length+2) 0 0),(7,.ptr (H.length+3) 0 0),(12,.ptr (H.length+4) 0 0),(13,.int .i64 (k:Int)),(14,.int .i64 (l:Int)),(15,.int .i64 (zgf (ctm y k l) i)),(72,.int .i64 (k:Int)),(75,.int .i64 (l:Int)),(78,.int .i64 (i:Int))] (H++[⟨146,0,is y⟩,⟨146,0,is zi⟩,⟨344,0,is (tsc 64)⟩,⟨347,0,is (fil (zfC y) 64)⟩,⟨146,0,is (fil (zeF y) (8 * k+l))⟩]) _ by exact PL.at [2,3,7,12,13,14,15,72,75,78] (h3 0 om) rfl rfl
   refine cnt 8 (fun i hi ih=> ?_) ?_
   ·refine PL.round ?_;refine PW.e ?_;refine PW.t ?_;refine PW.skip ?_;refine PW.b ?_;refine PW.e ?_;have g1:=zqa hi hk;have g2:=zx9 (zfC y) (n:=64) (j:=8 * i+l) om om;rw[znJ y hlt]at g2;have b1:=zm8 y k l i;rw[ctm]at b1;have b2:=znA (zm8 y k l) (show i≤8 from om);have e1:(8:Int) * (i:Int)+(l:Int)=((8 * i+l:Nat):Int):=om;(repeat refine PW.seq ?_);refine PW.drawi [] [] [] [] mix kr (by simp<;>omega) fun K hK=> ?_;simp(disch:=omega) only[go_sem,↓reduceIte,reduceCtorEq,zaU,zbJ,zr,y3,r3,g1,g2,e1];refine hK _ _ ?_;clear hK K;refine PW.e ?_;exact PL.at [2,3,7,12,13,14,15,72,75,78] ih rfl rfl
   ·refine PL.round ?_;refine PW.e ?_;refine PW.u ?_;refine PW.exit ?_;have e1:(8:Int) * (k:Int)+(l:Int)=((8 * k+l:Nat):Int):=om;have f1:=zdf (zeF y) (8 * k+l);have f2:=zgz (zeF y) (8 * k+l);rw[zvv y hlt]at f2;have b2:=zoF y k l;rw[zm9]at f2 b2;have nn:=fun K=>zmO (zgf (ctm y k l) 8) K om;refine PW.f (fun K k=>by simp(disch:=omega) only[go_sem,↓reduceIte,reduceCtorEq,e1,zr,f1,zb5,f2];refine VCx.call (nn _) rfl ?_;simp(disch:=omega) only[go_sem,↓reduceIte,reduceCtorEq,e1,zr,f1,zb5,f2];exact k) ?_;refine PW.e ?_;exact PL.at [2,3,7,12,13,72,75] ih rfl rfl
  ·refine PL.round ?_;refine PW.e ?_;refine PW.u ?_;refine PW.exit ?_;refine PW.e ?_;exact PL.at [2,3,7,12,72] ih rfl rfl
 refine PL.round ?_;refine PW.e ?_;refine PW.u ?_;refine PW.exit ?_;have c3:=zdf (zeF y) 64;have c4:(is (fil (zeF y) 64)).length=64:=by rw[zr,c3]
 have c5:=zX (fil (zeF y) 64);have c6:qQ 64 (is (fil (zeF y) 64))=is (fil (zeF y) 64):=qC om;have z3:(is zi).length=64:=by rw[zr,zi2]
 have z4:List.drop 64 (is zi)=[]:=qM om;refine PW.g (nq2 c4 (nq2 c5 (nq2 c6 (nq2 z3 z4)))) ?_;rw[hinv];refine PW.w (.agg (is (fil (zeF y) 64))) (nq2 c4 c6) ?_;exact Fin.base (.id (zw (zaz _ _)))
end Go.Proofs.YtpjlfoficnpfoaaGreatDoor.Sc
namespace Go.Proofs.YtpjlfoficnpfoaaGreatDoor.Sc
set_option linter.all false
open Pm Go.RowKit
def zsp(r:Option Res)(v:PV):Bool:=match r with
 | some (.val w [])=>eqb 20 w v
 | _=>false
theorem _root_.Go.Proofs.YtpjlfoficnpfoaaGreatDoor.Pm.CallOk.evalV{P:Program}{H:za}(n:Nat){f:FuncId}{args:List PV}{v:PV}(h:zsp (zhO P n (.call f args [])) v=true)(hs:∀ x∈args,Scoped 0 x):CallOk P f args H v H:=by
 refine CallOk.eval n ?_ hs;unfold zsp at h;split at h
 ·rename_i he;rw[he,zfQ 20 _ _ h]
 ·cases h
theorem hl7(H:za)(b0 b1 b2 b3 b4 b5 b6:Blk):(H++[b0,b1,b2,b3,b4,b5,b6]).length=H.length+7:=by simp
theorem hl8(H:za)(b0 b1 b2 b3 b4 b5 b6 b7:Blk):(H++[b0,b1,b2,b3,b4,b5,b6,b7]).length=H.length+8:=by simp
theorem hl9(H:za)(b0 b1 b2 b3 b4 b5 b6 b7 b8:Blk):(H++[b0,b1,b2,b3,b4,b5,b6,b7,b8]).length=H.length+9:=by simp
theorem hl10(H:za)(b0 b1 b2 b3 b4 b5 b6 b7 b8 b9:Blk):(H++[b0,b1,b2,b3,b4,b5,b6,b7,b8,b9]).length=H.length+10:=by simp
theorem hl11(H:za)(b0 b1 b2 b3 b4 b5 b6 b7 b8 b9 b10:Blk):(H++[b0,b1,b2,b3,b4,b5,b6,b7,b8,b9,b10]).length=H.length+11:=by simp
theorem hl12(H:za)(b0 b1 b2 b3 b4 b5 b6 b7 b8 b9 b10 b11:Blk):(H++[b0,b1,b2,b3,b4,b5,b6,b7,b8,b9,b10,b11]).length=H.length+12:=by simp
theorem hp7(H K:za)(b0 b1 b2 b3 b4 b5 b6 b7:Blk):(H++b0::b1::b2::b3::b4::b5::b6::b7::K)[H.length+7]? =some b7:=by rw[qB om];simp
theorem hs7(H K:za)(b0 b1 b2 b3 b4 b5 b6 b7 x:Blk):(H++b0::b1::b2::b3::b4::b5::b6::b7::K).set (H.length+7) x=H++b0::b1::b2::b3::b4::b5::b6::x::K:=by rw[qD _ _ om];simp
theorem hp8(H K:za)(b0 b1 b2 b3 b4 b5 b6 b7 b8:Blk):(H++b0::b1::b2::b3::b4::b5::b6::b7::b8::K)[H.length+8]? =some b8:=by rw[qB om];simp
theorem hs8(H K:za)(b0 b1 b2 b3 b4 b5 b6 b7 b8 x:Blk):(H++b0::b1::b2::b3::b4::b5::b6::b7::b8::K).set (H.length+8) x=H++b0::b1::b2::b3::b4::b5::b6::b7::x::K:=by rw[qD _ _ om];simp
theorem hp9(H K:za)(b0 b1 b2 b3 b4 b5 b6 b7 b8 b9:Blk):(H++b0::b1::b2::b3::b4::b5::b6::b7::b8::b9::K)[H.length+9]? =some b9:=by rw[qB om];simp
theorem hs9(H K:za)(b0 b1 b2 b3 b4 b5 b6 b7 b8 b9 x:Blk):(H++b0::b1::b2::b3::b4::b5::b6::b7::b8::b9::K).set (H.length+9) x=H++b0::b1::b2::b3::b4::b5::b6::b7::b8::x::K:=by rw[qD _ _ om];simp
theorem hp10(H K:za)(b0 b1 b2 b3 b4 b5 b6 b7 b8 b9 b10:Blk):(H++b0::b1::b2::b3::b4::b5::b6::b7::b8::b9::b10::K)[H.length+10]? =some b10:=by rw[qB om];simp
theorem hs10(H K:za)(b0 b1 b2 b3 b4 b5 b6 b7 b8 b9 b10 x:Blk):(H++b0::b1::b2::b3::b4::b5::b6::b7::b8::b9::b10::K).set (H.length+10) x=H++b0::b1::b2::b3::b4::b5::b6::b7::b8::b9::x::K:=by rw[qD _ _ om];simp
theorem hp11(H K:za)(b0 b1 b2 b3 b4 b5 b6 b7 b8 b9 b10 b11:Blk):(H++b0::b1::b2::b3::b4::b5::b6::b7::b8::b9::b10::b11::K)[H.length+11]? =some b11:=by rw[qB om];simp
theorem hs11(H K:za)(b0 b1 b2 b3 b4 b5 b6 b7 b8 b9 b10 b11 x:Blk):(H++b0::b1::b2::b3::b4::b5::b6::b7::b8::b9::b10::b11::K).set (H.length+11) x=H++b0::b1::b2::b3::b4::b5::b6::b7::b8::b9::b10::x::K:=by rw[qD _ _ om];simp
attribute [go_sem] hl7 hl8 hl9 hl10 hl11 hl12 hp7 hs7 hp8 hs8 hp9 hs9 hp10 hs10 hp11 hs11
theorem asc{n:Nat}{xs:List PV}(h:∀ x∈xs,Scoped n x):∀(j:Nat) (x:PV),xs[j]? =some x→Scoped n x:=fun j x hx=>h x (qW hx)
end Go.Proofs.YtpjlfoficnpfoaaGreatDoor.Sc
namespace Go.Proofs.YtpjlfoficnpfoaaGreatDoor.Sc
set_option linter.all false
open Pm Ty Go.RowKit
theorem zwy(b:Bool):∀ x∈[PV.bool b],Scoped 0 x:=fun x hx=>by simp only[qF,qE,or_false]at hx;subst hx;exact .bool _
theorem zqZ(al:Bool)(H:za):CallOk Tryz.prog 241 [.bool al] H (.agg (is (sca al))) H:=by
 cases al
 ·exact CallOk.evalV 1000000 kr (zwy _)
 ·exact CallOk.evalV 1000000 kr (zwy _)
theorem zx2{l s:List Int}{n X:Nat}(hx:zg s n=(X:Int)):(frn l s n).set X (zg l n)=frn l s (n+1):=by rw[frn,hx,Int.toNat_natCast]
set_option maxHeartbeats 1600000 in
set_option maxRecDepth 100000 in
theorem zlF(l:List Int)(al:Bool)(hl:l.length=64)(H:za):CallOk Tryz.prog 207 [.agg (is l),.bool al] H (.agg (is (frs l al))) H:=by
 have hall:=zX l;have sc:=fun K=>zqZ al K;have sl:=zt9 al;refine CallOk.go Tryz.func207 Tryz.ntmps207 Tryz.results207 ?_;refine PW.g hall ?_;refine PW.e ?_;refine PW.k sc ?_;refine PW.l ?_;suffices h1:∀ p:Nat,p≤64→PL Tryz.prog _ _ [(2,.ptr H.length 0 0),(4,.ptr (H.length+1) 0 0),(5,.ptr (H.length+2) 0 0),(9,.agg (is (sca al))),(10,.int .i64 (p:Int))] (H++[⟨146,0,is l⟩,⟨146,0,is zi⟩,⟨146,0,is (frn l (sca al) p)⟩]) _ by exact PL.at [2,4,5,9,10] (h1 0 om) rfl rfl
 refine cnt 64 (fun p hp ih=> ?_) ?_
 ·refine PL.round ?_;refine PW.e ?_;refine PW.t ?_;obtain⟨b1,b2⟩:=zxe al p;obtain⟨X,hX⟩:∃ X:Nat,zg (sca al) p=(X:Int):=⟨(zg (sca al) p).toNat,om⟩;have f1:=zx2 (l:=l) hX;have f2:=zgx l (sca al) p;refine PW.skip ?_;refine PW.b ?_;refine PW.f (fun K k=>by simp(disch:=omega) only[go_sem,↓reduceIte,reduceCtorEq,zbJ,zr,sl,hX];exact k) ?_;refine PW.f (fun K k=>by simp(disch:=omega) only[go_sem,↓reduceIte,reduceCtorEq,zbJ,zr,hl,hX,f2,zb5,f1];exact k) ?_;refine PW.e ?_;exact PL.at [2,4,5,9,10] ih rfl rfl
 refine PL.round ?_;refine PW.e ?_;refine PW.u ?_;refine PW.exit ?_;have c3:=zgx l (sca al) 64;have c4:(is (frn l (sca al) 64)).length=64:=by rw[zr,c3]
 have c5:=zX (frn l (sca al) 64);have c6:qQ 64 (is (frn l (sca al) 64))=is (frn l (sca al) 64):=qC om;have z3:(is zi).length=64:=by rw[zr,zi2]
 have z4:List.drop 64 (is zi)=[]:=qM om;refine PW.g (nq2 c4 (nq2 c5 (nq2 c6 (nq2 z3 z4)))) ?_;unfold frs;refine PW.w (.agg (is (frn l (sca al) 64))) (nq2 c4 c6) ?_;exact Fin.base (.id (zw (zaz _ _)))
theorem or8{i:Nat}(h:i<8):i=0∨i=1∨i=2∨i=3∨i=4∨i=5∨i=6∨i=7:=om
theorem sc2(a b:Int):∀ x∈[PV.int .i64 a,PV.int .i64 b],Scoped 0 x:=fun x hx=>by simp only[qF,qE,or_false]at hx;rcases hx with rfl|rfl<;>exact .int _ _
theorem sc1(a:Int):∀ x∈[PV.int .i64 a],Scoped 0 x:=fun x hx=>by simp only[qF,qE,or_false]at hx;subst hx;exact .int _ _
theorem zn3(i:Nat)(H:za)(hi:i<8):CallOk Tryz.prog 307 [.int .i64 (i:Int)] H (.int .i64 (zg nrL i)) H:=by rcases or8 hi with rfl|rfl|rfl|rfl|rfl|rfl|rfl|rfl;all_goals exact CallOk.eval 10000 kr (sc1 _)
theorem nr3{i:Nat}(h:i<8):zg nrL i=512∨zg nrL i=578∨zg nrL i=320:=by
 have:∀ i,i<8→zg nrL i=512∨zg nrL i=578∨zg nrL i=320:=by decide
 exact this i h
def gnV(a b:Int):Int:=if a=512∧b=512 then 32 else if(a=512∧b=578)∨(a=578∧b=512)then 34 else if(a=512∧b=320)∨(a=320∧b=512)then 25 else if a=578∧b=578 then 36 else if(a=578∧b=320)∨(a=320∧b=578)then 27 else 20
theorem zxX{k:Nat}(h:k<64):gnV (zg nrL (k / 8)) (zg nrL (k%8))=zg gnL k:=by
 have:∀ k,k<64→gnV (zg nrL (k / 8)) (zg nrL (k%8))=zg gnL k:=by decide+kernel
 exact this k h
theorem zu6{a b:Int}(ha:a=512∨a=578∨a=320)(hb:b=512∨b=578∨b=320)(H:za):CallOk Tryz.prog 306 [.int .i64 a,.int .i64 b] H (.int .i64 (gnV a b)) H:=by rcases ha with rfl|rfl|rfl<;>rcases hb with rfl|rfl|rfl;all_goals exact CallOk.eval 10000 kr (sc2 _ _)
def qnB(q:Int):Bool:=decide (1≤q)&&decide (q≤31)
theorem zv8(q:Int)(H:za):CallOk Tryz.prog 285 [.int .i64 q] H (.bool (qnB q)) H:=by refine CallOk.go Tryz.func285 Tryz.ntmps285 Tryz.results285 ?_;(repeat'(first|refine PW.seq ?_|refine PW.skip ?_|refine PW.block ?_|((first|refine PW.rg rfl fun K hK=> ?_|refine PW.draw mix kr fun K hK=> ?_);simp(disch:=omega) only[go_sem,↓reduceIte,reduceCtorEq])|((first|refine zh ?_ ?_|refine zk ?_ ?_|refine And.intro ?_ ?_)<;>intro h<;>(try simp only[nqb]at h)<;>simp(disch:=omega) only[go_sem,↓reduceIte,reduceCtorEq,h])|(refine hK _ _ ?_;clear hK K)|(refine PW.cond (t:=_) rfl (fun h=> ?_) (fun h=> ?_)<;>(try(cases h;done))<;>(try simp only[nqb]at h))));all_goals((refine PW.ret ⟨_,rfl,?_⟩;first|refine .inl ⟨?_,rfl⟩|refine Fin.base (.id' ?_ (.bool _))|refine Fin.base (.id' ?_ (.int _ _)));(simp_all[qnB,slot,qL]<;>first|rfl|omega|(rw[qA];simp;done)|(rw[qA];simp;omega)))
theorem zrf{q:Int}(h:qnB q=true):1≤q∧q≤31:=by simpa[qnB]using h
theorem zuO{a b:Int}{A B:Int}(ha:0≤a∧a≤A)(hb:0≤b∧b≤B):0≤a * b∧a * b≤A * B:=⟨Int.mul_nonneg ha.1 hb.1,Int.mul_le_mul ha.2 hb.2 hb.1 om⟩
theorem ztX(w q:Int)(k:Nat)(H:za)(hw:8≤w∧w≤255)(hq:qnB q=true)(hk:k<64):CallOk Tryz.prog 286 [.int .i64 w,.int .i64 q,.int .i64 (k:Int)] H (.int .i64 (w * q * zg gnL k)) H:=by
 have vq:=fun H=>zv8 q H;rw[hq]at vq;have q1:=zrf hq;have n1:=fun H=>zn3 (k / 8) H om;have n2:=fun H=>zn3 (k%8) H om;have gk:=fun H=>zu6 (nr3 (show k / 8<8 from om)) (nr3 (show k%8<8 from om)) H;rw[zxX hk]at gk;have b1:=zuO (a:=w) (b:=q) (A:=255) (B:=31) om om;have b2:=zuO (a:=w * q) (b:=zg gnL k) (A:=7905) (B:=36) om (zwq k);have d1:(k:Int).tdiv 8=((k / 8:Nat):Int):=by rw[zu _ _ om];omega
 have d2:(k:Int).tmod 8=((k%8:Nat):Int):=by rw[zY _ _ om];omega
 refine CallOk.go Tryz.func286 Tryz.ntmps286 Tryz.results286 ?_;refine PW.e ?_;(repeat refine PW.seq ?_);refine PW.rgv (P:=Tryz.prog) [0,1,2] 25 (.bool false) ?_ ?_ ?_
 ·rfl
 ·simp(disch:=omega) only[go_sem,↓reduceIte,reduceCtorEq];(repeat'(first|((first|refine zh ?_ ?_|refine And.intro ?_ ?_)<;>intro h<;>(try simp only[nqb]at h)<;>simp(disch:=omega) only[go_sem,↓reduceIte,reduceCtorEq,h])|((first|refine VCx.call (vq _) rfl ?_);simp(disch:=omega) only[go_sem,↓reduceIte,reduceCtorEq])));all_goals(simp_all[slot,qL]<;>first|rfl|omega|(rw[qA];simp;done)|(rw[qA];simp;omega))
 refine PW.us ?_;(repeat refine PW.seq ?_);refine PW.rg rfl fun K hK=> ?_;simp(disch:=omega) only[go_sem,↓reduceIte,reduceCtorEq,d1,d2];(repeat'(first|((first|refine zh ?_ ?_|refine And.intro ?_ ?_)<;>intro h<;>(try simp only[nqb]at h)<;>simp(disch:=omega) only[go_sem,↓reduceIte,reduceCtorEq,d1,d2,h])|((first|refine VCx.call (n1 _) rfl ?_|refine VCx.call (n2 _) rfl ?_|refine VCx.call (gk _) rfl ?_);simp(disch:=omega) only[go_sem,↓reduceIte,reduceCtorEq,d1,d2])));refine hK _ _ ?_;clear hK K;(refine PW.ret ⟨_,rfl,?_⟩;first|refine .inl ⟨?_,rfl⟩|refine Fin.base (.id' ?_ (.bool _))|refine Fin.base (.id' ?_ (.int _ _)));rfl
def lrg(l:List Int):Prop:=∀ i,-4095≤zg l i∧zg l i≤4095
def dqf(l:List Int)(m:List UInt8)(q:Int)(k:Nat):Int:=zg l k * (byt m k * q * zg gnL k)
theorem zvm(l:List Int)(m:List UInt8)(q:Int):fil (dqf l m q) 64=dqz l m q:=zm1 _
theorem zzz{m:List UInt8}(h:zcr m=true){k:Nat}(hk:k<m.length):8≤byt m k:=by unfold zcr at h;rw[List.all_eq_true]at h;have:=of_decide_eq_true (h m[k] (List.getElem_mem hk));simp only[byt,List.getD_eq_getElem?_getD,List.getElem?_eq_getElem hk,Option.getD_some];omega
theorem zye{l:List Int}{m:List UInt8}{q:Int}(hl:lrg l)(hq:1≤q∧q≤31)(k:Nat):(0≤byt m k * q * zg gnL k∧byt m k * q * zg gnL k≤284580)∧-1165355100≤dqf l m q k∧dqf l m q k≤1165355100:=by have h1:=zaf m k;have b1:=zuO (a:=byt m k) (b:=q) (A:=255) (B:=31) om om;have b2:=zuO (a:=byt m k * q) (b:=zg gnL k) (A:=7905) (B:=36) om (zwq k);refine⟨om,?_⟩;exact zhy (hl k) (show -284580≤_∧_≤(284580:Int)from om)
set_option maxHeartbeats 1600000 in
set_option maxRecDepth 100000 in
theorem zm7(l:List Int)(m:List UInt8)(q:Int)(hl:l.length=64)(hlr:lrg l)(hm:m.length=64)(hmx:zcr m=true)(hq:qnB q=true)(H:za):
  CallOk Tryz.prog 206 [.agg (is l),.agg (bs m),.int .i64 q] H (.tup [.agg (is (dqz l m q)),.int .i64 0]) H:=by
 have hall:=zX l;have hall2:(bs m).all PV.cell=true:=by simp[bs,PV.cell]
 have vm:=fun K=>zlt m K hm;rw[hmx]at vm;have vq:=fun K=>zv8 q K;rw[hq]at vq;have q1:=zrf hq;have hz:=zou (dqf l m q);have tkm:qQ 64 (bs m)=bs m:=qC (by rw[zd];omega);have tkl:qQ 64 (is l)=is l:=qC (by rw[zr];omega);refine CallOk.go Tryz.func206 Tryz.ntmps206 Tryz.results206 ?_;refine PW.g (nq2 hall hall2) ?_;(repeat refine PW.seq ?_);refine PW.rgv (P:=Tryz.prog) [2,3,4,6,7] 18 (.bool false) ?_ ?_ ?_
 ·rfl
 ·simp(disch:=omega) only[go_sem,↓reduceIte,reduceCtorEq,zd,tkm];(repeat'(first|((first|refine zh ?_ ?_|refine And.intro ?_ ?_)<;>intro h<;>(try simp only[nqb]at h)<;>simp(disch:=omega) only[go_sem,↓reduceIte,reduceCtorEq,zd,tkm,h])|((first|refine VCx.call (vm _) rfl ?_|refine VCx.call (vq _) rfl ?_);simp(disch:=omega) only[go_sem,↓reduceIte,reduceCtorEq,zd,tkm])));all_goals(simp_all[slot,qL]<;>first|rfl|omega|(rw[qA];simp;done)|(rw[qA];simp;omega))
 refine PW.us ?_;refine PW.e ?_;refine PW.f (fun K k=>by simp(disch:=omega) only[go_sem,↓reduceIte,reduceCtorEq,zr,tkl];exact k) ?_;refine PW.l ?_;suffices h1:∀ k:Nat,k≤64→PL Tryz.prog _ _ [(2,.int .i64 q),(4,.ptr (H.length+1) 0 0),(6,.ptr (H.length+2) 0 0),(8,.ptr (H.length+3) 0 0),(20,.agg (is l)),(21,.int .i64 (k:Int))] (H++[⟨146,0,is l⟩,⟨27,0,bs m⟩,⟨146,0,is zi⟩,⟨146,0,is (fil (dqf l m q) k)⟩]) _ by exact PL.at [2,4,6,8,20,21] (h1 0 om) rfl (by rw[hz];rfl)
 refine cnt 64 (fun k hk ih=> ?_) ?_
 ·refine PL.round ?_;refine PW.e ?_;refine PW.t ?_;obtain⟨b1,b2⟩:=hlr k;refine PW.skip ?_;refine PW.b ?_;refine PW.f (fun K k=>by simp(disch:=omega) only[go_sem,↓reduceIte,reduceCtorEq,zbJ,zr,hl];exact k) ?_;(repeat refine PW.seq ?_);refine PW.rgv (P:=Tryz.prog) [2,4,6,8,9,10,20,21] 30 (.bool false) ?_ ?_ ?_
  ·rfl
  ·simp(disch:=omega) only[go_sem,↓reduceIte,reduceCtorEq];(repeat'((first|refine zh ?_ ?_|refine zk ?_ ?_|refine zU ?_ ?_|refine VOh_cond ?_ ?_|refine zT ?_ ?_|refine And.intro ?_ ?_)<;>intro h<;>(try simp only[nqb]at h)<;>simp(disch:=omega) only[go_sem,↓reduceIte,reduceCtorEq,h]));all_goals(simp_all[slot,qL]<;>first|rfl|omega|(rw[qA];simp;done)|(rw[qA];simp;omega))
  refine PW.us ?_;have m8:=zzz hmx (show k<m.length from om);have m9:=zaf m k;have st:=fun K=>ztX (byt m k) q k K ⟨m8,m9.2⟩ hq hk;obtain⟨d1,d2⟩:=zye (m:=m) hlr q1 k;rw[dqf]at d2;have f1:=zgz (dqf l m q) k;rw[dqf]at f1;have f2:=zdf (dqf l m q) k;refine PW.f (fun K k=>by simp(disch:=omega) only[go_sem,↓reduceIte,reduceCtorEq,zaX,zd,hm,zr,f2,zb5,f1];refine VCx.call (st _) rfl ?_;simp(disch:=omega) only[go_sem,↓reduceIte,reduceCtorEq,zaX,zd,hm,zr,f2,zb5,f1];exact k) ?_;refine PW.e ?_;exact PL.at [2,4,6,8,20,21] ih rfl rfl
 refine PL.round ?_;refine PW.e ?_;refine PW.u ?_;refine PW.exit ?_;have c3:=zdf (dqf l m q) 64;have c4:(is (fil (dqf l m q) 64)).length=64:=by rw[zr,c3]
 have c5:=zX (fil (dqf l m q) 64);have c6:qQ 64 (is (fil (dqf l m q) 64))=is (fil (dqf l m q) 64):=qC om;have z3:(is zi).length=64:=by rw[zr,zi2]
 have z4:List.drop 64 (is zi)=[]:=qM om;refine PW.g (nq2 c4 (nq2 c5 (nq2 c6 (nq2 z3 z4)))) ?_;rw[←zvm];refine PW.w (.tup [.agg (is (fil (dqf l m q) 64)),.int .i64 0]) (nq2 c4 c6) ?_;refine Fin.base (.id (.tup (asc fun x hx=> ?_)));simp only[qF,qE,or_false]at hx;rcases hx with rfl|rfl
 ·exact zw (zaz _ _)
 ·exact .int _ _
def fr4(V K:Nat)(y u v:List UInt8):Fm:=⟨((2 * V:Nat):Int),((4 * K:Nat):Int),y,u,v⟩
structure Fok(V K:Nat)(y u v:List UInt8):Prop where
 rv:1≤V∧V≤32
 rk:1≤K∧K≤16
 ly:y.length=2 * K * (2 * (2 * V))
 lu:u.length=K * (2 * V)
 lv:v.length=K * (2 * V)
def fld(V K P:Nat)(y u v:List UInt8):Fm:=⟨((2 * V:Nat):Int),((2 * K:Nat):Int),ctl y (P * (2 * V)) (2 * (2 * V)) (2 * V) (2 * K),ctl u (P * V) (2 * V) V K,ctl v (P * V) (2 * V) V K⟩
theorem zvd{V K:Nat}{y u v:List UInt8}(h:Fok V K y u v):fmd (fr4 V K y u v)=true:=by
 obtain⟨⟨v1,v2⟩,⟨k1,k2⟩,hy,hu,hv⟩:=h;have e1:((2 * V:Nat):Int) / 2=(V:Int):=om;have e2:((4 * K:Nat):Int) / 2=((2 * K:Nat):Int):=om;have e3:2 * K * (2 * (2 * V))=2 * V * (4 * K):=by rw[show 2 * (2 * V)=4 * V from om,qJ,qJ 2 V 4 K,qG K V]
 have e4:K * (2 * V)=V * (2 * K):=by rw[qG K,qG 2 V,Nat.mul_assoc]
 have a1:fsz ((2 * V:Nat):Int) ((4 * K:Nat):Int)=true:=by simp only[fsz,qI,decide_eq_true_eq];omega
 have a2:((2 * V * (4 * K):Nat):Int)=((2 * V:Nat):Int) * ((4 * K:Nat):Int):=qK _ _;have a3:((V * (2 * K):Nat):Int)=(V:Int) * ((2 * K:Nat):Int):=qK _ _;simp only[fmd,fr4,a1,e1,e2,hy,hu,hv,e3,e4,a2,a3,decide_true,Bool.and_self]
theorem zaP(n w P:Nat)(hP:P≤1)(p:List UInt8)(hp:p.length=n * (2 * w)):∀ k,k<n→P * w+k * (2 * w)+w≤p.length:=fun k hk=>by
 have h0:P * w≤w:=by have:P=0∨P=1:=om;rcases this with rfl|rfl<;>simp
 have h1:(k+1) * (2 * w)≤n * (2 * w):=Nat.mul_le_mul_right _ om;rw[Nat.add_mul]at h1;omega
theorem zS(n:Nat)(a b:Int)(y u v:List UInt8)(i j k:Nat)(e:Int):Scoped n (.tup [.agg [.int .i64 a,.int .i64 b,.slice (bs y) i false,.slice (bs u) j false,.slice (bs v) k false],.int .i64 e]):=.tup fun p x hx=>by
 have hm:=qW hx;simp only[qF,qE,or_false]at hm;rcases hm with rfl|rfl
 ·refine zw fun x hx=> ?_;simp only[qF,qE,or_false]at hx;rcases hx with rfl|rfl|rfl|rfl|rfl
  ·exact .int _ _
  ·exact .int _ _
  ·exact zj (zn _ _)
  ·exact zj (zn _ _)
  ·exact zj (zn _ _)
 ·exact .int _ _
set_option maxHeartbeats 1600000 in
set_option maxRecDepth 10000 in
theorem zhN(V K P:Nat)(y u v:List UInt8)(H:za)(hf:Fok V K y u v)(hP:P≤1):
  CallOk Tryz.prog 124 [.agg (fmc (fr4 V K y u v)),.int .i64 (P:Int)] H (.tup [.agg (fmc (fld V K P y u v)),.int .i64 0]) H:=by
 have hfd:=fun H=>za8 (fr4 V K y u v) H;rw[zvd hf]at hfd;obtain⟨⟨v1,v2⟩,⟨k1,k2⟩,hy,hu,hv⟩:=hf;have ly:=zba y (P * (2 * V)) (2 * (2 * V)) (2 * V) (2 * K) (zaP _ _ _ hP _ hy);have lu:=zba u (P * V) (2 * V) V K (zaP _ _ _ hP _ hu);have lv:=zba v (P * V) (2 * V) V K (zaP _ _ _ hP _ hv);have hPV:P * V≤32∧P * (2 * V)≤64:=by have:P=0∨P=1:=om;rcases this with rfl|rfl<;>simp<;>omega
 have by1:y.length≤8192:=by have:2 * K * (2 * (2 * V))≤32 * 128:=qS om om;omega
 have bu1:u.length≤8192:=by have:K * (2 * V)≤16 * 64:=qS om om;omega
 have bv1:v.length≤8192:=by have:K * (2 * V)≤16 * 64:=qS om om;omega
 have c1:=fun H=>zka y (P * (2 * V)) (2 * (2 * V)) (2 * V) (2 * K) false H om om by1 (zaP _ _ _ hP _ hy) om;have c2:=fun H=>zka u (P * V) (2 * V) V K false H om om bu1 (zaP _ _ _ hP _ hu) om;have c3:=fun H=>zka v (P * V) (2 * V) V K false H om om bv1 (zaP _ _ _ hP _ hv) om;generalize hr:fmc (fld V K P y u v)=r;simp only[fmc,fld,ly,lu,lv]at hr;simp only[fmc,fr4]at hfd ⊢;have m4:((4 * K:Nat):Int).tmod 4=0:=by rw[zY _ _ om];omega
 have d2:((4 * K:Nat):Int).tdiv 2=((2 * K:Nat):Int):=by rw[zu _ _ om];omega
 have d3:((2 * K:Nat):Int).tdiv 2=(K:Int):=by rw[zu _ _ om];omega
 have d4:((2 * V:Nat):Int).tdiv 2=(V:Int):=by rw[zu _ _ om];omega
 have x1:(P:Int) * ((2 * V:Nat):Int)=((P * (2 * V):Nat):Int):=by simp
 have x2:(2:Int) * ((2 * V:Nat):Int)=((2 * (2 * V):Nat):Int):=by simp
 have x3:((P * (2 * V):Nat):Int).tdiv 2=((P * V:Nat):Int):=by rw[zu _ _ om];have:P=0∨P=1:=om;rcases this with rfl|rfl<;>simp<;>omega
 refine CallOk.body (F0:=[(0,.agg [.int .i64 ((2 * V:Nat):Int),.int .i64 ((4 * K:Nat):Int),.slice (bs y) y.length false,.slice (bs u) u.length false,.slice (bs v) v.length false]),(1,.int .i64 (P:Int))]) Tryz.func124 rfl Tryz.ntmps124 Tryz.results124 rfl kr rfl ?_;refine PW.e ?_;(repeat refine PW.seq ?_);refine PW.rgv (P:=Tryz.prog) [1,2,4] 24 (.bool false) ?_ ?_ ?_
 ·rfl
 ·simp(disch:=omega) only[go_sem,↓reduceIte,reduceCtorEq];(repeat'(first|((first|refine zh ?_ ?_|refine And.intro ?_ ?_)<;>intro h<;>(try simp only[nqb]at h)<;>simp(disch:=omega) only[go_sem,↓reduceIte,reduceCtorEq,m4,h])|((first|refine VCx.call (hfd _) rfl ?_);simp(disch:=omega) only[go_sem,↓reduceIte,reduceCtorEq,m4])));all_goals(simp_all[slot,qL]<;>first|rfl|omega|(rw[qA];simp;done)|(rw[qA];simp;omega))
 refine PW.us ?_;(repeat refine PW.seq ?_);refine PW.draw mix kr fun K hK=> ?_;simp(disch:=omega) only[go_sem,↓reduceIte,reduceCtorEq,d2];refine hK _ _ ?_;clear hK K;(repeat refine PW.seq ?_);refine PW.draw mix kr fun K hK=> ?_;simp(disch:=omega) only[go_sem,↓reduceIte,reduceCtorEq,x1,x2,x3,d3,d4];(repeat'(first|((first|refine zk ?_ ?_|refine And.intro ?_ ?_)<;>intro h<;>(try simp only[nqb]at h)<;>simp(disch:=omega) only[go_sem,↓reduceIte,reduceCtorEq,x1,x2,x3,d3,d4,h])|((first|refine VCy.call (c1 _) rfl ?_|refine VCy.call (c2 _) rfl ?_|refine VCy.call (c3 _) rfl ?_);simp(disch:=omega) only[go_sem,↓reduceIte,reduceCtorEq,x1,x2,x3,d3,d4])));refine hK _ _ ?_;clear hK K;refine PW.v (.tup [.agg [.int .i64 ((2 * V:Nat):Int),.int .i64 ((2 * K:Nat):Int),.slice (bs (ctl y (P * (2 * V)) (2 * (2 * V)) (2 * V) (2 * K))) (2 * K * (2 * V)) false,.slice (bs (ctl u (P * V) (2 * V) V K)) (K * V) false,.slice (bs (ctl v (P * V) (2 * V) V K)) (K * V) false],.int .i64 0]) ?_;rw[←hr];exact Fin.base (.id (zS _ _ _ _ _ _ _ _ _ _))
theorem zhZ(p:List UInt8)(f:Bool)(H:za)(hp:1≤p.length∧p.length≤100000):CallOk Tryz.prog 125 [.slice (bs p) p.length f] H (.slice (bs p) p.length false) H:=by refine CallOk.go Tryz.func125 Tryz.ntmps125 Tryz.results125 ?_;refine PW.e ?_;refine PW.e ?_;refine PW.us ?_;refine PW.f (fun K k=>by simp(disch:=omega) only[go_sem,↓reduceIte,reduceCtorEq,zd];exact k) ?_;refine PW.ret ⟨_,rfl,?_⟩;exact Fin.base (Fz.mslC (e:=5) (xs:=bs p) (qR _) (by simp[zd]) (by rw[zd];omega) (FzC.refl (zn _ _)))
def pcx(c:Cx):Int:=if c.s=2 then 1 else 0
theorem zmI(c:Cx)(H:za):CallOk Tryz.prog 212 [.agg (cxc c)] H (.int .i64 (pcx c)) H:=by obtain⟨t,s,i,n⟩:=c;refine CallOk.body (F0:=[(0,.agg [.int .i64 t,.int .i64 s,.bool i,.bool n])]) Tryz.func212 rfl Tryz.ntmps212 Tryz.results212 rfl kr rfl ?_;(repeat'(first|refine PW.seq ?_|refine PW.skip ?_|refine PW.block ?_|((first|refine PW.rg rfl fun K hK=> ?_|refine PW.draw mix kr fun K hK=> ?_);simp(disch:=omega) only[go_sem,↓reduceIte,reduceCtorEq])|((first|refine zh ?_ ?_|refine zk ?_ ?_|refine And.intro ?_ ?_)<;>intro h<;>(try simp only[nqb]at h)<;>simp(disch:=omega) only[go_sem,↓reduceIte,reduceCtorEq,h])|(refine hK _ _ ?_;clear hK K)|(refine PW.cond (t:=_) rfl (fun h=> ?_) (fun h=> ?_)<;>(try(cases h;done))<;>(try simp only[nqb]at h))));all_goals((refine PW.ret ⟨_,rfl,?_⟩;first|refine .inl ⟨?_,rfl⟩|refine Fin.base (.id' ?_ (.bool _))|refine Fin.base (.id' ?_ (.int _ _)));(simp_all[pcx,slot,qL]<;>first|rfl|omega|(rw[qA];simp;done)|(rw[qA];simp;omega)))
def f0:Fm:=⟨0,0,[],[],[]⟩
def zkj(c:Cx)(dir sel:Int):Bool:= !(vcx c)||((decide (dir≠0)&&decide (dir≠1))||(fcx c&&(decide (sel≠0)&&decide (sel≠1))))
def zdB(c:Cx)(pa fu fi:Fm)(dir sel:Int):Fm×Bool:=if dir=1 then(fu,!(fcx c))else if(c.n&&(decide (c.t=2)&&decide (sel≠pcx c)))=true then(fi,true)else(pa,!(fcx c))
def fieldOf(f:Fm)(sel:Int):Fm:=fld (f.w / 2).toNat (f.h / 4).toNat sel.toNat f.y f.u f.v
def lastF(f:Fm)(wh:Bool)(sel:Int):Fm×Int:=if f.w=0 then(f0,6)else if(!(fvd f)||(!wh&&decide (f.h%32≠0)))=true then(f0,1)else if wh=true then(f,0)else(fieldOf f sel,0)
def refS(c:Cx)(pa fu fi:Fm)(dir sel:Int):Fm×Int:=if zkj c dir sel=true then(f0,1)else lastF (zdB c pa fu fi dir sel).1 (zdB c pa fu fi dir sel).2 sel
theorem fz0(n:Nat)(K:za)(e:Int):Fz n K (.tup [.agg [.int .i64 0,.int .i64 0,.slice [] 0 true,.slice [] 0 true,.slice [] 0 true],.int .i64 e]) (.tup [.agg (fmc f0),.int .i64 e]):=Fz.tupC ⟨Fz.aggC ⟨.id (.int _ _),.id (.int _ _),.slice rfl (fun j x y hx=>by simp at hx) (fun e=>by cases e),.slice rfl (fun j x y hx=>by simp at hx) (fun e=>by cases e),.slice rfl (fun j x y hx=>by simp at hx) (fun e=>by cases e),trivial⟩,.id (.int _ _),trivial⟩
theorem zd6{w ht:Int}{y u v:List UInt8}(h:fvd ⟨w,ht,y,u,v⟩=true)(h32:ht%32=0):∃ V K:Nat,w=((2 * V:Nat):Int)∧ht=((4 * K:Nat):Int)∧Fok V K y u v:=by
 simp only[fvd,fmd,qI,decide_eq_true_eq]at h;obtain⟨⟨hs,hy,hu,hv⟩,hw,hh⟩:=h;obtain⟨g1,g2,g3,g4,g5,g6⟩:=zde hs;refine⟨(w / 2).toNat,(ht / 4).toNat,om,om,?_⟩;obtain⟨V,hV⟩:∃ V:Nat,(w / 2).toNat=V:=⟨_,rfl⟩;obtain⟨K,hK⟩:∃ K:Nat,(ht / 4).toNat=K:=⟨_,rfl⟩;rw[hV,hK];have e1:w=((2 * V:Nat):Int):=om;have e2:ht=((4 * K:Nat):Int):=om;have e3:2 * K * (2 * (2 * V))=2 * V * (4 * K):=by rw[show 2 * (2 * V)=4 * V from om,qJ,qJ 2 V 4 K,qG K V]
 have e4:K * (2 * V)=V * (2 * K):=by rw[qG K,qG 2 V,Nat.mul_assoc]
 have d1:w / 2=(V:Int):=om;have d2:ht / 2=((2 * K:Nat):Int):=om;rw[d1,d2]at hu hv;rw[e1,e2]at hy;refine⟨om,om,?_,?_,?_⟩
 ·rw[e3];exact qT.1 (hy.trans (qK _ _).symm)
 ·rw[e4];exact qT.1 (hu.trans (qK _ _).symm)
 ·rw[e4];exact qT.1 (hv.trans (qK _ _).symm)
theorem za2(V K P:Nat)(y u v:List UInt8):fieldOf (fr4 V K y u v) (P:Int)=fld V K P y u v:=by have e1:(((2 * V:Nat):Int) / 2).toNat=V:=om;have e2:(((4 * K:Nat):Int) / 4).toNat=K:=om;simp only[fieldOf,fr4,e1,e2,Int.toNat_natCast]
set_option maxHeartbeats 1600000 in
set_option maxRecDepth 10000 in
theorem zjn(c:Cx)(pa fu fi:Fm)(dir sel:Int)(H:za):CallOk Tryz.prog 213 [.agg (cxc c),.agg (fmc pa++(fmc fu++fmc fi)),.int .i64 dir,.int .i64 sel] H (.tup [.agg (fmc (refS c pa fu fi dir sel).1),.int .i64 (refS c pa fu fi dir sel).2]) H:=by
 generalize hr:refS c pa fu fi dir sel=r;have vc:=fun H=>zl3 c H;have fc:=fun H=>zm2 c H;have pc:=fun H=>zmI c H;obtain⟨t,s,i,n⟩:=c;obtain⟨w1,h1,y1,u1,v1⟩:=pa;obtain⟨w2,h2,y2,u2,v2⟩:=fu;obtain⟨w3,h3,y3,u3,v3⟩:=fi;simp only[fmc,List.cons_append,List.nil_append];refine CallOk.body (F0:=[(0,.agg [.int .i64 t,.int .i64 s,.bool i,.bool n]),(1,.agg [.int .i64 w1,.int .i64 h1,.slice (bs y1) y1.length false,.slice (bs u1) u1.length false,.slice (bs v1) v1.length false,.int .i64 w2,.int .i64 h2,.slice (bs y2) y2.length false,.slice (bs u2) u2.length false,.slice (bs v2) v2.length false,.int .i64 w3,.int .i64 h3,.slice (bs y3) y3.length false,.slice (bs u3) u3.length false,.slice (bs v3) v3.length false]),(2,.int .i64 dir),(3,.int .i64 sel)]) Tryz.func213 rfl Tryz.ntmps213 Tryz.results213 rfl kr rfl ?_;refine PW.e ?_;(repeat refine PW.seq ?_);refine PW.rgv (P:=Tryz.prog) [2,3,4,5,8] 34 (.bool (zkj ⟨t,s,i,n⟩ dir sel)) ?_ ?_ ?_
 ·rfl
 ·cases hv:vcx ⟨t,s,i,n⟩<;>cases hf:fcx ⟨t,s,i,n⟩;all_goals(rw[hv]at vc;rw[hf]at fc;simp(disch:=omega) only[go_sem,↓reduceIte,reduceCtorEq];(repeat'(first|((first|refine zh ?_ ?_|refine And.intro ?_ ?_)<;>intro h<;>(try simp only[nqb]at h)<;>simp(disch:=omega) only[go_sem,↓reduceIte,reduceCtorEq,h])|((first|refine VCx.call (vc _) rfl ?_|refine VCx.call (fc _) rfl ?_);simp(disch:=omega) only[go_sem,↓reduceIte,reduceCtorEq]))))
  all_goals(clear vc fc pc hr;(simp_all[zkj,slot,qL]<;>first|rfl|omega|(rw[qA];simp;done)|(rw[qA];simp;omega)))
 refine PW.c (fun h=> ?_) (fun h=> ?_)
 ·have hb:zkj ⟨t,s,i,n⟩ dir sel=true:=h;refine PW.e ?_;refine PW.v (.tup [.agg [.int .i64 0,.int .i64 0,.slice [] 0 true,.slice [] 0 true,.slice [] 0 true],.int .i64 1]) ?_;rw[←hr,refS,if_pos hb];exact Fin.base (fz0 _ _ _)
 have hb:zkj ⟨t,s,i,n⟩ dir sel=false:=h;refine PW.skip ?_;(repeat refine PW.seq ?_);refine PW.drawg mix kr fun K hK=> ?_;simp(disch:=omega) only[go_sem,↓reduceIte,reduceCtorEq];refine VCz.call (fun _=>fc _) rfl ?_;simp(disch:=omega) only[go_sem,↓reduceIte,reduceCtorEq];refine hK _ _ ?_;clear hK K;have hr2:lastF (zdB ⟨t,s,i,n⟩ ⟨w1,h1,y1,u1,v1⟩ ⟨w2,h2,y2,u2,v2⟩ ⟨w3,h3,y3,u3,v3⟩ dir sel).1 (zdB ⟨t,s,i,n⟩ ⟨w1,h1,y1,u1,v1⟩ ⟨w2,h2,y2,u2,v2⟩ ⟨w3,h3,y3,u3,v3⟩ dir sel).2 sel=r:=by rw[←hr,refS,if_neg (by rw[hb];simp)]
 have hwh:(zdB ⟨t,s,i,n⟩ ⟨w1,h1,y1,u1,v1⟩ ⟨w2,h2,y2,u2,v2⟩ ⟨w3,h3,y3,u3,v3⟩ dir sel).2=false→sel=0∨sel=1:=fun hw=>by
  have hf:fcx ⟨t,s,i,n⟩=true:=by
   unfold zdB at hw;split at hw
   ·simpa using hw
   ·split at hw
    ·cases hw
    ·simpa using hw
  rw[zkj,hf]at hb;simp at hb;omega
 generalize hpk:zdB ⟨t,s,i,n⟩ ⟨w1,h1,y1,u1,v1⟩ ⟨w2,h2,y2,u2,v2⟩ ⟨w3,h3,y3,u3,v3⟩ dir sel=pk1 at hr2 hwh;obtain⟨⟨w,ht,y,u,v⟩,wh⟩:=pk1;simp only at hr2 hwh;refine PW.to [3,8,10,11] [(3,.int .i64 sel),(8,.ptr (H.length+2) 0 0),(10,.ptr (H.length+3) 0 0),(11,.bool wh)] (H++[⟨152,0,[.int .i64 t,.int .i64 s,.bool i,.bool n]⟩,⟨84,0,[.int .i64 w1,.int .i64 h1,.slice (bs y1) y1.length false,.slice (bs u1) u1.length false,.slice (bs v1) v1.length false,.int .i64 w2,.int .i64 h2,.slice (bs y2) y2.length false,.slice (bs u2) u2.length false,.slice (bs v2) v2.length false,.int .i64 w3,.int .i64 h3,.slice (bs y3) y3.length false,.slice (bs u3) u3.length false,.slice (bs v3) v3.length false]⟩,⟨33,0,[.int .i64 0,.int .i64 0,.slice [] 0 true,.slice [] 0 true,.slice [] 0 true]⟩,⟨33,0,[.int .i64 w,.int .i64 ht,.slice (bs y) y.length false,.slice (bs u) u.length false,.slice (bs v) v.length false]⟩]) ?_ ?_
 ·clear hr2 hwh hr;refine PW.b ?_;refine PW.e ?_;refine PW.c (fun h=> ?_) (fun h=> ?_)
  ·have hd:dir=1:=by simpa using h
   rw[zdB,if_pos hd]at hpk;simp only[qO.injEq,Fm.mk.injEq]at hpk;obtain⟨⟨rfl,rfl,rfl,rfl,rfl⟩,rfl⟩:=hpk;refine PW.e ?_;exact⟨rfl,rfl⟩
  ·have hd:dir≠1:=by simpa using h
   rw[zdB,if_neg hd]at hpk;(repeat refine PW.seq ?_);refine PW.rgv (P:=Tryz.prog) [3,5,8,10,11] 46 (.bool (n&&(decide (t=2)&&decide (sel≠pcx ⟨t,s,i,n⟩)))) ?_ ?_ ?_
   ·rfl
   ·simp(disch:=omega) only[go_sem,↓reduceIte,reduceCtorEq];(repeat'(first|((first|refine zh ?_ ?_|refine And.intro ?_ ?_)<;>intro h<;>(try simp only[nqb]at h)<;>simp(disch:=omega) only[go_sem,↓reduceIte,reduceCtorEq,h])|((first|refine VCx.call (zmI ⟨_,_,_,_⟩ _) rfl ?_);simp(disch:=omega) only[go_sem,↓reduceIte,reduceCtorEq])));all_goals(clear vc fc pc hpk;first|(simp_all[slot,qL]<;>first|rfl|omega|(rw[qA];simp;done)|(rw[qA];simp;omega))|(simp_all[pcx,slot,qL]<;>first|rfl|omega|(rw[qA];simp;done)|(rw[qA];simp;omega)))
   refine PW.c (fun h=> ?_) (fun h=> ?_)
   ·rw[if_pos h]at hpk;simp only[qO.injEq,Fm.mk.injEq]at hpk;obtain⟨⟨rfl,rfl,rfl,rfl,rfl⟩,rfl⟩:=hpk;refine PW.e ?_;exact⟨rfl,rfl⟩
   ·rw[if_neg (by rw[h];simp)]at hpk;simp only[qO.injEq,Fm.mk.injEq]at hpk;obtain⟨⟨rfl,rfl,rfl,rfl,rfl⟩,rfl⟩:=hpk;refine PW.skip ?_;exact⟨rfl,rfl⟩
 clear hpk hr hb vc fc pc;refine PW.e ?_;refine PW.c (fun h=> ?_) (fun h=> ?_)
 ·have hw0:w=0:=by simpa using h
  refine PW.e ?_;refine PW.v (.tup [.agg [.int .i64 0,.int .i64 0,.slice [] 0 true,.slice [] 0 true,.slice [] 0 true],.int .i64 6]) ?_;rw[←hr2,lastF,if_pos hw0];exact Fin.base (fz0 _ _ _)
 have hw0:w≠0:=by simpa using h
 rw[lastF,if_neg (by exact hw0)]at hr2;refine PW.skip ?_;have va:=fun H=>zgN ⟨w,ht,y,u,v⟩ H;(repeat refine PW.seq ?_);refine PW.rgv (P:=Tryz.prog) [3,8,10,11] 78 (.bool (!(fvd ⟨w,ht,y,u,v⟩)||(!wh&&decide (ht%32≠0)))) ?_ ?_ ?_
 ·rfl
 ·cases hv:fvd ⟨w,ht,y,u,v⟩
  ·rw[hv]at va;simp(disch:=omega) only[go_sem,↓reduceIte,reduceCtorEq];(repeat'(first|((first|refine zh ?_ ?_|refine And.intro ?_ ?_)<;>intro h<;>(try simp only[nqb]at h)<;>simp(disch:=omega) only[go_sem,↓reduceIte,reduceCtorEq,h])|((first|refine VCx.call (va _) rfl ?_);simp(disch:=omega) only[go_sem,↓reduceIte,reduceCtorEq])));all_goals(clear va hr2 hwh;(simp_all[slot,qL]<;>first|rfl|omega|(rw[qA];simp;done)|(rw[qA];simp;omega)))
  ·rw[hv]at va;have hpos:0≤ht:=by simp only[fvd,fmd,qI]at hv;have:=zde hv.1.1;omega
   simp(disch:=omega) only[go_sem,↓reduceIte,reduceCtorEq];(repeat'(first|((first|refine zh ?_ ?_|refine And.intro ?_ ?_)<;>intro h<;>(try simp only[nqb]at h)<;>simp(disch:=omega) only[go_sem,↓reduceIte,reduceCtorEq,zY,h])|((first|refine VCx.call (va _) rfl ?_);simp(disch:=omega) only[go_sem,↓reduceIte,reduceCtorEq,zY])));all_goals(clear va hr2 hwh;(simp_all[slot,qL]<;>first|rfl|omega|(rw[qA];simp;done)|(rw[qA];simp;omega)))
 refine PW.c (fun h=> ?_) (fun h=> ?_)
 ·have hq:(!(fvd ⟨w,ht,y,u,v⟩)||(!wh&&decide (ht%32≠0)))=true:=h;refine PW.e ?_;refine PW.v (.tup [.agg [.int .i64 0,.int .i64 0,.slice [] 0 true,.slice [] 0 true,.slice [] 0 true],.int .i64 1]) ?_;rw[if_pos hq]at hr2;rw[←hr2];exact Fin.base (fz0 _ _ _)
 have hq:(!(fvd ⟨w,ht,y,u,v⟩)||(!wh&&decide (ht%32≠0)))=false:=h;rw[if_neg (by rw[hq];simp)]at hr2;refine PW.skip ?_;refine PW.e ?_;refine PW.c (fun h=> ?_) (fun h=> ?_)
 ·subst h;refine PW.e ?_;refine PW.v (.tup [.agg [.int .i64 w,.int .i64 ht,.slice (bs y) y.length false,.slice (bs u) u.length false,.slice (bs v) v.length false],.int .i64 0]) ?_;rw[if_pos rfl]at hr2;rw[←hr2];exact Fin.base (.id (zS _ _ _ _ _ _ _ _ _ _))
 ·subst h;refine PW.skip ?_;have hq1:fvd ⟨w,ht,y,u,v⟩=true:=by
   cases hv:fvd ⟨w,ht,y,u,v⟩with
   | true=>rfl
   | false=>rw[hv]at hq;cases hq
  have hq2:ht%32=0:=by rw[hq1]at hq;simp at hq;omega
  obtain⟨V,K,rfl,rfl,hok⟩:=zd6 hq1 hq2;obtain⟨P,hP,rfl⟩:∃ P:Nat,P≤1∧sel=(P:Int):=by
   rcases hwh rfl with e|e
   ·exact⟨0,om,om⟩
   ·exact⟨1,om,om⟩
  have fo:=fun H=>zhN V K P y u v H hok hP;have e1:=za2 V K P y u v;rw[if_neg sp]at hr2;have hr3:r=(fld V K P y u v,0):=by rw[←hr2,←e1];rfl
  rw[hr3];obtain⟨g,hg⟩:∃ g,fld V K P y u v=g:=⟨_,rfl⟩;rw[hg]at fo ⊢;obtain⟨a1,a2,a3,a4,a5⟩:=g;simp only[fmc,fr4]at fo ⊢;refine PW.k fo ?_;refine PW.v (.tup [.agg [.int .i64 a1,.int .i64 a2,.slice (bs a3) a3.length false,.slice (bs a4) a4.length false,.slice (bs a5) a5.length false],.int .i64 0]) ?_;exact Fin.base (.id (zS _ _ _ _ _ _ _ _ _ _))
end Go.Proofs.YtpjlfoficnpfoaaGreatDoor.Sc
namespace Go.Proofs.YtpjlfoficnpfoaaGreatDoor.Pm
set_option linter.all false
open Go.RowKit
variable {P:Program} {C:Ctx} {H:za} {w:World} {F:Fr} {a:Act} {N:Nat}
noncomputable def opE(P:Program)(n:Nat)(ds:List (Option Nat))(o:Oper)(F:Fr)(H:za):Option (Fr×za):=
 match zJ o.op with
 | false=>stp P ds o F H
 | true=>match zah ds F o with
  | some true=>match zq o.op (slot F)with
   | some (g,args)=>match zhO P n (.call g args H)with
    | some (.val v H1)=>some (put F o.dst v,H1)
    | _=>none
   | none=>none
  | some false=>some (put F o.dst (.tup []),H)
  | none=>none
theorem zpw{n:Nat}{all:List Oper}{o:Oper}{F1:Fr}{H1:za}(h:opE P n (all.map (·.dst)) o F H=some (F1,H1)):
  (zbs all (slot F) o=some false∧F1=put F o.dst (.tup [])∧H1=H)∨(zbs all (slot F) o=some true∧∃ v,Exec P o (slot F) H v H1∧F1=put F o.dst v):=by
 have hcl:zJ o.op=false→zq o.op (slot F)=none:=fun hc=>by
  unfold zq;split
  ·rename_i f args ts ho;rw[ho]at hc;simp[zJ]at hc
  ·rfl
 unfold opE at h;split at h
 ·rename_i hc;unfold stp at h;split at h
  ·rename_i hb;split at h
   ·rename_i v H' hp;simp only[qP.injEq,qO.injEq]at h;obtain⟨rfl,rfl⟩:=h;exact .inr ⟨zt all F o hb,v,by unfold Exec;rw[hcl hc];exact hp,rfl⟩
   ·cases h
  ·rename_i hb;simp only[qP.injEq,qO.injEq]at h;obtain⟨rfl,rfl⟩:=h;exact .inl ⟨zt all F o hb,rfl,rfl⟩
  ·cases h
 ·split at h
  ·rename_i hb;split at h
   ·rename_i g args hp;split at h
    ·rename_i v H' he;simp only[qP.injEq,qO.injEq]at h;obtain⟨rfl,rfl⟩:=h;exact .inr ⟨zt all F o hb,v,by unfold Exec;rw[hp];exact zeB n _ _ he,rfl⟩
    ·cases h
   ·cases h
  ·rename_i hb;simp only[qP.injEq,qO.injEq]at h;obtain⟨rfl,rfl⟩:=h;exact .inl ⟨zt all F o hb,rfl,rfl⟩
  ·cases h
def zgC{α:Type}(g:Nat→Option (List α)):List Nat→Option (List α)
 | []=>some []
 | i::r=>match g i with
  | some x=>match zgC g r with
   | some y=>some (x++y)
   | none=>none
  | none=>none
theorem zgc{α:Type}{g:Nat→Option (List α)}:∀{l:List Nat} {L:List α},zgC g l=some L→∀ i∈l,∃ x,g i=some x∧∀ y∈x,y∈L
 | [],L,_,i,hi=>by cases hi
 | j::r,L,h,i,hi=>by
  simp only[zgC]at h;split at h
  ·rename_i x hx;split at h
   ·rename_i y hy;injection h with h;subst h;rcases qF.1 hi with rfl|hi
    ·exact⟨x,hx,fun z hz=>List.mem_append.2 (.inl hz)⟩
    ·obtain⟨x',h1,h2⟩:=zgc hy i hi;exact⟨x',h1,fun z hz=>List.mem_append.2 (.inr (h2 z hz))⟩
   ·cases h
  ·cases h
noncomputable def ztr(P:Program)(n N:Nat)(ops:Array Oper):Nat→Array Bool→Fr→za→Option (List (Fr×za))
 | 0,listed,F,H=>match Region.ready .any ops listed with|[]=>some [(F,H)]|_=>none
 | k+1,listed,F,H=>match Region.ready .any ops listed with
  | []=>some [(F,H)]
  | r=>zgC (fun i=>match ops[i]? with
   | some o=>match zQ N o with
    | true=>match opE P n (ops.toList.map (·.dst)) o F H with
     | some (F1,H1)=>ztr P n N ops k (listed.setIfInBounds i true) F1 H1
     | none=>none
    | false=>none
   | none=>none) r
theorem zh2{n:Nat}{ops:Array Oper}{Q:Exit→Act→World→Prop}:∀(k:Nat) (listed:Array Bool) (F:Fr) (H:za) (L:List (Fr×za)),ztr P n N ops k listed F H=some L→∀(C:Ctx) (a:Act) (w:World),a.defers=[]→WRel C H w→FRel C N (slot F) a→
  (∀ C' F' H' a' w',CLe C C'→a'.defers=[]→WRel C' H' w'→Below C.B w w'→FRel C' N (slot F') a'→(F',H')∈L→Q .normal a' w')→wpAny P .any ops Q k listed a w
 | 0,listed,F,H,L,h,C,a,w,hd,hw,hf,hQ=>by
  simp only[ztr]at h;split at h
  ·rename_i hr;injection h with h;subst h;exact⟨hr,hQ C F H a w (.refl _) hd hw (.refl _ _) hf sp⟩
  ·cases h
 | k+1,listed,F,H,L,h,C,a,w,hd,hw,hf,hQ=>by
  simp only[ztr]at h;split at h
  ·rename_i hr;injection h with h;subst h;exact⟨fun _=>hQ C F H a w (.refl _) hd hw (.refl _ _) hf sp,fun i hi=>by rw[hr]at hi;cases hi⟩
  ·rename_i hne;refine⟨fun e=>absurd e hne,fun i hi=> ?_⟩;obtain⟨x,hx,hsub⟩:=zgc h i hi;split at hx
   ·rename_i o ho;split at hx
    ·rename_i hdst;split at hx
     ·rename_i F1 H1 hop;unfold wpOp;rw[ho];simp only;have next:∀ C' u w' v,F1=put F o.dst v→CLe C C'→WRel C' H1 w'→Below C.B w w'→FRel C' N (upd (slot F) o.dst v) (a.put o.dst u)→wpAny P .any ops Q k (listed.setIfInBounds i true) (a.put o.dst u) w':=by intro C' u w' v hF1 q1 q2 q3 q4;refine zh2 k _ F1 H1 x hx C' _ w' (by cases hod:o.dst<;>simp[Act.put,hd]) q2 (by rw[hF1,zad];exact q4) ?_;intro C'' F'' H'' a'' w'' p1 p2 p3 p4 p5 p6;exact hQ C'' F'' H'' a'' w'' (q1.trans p1) p2 p3 (q3.trans (by rw[←q1.B];exact p4)) p5 (hsub _ p6)
      rcases zpw hop with⟨h1,h2,h3⟩|⟨h1,v,h2,h3⟩
      ·have hwant:=zR hf h1;rw[qV]at hwant;rw[if_neg (by rw[hwant];simp)];exact next C _ w (.tup []) h2 (.refl _) (h3▸hw) (.refl _ _) (hf.put o.dst (zaA hdst) VRel.undefV)
      ·have hwant:=zR hf h1;rw[qV]at hwant;rw[if_pos hwant];left;exact zdg hdst hw hf h2 _ _ (fun C' u w' q1 q2 q3 q4=>next C' u w' v h3 q1 q2 q3 q4)
     ·cases hx
    ·cases hx
   ·cases hx
theorem PW.any{E:Env}{Q:Exit→Fr→za→Prop}{id n:Nat}{ops:Array Oper}{L:List (Fr×za)}(hm:P.follows .mixedOrders=true)(h:ztr P n E.N ops ops.size (Array.replicate ops.size false) F H=some L)(hQ:∀ F' H',(F',H')∈L→Q .normal F' H'):
  PW P E (.region id ops true) F H Q:=fun hs C a w hdf hw hf=>by
 refine wp_region_any hm ?_;refine zh2 ops.size _ F H L h C a w.drew hdf hw.drew hf ?_;rintro C' F' H' a' w' p1 p2 p3 p4 p5 p6;exact⟨C',F',H',p1.toN _,p2,p3,((Below.refl C.B w).drew).trans p4,p5,hQ F' H' p6⟩
end Go.Proofs.YtpjlfoficnpfoaaGreatDoor.Pm
namespace Go.Proofs.YtpjlfoficnpfoaaGreatDoor.Sc
set_option linter.all false
open Pm Ty Go.RowKit
def mx3(a b c:Int):Int:=if c>(if b>a then b else a)then c else(if b>a then b else a)
theorem zzs(k:IntKind)(a b c:Int):zeV zpk (.int k a) [.int k b,.int k c]=some (.int k (mx3 a b c)):=rfl
def mx6(a b c d e f:Int):Int:=(fun x=>if f>x then f else x) ((fun x=>if e>x then e else x) ((fun x=>if d>x then d else x) (mx3 a b c)))
theorem zzr(k:IntKind)(a b c d e f:Int):zeV zpk (.int k a) [.int k b,.int k c,.int k d,.int k e,.int k f]=some (.int k (mx6 a b c d e f)):=rfl
attribute [go_sem high] zzs zzr
structure F16(f:Fm):Prop where
 w:f.w=16
 h:f.h=16
 ly:f.y.length=256
 lu:f.u.length=64
 lv:f.v.length=64
def gry:Fm:=⟨16,16,qN 256 128,qN 64 128,qN 64 128⟩
theorem F16.gry:F16 gry:=⟨rfl,rfl,qH,qH,qH⟩
theorem F16.fvd{f:Fm}(h:F16 f):fvd f=true:=by obtain⟨w,h,y,u,v⟩:=f;obtain⟨rfl,rfl,ly,lu,lv⟩:=h;simp only at ly lu lv;simp[Sc.fvd,fmd,fsz,ly,lu,lv]
def cmp(f:Fm)(n:Nat):List UInt8:=if n=4 then f.u else if n=5 then f.v else f.y
def zh6(f:Fm)(n:Nat)(p:List UInt8):Fm:=if n=4 then⟨f.w,f.h,f.y,p,f.v⟩else if n=5 then⟨f.w,f.h,f.y,f.u,p⟩else⟨f.w,f.h,p,f.u,f.v⟩
theorem F16.cmp{f:Fm}(h:F16 f){n:Nat}(hn:n<6):(cmp f n).length=bln n:=by
 unfold Sc.cmp bln;split
 ·rw[if_pos om];exact h.lu
 ·split
  ·rw[if_pos om];exact h.lv
  ·rw[if_neg om];exact h.ly
theorem F16.stc{f:Fm}(h:F16 f){n:Nat}(hn:n<6){p:List UInt8}(hp:p.length=bln n):F16 (zh6 f n p):=by
 unfold zh6;split
 ·exact⟨h.w,h.h,h.ly,by rw[hp];subst n;rfl,h.lv⟩
 ·split
  ·exact⟨h.w,h.h,h.ly,h.lu,by rw[hp];subst n;rfl⟩
  ·exact⟨h.w,h.h,by rw[hp,bln,if_neg om],h.lu,h.lv⟩
def addB(f:Fm)(n:Nat)(fd:Bool)(x:List Int):Fm:=zh6 f n (cad (cmp f n) n fd x)
theorem zvB{p:List UInt8}{n:Nat}{fd:Bool}{x:List Int}(hn:n<6)(hp:p.length=bln n):(cad p n fd x).length=bln n:=by rw[cad,zg2 hn hp,hp]
theorem F16.addB{f:Fm}(h:F16 f){n:Nat}(hn:n<6)(fd:Bool)(x:List Int):F16 (addB f n fd x):=h.stc hn (zvB hn (h.cmp hn))
def lvl(lv:List Int)(n:Nat):List Int:=(lv.drop (n * 64)).take 64
def rsd(lv:List Int)(al:Bool)(mat:List UInt8)(q:Int)(n:Nat):List Int:=inv (dqz (frs (lvl lv n) al) mat q)
def addN(m:Mb)(al:Bool)(mat:List UInt8)(q:Int)(f:Fm):Nat→Fm
 | 0=>f
 | n+1=>if zat (cdl m) n then addB (addN m al mat q f n) n m.fd (rsd m.lv al mat q n)else addN m al mat q f n
theorem F16.addN{f:Fm}(h:F16 f)(m:Mb)(al:Bool)(mat:List UInt8)(q:Int):∀ n,n≤6→F16 (addN m al mat q f n)
 | 0,_=>h
 | n+1,hn=>by
  have ih:=h.addN m al mat q n om;rw[Sc.addN];split
  ·exact ih.addB om _ _
  ·exact ih
def prdF(f:Fm)(x y:Int)(h:Nat)(vx vy:Int):Fm:=⟨16,h,prd f.y f.w f.h x y 16 h vx vy,prd f.u (f.w / 2) (f.h / 2) (x / 2) (y / 2) 8 (h / 2) (vx.tdiv 2) (vy.tdiv 2),prd f.v (f.w / 2) (f.h / 2) (x / 2) (y / 2) 8 (h / 2) (vx.tdiv 2) (vy.tdiv 2)⟩
theorem zuu(f:Fm)(x y vx vy:Int):F16 (prdF f x y 16 vx vy):=⟨rfl,rfl,zau _ _ _ _ _ _ _ _ _,zau _ _ _ _ _ _ _ _ _,zau _ _ _ _ _ _ _ _ _⟩
def prdS(f:Fm)(mx my vx vy:Int):Fm×Int:=if(fmd f&&(decide (0≤mx)&&(decide (16 * mx+16≤f.w)&&(decide (0≤my)&&decide (16 * my+16≤f.h)))))=true then(if vrg vx vy=true then(prdF f (16 * mx) (16 * my) 16 vx vy,0)else(f0,2))else(f0,1)
def zdu(f:Fm)(mx my:Int):Bool:=fvd f&&(decide (0≤mx)&&(decide (mx<f.w / 16)&&(decide (0≤my)&&decide (my<f.h / 16))))
def wovF(a b:Fm):Fm:=⟨16,16,wov a.y b.y 16 8,wov a.u b.u 8 4,wov a.v b.v 8 4⟩
def fldS(f:Fm)(mx my va vb vc vd sa sb:Int):Fm×Int:=if(zdu f mx my&&decide (f.h%32=0))=true then(wovF (prdF (fieldOf f sa) (16 * mx) (8 * my) 8 va vb) (prdF (fieldOf f sb) (16 * mx) (8 * my) 8 vc vd),0)else(f0,1)
theorem znk(f g:Fm)(x y x' y' a b c d:Int):F16 (wovF (prdF f x y 8 a b) (prdF g x' y' 8 c d)):=by have l1:∀ p W R x y vx vy,(prd p W R x y 16 8 vx vy).length=8 * 16:=fun _ _ _ _ _ _ _=>zau _ _ _ _ _ _ _ _ _;have l2:∀ p W R x y vx vy,(prd p W R x y 8 (8 / 2) vx vy).length=4 * 8:=fun _ _ _ _ _ _ _=>zau _ _ _ _ _ _ _ _ _;exact⟨rfl,rfl,zaF (l1 ..) (l1 ..) 8 (qR _),zaF (l2 ..) (l2 ..) 4 (qR _),zaF (l2 ..) (l2 ..) 4 (qR _)⟩
def mnF(a b:Fm):Fm:=⟨a.w,a.h,mnb a.y b.y,mnb a.u b.u,mnb a.v b.v⟩
theorem zr2{a:Fm}(h:F16 a)(b:Fm):F16 (mnF a b):=⟨h.w,h.h,(zdb _ _).trans h.ly,(zdb _ _).trans h.lu,(zdb _ _).trans h.lv⟩
def dirP(c:Cx)(fp:Bool)(va vb vc vd sa sb:Int)(pa fu fi:Fm)(d mx my:Int):Fm×Int:=if(refS c pa fu fi d sa).2≠0 then(f0,(refS c pa fu fi d sa).2)else if fp=true then fldS (refS c pa fu fi d sa).1 mx my va vb vc vd sa sb else prdS (refS c pa fu fi d sa).1 mx my va vb
def zij(c:Cx)(m:Mb)(pa fu fi:Fm)(mx my:Int):Fm×Int:=dirP c m.fp m.va m.vb m.vc m.vd m.sa m.sb pa fu fi 0 mx my
def zgk(c:Cx)(m:Mb)(pa fu fi:Fm)(mx my:Int):Fm×Int:=dirP c m.fp m.ve m.vf m.vg m.vh m.sc m.sd pa fu fi 1 mx my
def prS(c:Cx)(m:Mb)(pa fu fi:Fm)(mx my:Int):Fm×Int:=
 if m.ua=true then
  if(zij c m pa fu fi mx my).2≠0 then(f0,(zij c m pa fu fi mx my).2)
  else if m.ub=true then
   if(zgk c m pa fu fi mx my).2≠0 then(f0,(zgk c m pa fu fi mx my).2)
   else(mnF (zij c m pa fu fi mx my).1 (zgk c m pa fu fi mx my).1,0)
  else zij c m pa fu fi mx my
 else zgk c m pa fu fi mx my
theorem zut{f:Fm}{mx my vx vy:Int}(h:(prdS f mx my vx vy).2=0):F16 (prdS f mx my vx vy).1:=by
 unfold prdS at h ⊢;split at h
 ·rename_i h1;split at h
  ·rename_i h2;rw[if_pos h1,if_pos h2];exact zuu _ _ _ _ _
  ·cases h
 ·cases h
theorem zvf{f:Fm}{mx my va vb vc vd sa sb:Int}(h:(fldS f mx my va vb vc vd sa sb).2=0):F16 (fldS f mx my va vb vc vd sa sb).1:=by
 unfold fldS at h ⊢;split at h
 ·rename_i h1;rw[if_pos h1];exact znk _ _ _ _ _ _ _ _ _ _
 ·cases h
theorem zj7{c:Cx}{fp:Bool}{va vb vc vd sa sb:Int}{pa fu fi:Fm}{d mx my:Int}(h:(dirP c fp va vb vc vd sa sb pa fu fi d mx my).2=0):F16 (dirP c fp va vb vc vd sa sb pa fu fi d mx my).1:=by
 unfold dirP at h ⊢;split at h
 ·rename_i h1;exact absurd h h1
 ·rename_i h1;rw[if_neg h1];split at h
  ·rename_i h2;rw[if_pos h2];exact zvf h
  ·rename_i h2;rw[if_neg h2];exact zut h
theorem zrm{c:Cx}{m:Mb}{pa fu fi:Fm}{mx my:Int}(h:(prS c m pa fu fi mx my).2=0):F16 (prS c m pa fu fi mx my).1:=by
 unfold prS at h ⊢;split at h
 ·rename_i h1;rw[if_pos h1];split at h
  ·rename_i h2;exact absurd h h2
  ·rename_i h2;rw[if_neg h2];have h3:F16 (zij c m pa fu fi mx my).1:=zj7 (Decidable.not_not.1 h2);split at h
   ·rename_i h4;rw[if_pos h4];split at h
    ·rename_i h5;exact absurd h h5
    ·rename_i h5;rw[if_neg h5];exact zr2 h3 _
   ·rename_i h4;rw[if_neg h4];exact h3
 ·rename_i h1;rw[if_neg h1];exact zj7 h
def stl(c:Cx):Mb:=⟨2,true,decide (c.t=3),false,false,0,0,0,0,0,0,0,0,pcx c,0,if c.t=3 then pcx c else 0,0,0,false,false,false,false,false,false,zl384⟩
def zg7(c:Cx)(si sq:List UInt8)(al:Bool)(q:Int)(m:Mb)(pa fu fi:Fm)(mx my:Int):Fm×Int:=
 if(fmS c m&&(zcr si&&(zcr sq&&qnB q)))=true then
  if m.k=1 then(addN m al si q gry 6,0)
  else if(prS c (if m.k=0 then stl c else m) pa fu fi mx my).2≠0 then(f0,(prS c (if m.k=0 then stl c else m) pa fu fi mx my).2)
  else(addN (if m.k=0 then stl c else m) al sq q (prS c (if m.k=0 then stl c else m) pa fu fi mx my).1 6,0)
 else(f0,1)
structure nrF(D:Int)(f g:Fm):Prop where
 w:f.w=g.w
 h:f.h=g.h
 y:nr D f.y g.y
 u:nr D f.u g.u
 v:nr D f.v g.v
theorem nrF.refl{D:Int}(h:0≤D)(f:Fm):nrF D f f:=⟨rfl,rfl,.refl h _,.refl h _,.refl h _⟩
theorem nrF.D0{D:Int}{f g:Fm}(h:nrF D f g):0≤D:=h.y.D0
theorem nrF.fmd{D:Int}{f g:Fm}(h:nrF D f g):fmd f=fmd g:=by unfold Sc.fmd;rw[h.w,h.h,h.y.1,h.u.1,h.v.1]
theorem nrF.fvd{D:Int}{f g:Fm}(h:nrF D f g):fvd f=fvd g:=by unfold Sc.fvd;rw[h.fmd,h.w,h.h]
theorem nrF.prdF{D:Int}{f g:Fm}(h:nrF D f g)(x y:Int)(k:Nat)(vx vy:Int):nrF D (prdF f x y k vx vy) (prdF g x y k vx vy):=by unfold Sc.prdF;rw[h.w,h.h];exact⟨rfl,rfl,h.y.prd _ _ _ _ _ _ _ _,h.u.prd _ _ _ _ _ _ _ _,h.v.prd _ _ _ _ _ _ _ _⟩
theorem nrF.fieldOf{D:Int}{f g:Fm}(h:nrF D f g){s:Int}(hs:s=0∨s=1)(hv:Sc.fvd f=true)(h32:f.h%32=0):nrF D (fieldOf f s) (fieldOf g s):=by
 obtain⟨w,ht,y,u,v⟩:=f;obtain⟨w',ht',y',u',v'⟩:=g;obtain⟨e1,e2,h3,h4,h5⟩:=h;simp only at e1 e2 h3 h4 h5 h32;subst e1 e2;obtain⟨V,K,rfl,rfl,ok⟩:=zd6 hv h32;obtain⟨P,hP,rfl⟩:∃ P:Nat,P≤1∧s=(P:Int):=by
  rcases hs with e|e
  ·exact⟨0,om,om⟩
  ·exact⟨1,om,om⟩
 have f1:=za2 V K P y u v;have f2:=za2 V K P y' u' v';unfold fr4 at f1 f2;rw[f1,f2];exact⟨rfl,rfl,h3.ctl (zaP _ _ _ hP _ ok.ly),h4.ctl (zaP _ _ _ hP _ ok.lu),h5.ctl (zaP _ _ _ hP _ ok.lv)⟩
def nrA(D:Int)(a b:Fm×Int):Prop:=a.2=b.2∧nrF D a.1 b.1
theorem nrF.lastF{D:Int}{f g:Fm}(h:nrF D f g)(wh:Bool)(s:Int)(hs:wh=true∨s=0∨s=1):nrA D (lastF f wh s) (lastF g wh s):=by
 have h0:=nrF.refl h.D0 f0;unfold Sc.lastF;rw[←h.w,←h.fvd,←h.h];split
 ·exact⟨rfl,h0⟩
 split
 ·exact⟨rfl,h0⟩
 rename_i hb;split
 ·exact⟨rfl,h⟩
 rename_i hw;have hb':Sc.fvd f=true∧f.h%32=0:=by cases hv:Sc.fvd f<;>cases wh<;>simp_all
 exact⟨rfl,h.fieldOf (by rcases hs with e|e;exact absurd e hw;exact e) hb'.1 hb'.2⟩
theorem nrF.refS{D:Int}{pa fu fi pa' fu':Fm}(hp:nrF D pa pa')(hf:nrF D fu fu'){c:Cx}(hc:c.n=false)(d s:Int):nrA D (refS c pa fu fi d s) (refS c pa' fu' fi d s):=by
 have h0:=nrF.refl hp.D0 f0;unfold Sc.refS;split
 ·exact⟨rfl,h0⟩
 rename_i hb;have hs:((!(fcx c))=true∨s=0∨s=1):=by
  rw[zkj]at hb;cases hfc:fcx c
  ·exact .inl rfl
  ·right;rw[hfc]at hb;simp at hb;omega
 unfold zdB;rw[hc];split
 ·exact hf.lastF _ _ hs
 ·exact hp.lastF _ _ hs
theorem nrF.prdS{D:Int}{f g:Fm}(h:nrF D f g)(mx my vx vy:Int):nrA D (prdS f mx my vx vy) (prdS g mx my vx vy):=by
 have h0:=nrF.refl h.D0 f0;unfold Sc.prdS;rw[h.fmd,h.w,h.h];split
 ·split
  ·exact⟨rfl,h.prdF _ _ _ _ _⟩
  ·exact⟨rfl,h0⟩
 ·exact⟨rfl,h0⟩
theorem nrF.wovF{D:Int}{f g f' g':Fm}(h:nrF D f g)(h':nrF D f' g')(x y x' y' a b c d:Int):nrF D (wovF (Sc.prdF f x y 8 a b) (Sc.prdF f' x' y' 8 c d)) (wovF (Sc.prdF g x y 8 a b) (Sc.prdF g' x' y' 8 c d)):=by have h1:=h.prdF x y 8 a b;have h2:=h'.prdF x' y' 8 c d;have l1:∀ p W R x y vx vy,(prd p W R x y 16 8 vx vy).length=8 * 16:=fun _ _ _ _ _ _ _=>zau _ _ _ _ _ _ _ _ _;have l2:∀ p W R x y vx vy,(prd p W R x y 8 (8 / 2) vx vy).length=4 * 8:=fun _ _ _ _ _ _ _=>zau _ _ _ _ _ _ _ _ _;exact⟨rfl,rfl,h1.y.wov h2.y (l1 ..) (l1 ..),h1.u.wov h2.u (l2 ..) (l2 ..),h1.v.wov h2.v (l2 ..) (l2 ..)⟩
theorem nrF.fldS{D:Int}{f g:Fm}(h:nrF D f g)(mx my va vb vc vd:Int){sa sb:Int}(ha:sa=0∨sa=1)(hb:sb=0∨sb=1):nrA D (fldS f mx my va vb vc vd sa sb) (fldS g mx my va vb vc vd sa sb):=by
 have h0:=nrF.refl h.D0 f0;have e:zdu f mx my=zdu g mx my:=by unfold zdu;rw[h.fvd,h.w,h.h]
 unfold Sc.fldS;rw[←e,←h.h];split
 ·rename_i hc;rw[qI,decide_eq_true_eq,zdu,qI]at hc;exact⟨rfl,(h.fieldOf ha hc.1.1 hc.2).wovF (h.fieldOf hb hc.1.1 hc.2) _ _ _ _ _ _ _ _⟩
 ·exact⟨rfl,h0⟩
theorem nrF.dirP{D:Int}{pa fu fi pa' fu':Fm}(hp:nrF D pa pa')(hf:nrF D fu fu'){c:Cx}(hc:c.n=false)(fp:Bool)(va vb vc vd:Int){sa sb:Int}(ha:sa=0∨sa=1)(hb:sb=0∨sb=1)(d mx my:Int):
  nrA D (dirP c fp va vb vc vd sa sb pa fu fi d mx my) (dirP c fp va vb vc vd sa sb pa' fu' fi d mx my):=by
 have h0:=nrF.refl hp.D0 f0;obtain⟨h1,h2⟩:=hp.refS (fi:=fi) hf hc d sa;unfold Sc.dirP;rw[h1];split
 ·exact⟨rfl,h0⟩
 split
 ·exact h2.fldS _ _ _ _ _ _ ha hb
 ·exact h2.prdS _ _ _ _
structure selB(m:Mb):Prop where
 a:m.sa=0∨m.sa=1
 b:m.sb=0∨m.sb=1
 c:m.sc=0∨m.sc=1
 d:m.sd=0∨m.sd=1
theorem nrF.mnF{D:Int}{f g f' g':Fm}(h:nrF D f g)(h':nrF D f' g'):nrF D (mnF f f') (mnF g g'):=⟨h.w,h.h,h.y.mnb h'.y,h.u.mnb h'.u,h.v.mnb h'.v⟩
theorem nrF.prS{D:Int}{pa fu fi pa' fu':Fm}(hp:nrF D pa pa')(hf:nrF D fu fu'){c:Cx}(hc:c.n=false){m:Mb}(hs:selB m)(mx my:Int):nrA D (prS c m pa fu fi mx my) (prS c m pa' fu' fi mx my):=by
 have h0:=nrF.refl hp.D0 f0;obtain⟨a1,a2⟩:=hp.dirP (fi:=fi) hf hc m.fp m.va m.vb m.vc m.vd hs.a hs.b 0 mx my;obtain⟨b1,b2⟩:=hp.dirP (fi:=fi) hf hc m.fp m.ve m.vf m.vg m.vh hs.c hs.d 1 mx my;unfold Sc.prS zij zgk;rw[←a1,←b1];split
 ·split
  ·exact⟨rfl,h0⟩
  ·split
   ·split
    ·exact⟨rfl,h0⟩
    ·exact⟨rfl,a2.mnF b2⟩
   ·exact⟨a1,a2⟩
 ·exact⟨b1,b2⟩
theorem nrF.addB{D:Int}{f g:Fm}(h:nrF D f g)(hf:F16 f){n:Nat}(hn:n<6)(fd:Bool)(x:List Int):nrF D (addB f n fd x) (addB g n fd x):=by
 have hl:=hf.cmp hn;unfold Sc.addB Sc.cmp at *;unfold zh6;by_cases h4:n=4
 ·simp only[if_pos h4]at hl ⊢;exact⟨h.w,h.h,h.y,h.u.cad hn hl,h.v⟩
 ·by_cases h5:n=5
  ·simp only[if_neg h4,if_pos h5]at hl ⊢;exact⟨h.w,h.h,h.y,h.u,h.v.cad hn hl⟩
  ·simp only[if_neg h4,if_neg h5]at hl ⊢;exact⟨h.w,h.h,h.y.cad hn hl,h.u,h.v⟩
theorem nrF.addN{D:Int}{f g:Fm}(h:nrF D f g)(hf:F16 f)(m:Mb)(al:Bool)(mat:List UInt8)(q:Int):∀ n,n≤6→nrF D (addN m al mat q f n) (addN m al mat q g n)
 | 0,_=>h
 | n+1,hn=>by
  have ih:=h.addN hf m al mat q n om;rw[Sc.addN,Sc.addN];split
  ·exact ih.addB (hf.addN m al mat q n om) om _ _
  ·exact ih
end Go.Proofs.YtpjlfoficnpfoaaGreatDoor.Sc
