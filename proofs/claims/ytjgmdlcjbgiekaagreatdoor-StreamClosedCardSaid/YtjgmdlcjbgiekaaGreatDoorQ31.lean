/-
  Parts of the proof, put together in one text. No condition.
-/
import Derived.Test.YtjgmdlcjbgiekaaGreatDoorQ30
namespace Go.Proofs.YtjgmdlcjbgiekaaGreatDoor.Sc
set_option linter.all false
open Pm Ty Go.RowKit
theorem cnt {R:Nat→Prop} (n:Nat) (hs:∀ j,j<n→R (j+1)→R j) (hl:R n):∀ j,j≤n→R j:=fun j hj=>by
 induction hd:n - j using Nat.strongRecOn generalizing j with
 | _ d ih=>
  by_cases h:j<n
  ·exact hs j h (ih (n - (j+1)) (by omega) (j+1) (by omega) rfl)
  ·rw [show j=n by omega];exact hl
theorem zhk {j n:Nat} (h:j<n):decide ((j:Int)<(n:Int))=true:=decide_eq_true (by omega)
theorem zjR (n:Nat):decide ((n:Int)<(n:Int))=false:=decide_eq_false (by omega)
theorem znj (H:za):CallOk Tryz.prog 291 [] H (.agg (is tmL)) H:=CallOk.eval 1000 (by kernel_rfl) (fun x hx=>by cases hx)
theorem zpm (H:za):CallOk Tryz.prog 292 [] H (.agg (is nrL)) H:=CallOk.eval 1000 (by kernel_rfl) (fun x hx=>by cases hx)
theorem zk0 (s:Int) (H:za) (hs: -1000000000000000000≤s∧s≤1000000000000000000):CallOk Tryz.prog 293 [.int .i64 s] H (.int .i64 (nst s)) H:=by
 have h1:=zef (2 * s+547363225600) 1094726451200
 have h2:=flr (2 * s+547363225600) 1094726451200 (by omega)
 rw [←nst] at h2
 refine CallOk.body (F0:=[(0,.int .i64 s)]) Tryz.func293 rfl Tryz.ntmps293 Tryz.results293 rfl (by kernel_rfl) rfl ?_
 refine PW.e ?_
 refine PW.e ?_
 refine PW.f (fun K k=>by simp (disch:=omega) only [go_sem,↓reduceIte,reduceCtorEq,zkj];exact k) ?_
 refine PW.e ?_
 (repeat refine PW.seq ?_);refine PW.cond (t:=_) rfl (fun h=> ?_) (fun h=> ?_)
 ·have h3:(2 * s+547363225600).tmod 1094726451200<0:=by simpa using h
  rw [if_pos h3] at h2
  refine PW.e ?_
  refine PW.e ?_
  (refine PW.ret ⟨_,rfl,?_⟩;first|refine .inl ⟨?_,rfl⟩|refine Fin.base (.id' ?_ (.bool _))|refine Fin.base (.id' ?_ (.int _ _)))
  exact congrArg _ h2
 ·have h3:¬ (2 * s+547363225600).tmod 1094726451200<0:=by simpa using h
  rw [if_neg h3] at h2
  refine PW.skip ?_
  refine PW.e ?_
  (refine PW.ret ⟨_,rfl,?_⟩;first|refine .inl ⟨?_,rfl⟩|refine Fin.base (.id' ?_ (.bool _))|refine Fin.base (.id' ?_ (.int _ _)))
  exact congrArg _ h2
def tsc (p:Nat):List Int:=rgI 64 fun j=>if j<p then tS (j / 8) (j%8) else zh tmL j
theorem zvx:tsc 0=tmL:=by decide+kernel
theorem zlB (p:Nat):(tsc p).length=64:=zbt _ _
theorem ztH {i k:Nat} (hi:i<8) (hk:k<8):zh (tsc (8 * i+k)) (i * 8+k)=zh tmL (8 * i+k):=by
 rw [tsc,zbN _ (by omega),if_neg (by omega),Nat.mul_comm]
theorem zqZ {i k:Nat} (hi:i<8) (hk:k<8):(tsc (8 * i+k)).set (i * 8+k) (zh tmL (8 * i+k) * zh msL i)=tsc (8 * i+(k+1)):=by
 rw [tsc,zh6]
 refine zdE fun j hj=> ?_
 by_cases h1:j=i * 8+k
 ·rw [if_pos h1,if_pos (by omega),tS,bas]
  subst h1
  congr 2<;>omega
 ·rw [if_neg h1]
  by_cases h2:j<8 * i+k
  ·rw [if_pos h2,if_pos (by omega)]
  ·rw [if_neg h2,if_neg (by omega)]
theorem znP {i k:Nat} (hi:i<8) (hk:k<8):zh (tsc 64) (i * 8+k)=tS i k:=by
 rw [tsc,zbN _ (by omega),if_pos (by omega)]
 congr 1<;>omega
theorem zwo {i:Nat} (hi:i<8):zh nrL i≠0∧Int.tdiv 739840 (zh nrL i)=zh msL i∧-1000≤zh nrL i∧zh nrL i≤1000:=by
 have:∀ i,i<8→zh nrL i≠0∧Int.tdiv 739840 (zh nrL i)=zh msL i∧-1000≤zh nrL i∧zh nrL i≤1000:=by decide
 exact this i hi
def fil (f:Nat→Int) (n:Nat):List Int:=rgI 64 fun j=>if j<n then f j else 0
theorem zcX (f:Nat→Int) (n:Nat):(fil f n).length=64:=zbt _ _
def zi:List Int:=List.replicate 64 0
theorem zhR:zi.length=64:=List.length_replicate
theorem zmt (f:Nat→Int):fil f 0=zi:=by
 unfold zi
 apply List.ext_getElem
 ·simp [fil,rgI]
 intro i h1 h2
 rw [List.getElem_replicate]
 simp [fil,rgI]
theorem zfV (f:Nat→Int) (n:Nat):(fil f n).set n (f n)=fil f (n+1):=by
 rw [fil,zh6]
 refine zdE fun j hj=> ?_
 by_cases h1:j=n
 ·rw [if_pos h1,if_pos (by omega),h1]
 ·rw [if_neg h1]
  by_cases h2:j<n
  ·rw [if_pos h2,if_pos (by omega)]
  ·rw [if_neg h2,if_neg (by omega)]
theorem zlf (f:Nat→Int):fil f 64=rgI 64 f:=zdE fun j hj=>by rw [if_pos hj]
theorem zuO (f:Nat→Int) {n j:Nat} (hj:j<n) (h:j<64):zh (fil f n) j=f j:=by rw [fil,zbN _ h,if_pos hj]
def zeV (y:List Int) (p:Nat):Int:=zkB y (p / 8) (p%8)
theorem zlS (y:List Int) {i l:Nat} (hl:l<8):zeV y (8 * i+l)=zkB y i l:=by unfold zeV;congr 1<;>omega
def zd8 (y:List Int) (p:Nat):Int:=nst (zlm y (p / 8) (p%8))
theorem zsv (y:List Int) {k l:Nat} (hl:l<8):zd8 y (8 * k+l)=nst (zlm y k l):=by unfold zd8;congr 2<;>omega
theorem zlJ {f:Nat→Int} {B:Int} (h:∀ j,-B≤f j∧f j≤B) {n:Nat} (hn:n≤8): -(8 * B)≤zfB f n∧zfB f n≤8 * B:=by
 have h0:=h 0
 have h1:=zfK h n
 have h2:=zgN (a:=(n:Int)) (b:=B) (A:=8) (B:=B) (by omega) (by omega)
 omega
set_option maxHeartbeats 4000000 in
set_option maxRecDepth 100000 in
theorem zk7 (y:List Int) (hl:y.length=64) (H:za):CallOk Tryz.prog 213 [.agg (is y)] H (.agg (is (inv y))) H:=by
 have hinv:inv y=fil (zd8 y) 64:=(zlf _).symm
 have hall:=zU y
 have hz:=zmt (zeV y)
 have hz2:=zmt (zd8 y)
 refine CallOk.body (F0:=[(0,.agg (is y))]) Tryz.func213 rfl Tryz.ntmps213 Tryz.results213 rfl (by kernel_rfl) rfl ?_
 refine PW.f (fun K k=>by simp (disch:=omega) only [go_sem,↓reduceIte,reduceCtorEq,hall];exact k) ?_
 refine PW.f (fun K k=>by simp (disch:=omega) only [go_sem,↓reduceIte,reduceCtorEq];refine VCx.call (znj _) rfl ?_;simp (disch:=omega) only [go_sem,↓reduceIte,reduceCtorEq];exact k) ?_
 refine PW.f (fun K k=>by simp (disch:=omega) only [go_sem,↓reduceIte,reduceCtorEq];refine VCx.call (zpm _) rfl ?_;simp (disch:=omega) only [go_sem,↓reduceIte,reduceCtorEq];exact k) ?_
 (repeat refine PW.seq ?_);refine PW.block (PW.loop ?_)
 suffices h1:∀ i:Nat,i≤8→PL Tryz.prog _ _ [(1,.ptr H.length 0 0),(2,.ptr (H.length+1) 0 0),(3,.ptr (H.length+2) 0 0),(18,.agg (is nrL)),(19,.int .i64 (i:Int))] (H++[⟨151,0,is y⟩,⟨151,0,is zi⟩,⟨346,0,is (tsc (8 * i))⟩]) _ by
  exact PL.at [1,2,3,18,19] (h1 0 (by omega)) rfl (by rw [Nat.mul_zero,zvx];rfl)
 refine cnt 8 (fun i hi ih=> ?_) ?_
 ·refine PL.round ?_;refine PW.e ?_;refine PW.t ?_
  refine PW.skip ?_;(repeat refine PW.seq ?_);refine PW.block ?_
  have nl:(is nrL).length=8:=rfl
  have nl2:nrL.length=8:=rfl
  obtain ⟨m1,m2,m3,m4⟩:=zwo hi
  refine PW.f (fun K k=>by simp (disch:=omega) only [go_sem,↓reduceIte,reduceCtorEq,zbq,nl,nl2];exact k) ?_
  refine PW.e ?_
  (repeat refine PW.seq ?_);refine PW.block (PW.loop ?_)
  suffices h2:∀ k:Nat,k≤8→PL Tryz.prog _ _ [(1,.ptr H.length 0 0),(2,.ptr (H.length+1) 0 0),(3,.ptr (H.length+2) 0 0),(4,.int .i64 (i:Int)),(5,.int .i64 (zh nrL i)),(18,.agg (is nrL)),(19,.int .i64 (i:Int)),(23,.int .i64 (k:Int))] (H++[⟨151,0,is y⟩,⟨151,0,is zi⟩,⟨346,0,is (tsc (8 * i+k))⟩]) _ by
   exact PL.at [1,2,3,4,5,18,19,23] (h2 0 (by omega)) rfl rfl
  refine cnt 8 (fun k hk ih=> ?_) ?_
  ·refine PL.round ?_;refine PW.e ?_;refine PW.t ?_
   have b1:=zn7 i k
   rw [tS,bas] at b1
   have t1:=ztH hi hk
   have t2:=zqZ hi hk
   have t3:=zlB (8 * i+k)
   have b2:=ztb i
   refine PW.skip ?_;(repeat refine PW.seq ?_);refine PW.block ?_
   refine PW.e ?_
   (repeat refine PW.seq ?_);refine PW.drawi [H.length+2] [(3,[0]),(28,[0]),(29,[0]),(34,[0]),(35,[0])] [] [] mix (by kernel_rfl) (by simp<;>omega) fun K hK=> ?_
   simp (disch:=omega) only [go_sem,↓reduceIte,reduceCtorEq,zaF,zbq,zt,t3,t1,m1,m2,zbO,t2]
   refine hK _ _ ?_;clear hK K
   refine PW.e ?_
   exact PL.at [1,2,3,4,5,18,19,23] ih rfl rfl
  ·refine PL.round ?_;refine PW.e ?_;refine PW.u ?_
   refine PW.exit ?_
   refine PW.e ?_
   exact PL.at [1,2,3,18,19] ih rfl rfl
 refine PL.round ?_;refine PW.e ?_;refine PW.u ?_
 refine PW.exit ?_
 refine PW.e ?_
 refine PW.e ?_
 (repeat refine PW.seq ?_);refine PW.block (PW.loop ?_)
 have y3:=zlB 64
 suffices h1:∀ i:Nat,i≤8→PL Tryz.prog _ _ [(1,.ptr H.length 0 0),(2,.ptr (H.length+1) 0 0),(3,.ptr (H.length+2) 0 0),(7,.ptr (H.length+3) 0 0),(38,.int .i64 (i:Int))] (H++[⟨151,0,is y⟩,⟨151,0,is zi⟩,⟨346,0,is (tsc 64)⟩,⟨349,0,is (fil (zeV y) (8 * i))⟩]) _ by
  exact PL.at [1,2,3,7,38] (h1 0 (by omega)) rfl (by rw [Nat.mul_zero,hz];rfl)
 refine cnt 8 (fun i hi ih=> ?_) ?_
 ·refine PL.round ?_;refine PW.e ?_;refine PW.t ?_
  refine PW.skip ?_;(repeat refine PW.seq ?_);refine PW.block ?_
  refine PW.e ?_
  refine PW.e ?_
  (repeat refine PW.seq ?_);refine PW.block (PW.loop ?_)
  suffices h2:∀ l:Nat,l≤8→PL Tryz.prog _ _ [(1,.ptr H.length 0 0),(2,.ptr (H.length+1) 0 0),(3,.ptr (H.length+2) 0 0),(7,.ptr (H.length+3) 0 0),(8,.int .i64 (i:Int)),(38,.int .i64 (i:Int)),(41,.int .i64 (l:Int))] (H++[⟨151,0,is y⟩,⟨151,0,is zi⟩,⟨346,0,is (tsc 64)⟩,⟨349,0,is (fil (zeV y) (8 * i+l))⟩]) _ by
   exact PL.at [1,2,3,7,8,38,41] (h2 0 (by omega)) rfl rfl
  refine cnt 8 (fun l hlt ih=> ?_) ?_
  ·refine PL.round ?_;refine PW.e ?_;refine PW.t ?_
   refine PW.skip ?_;(repeat refine PW.seq ?_);refine PW.block ?_
   refine PW.e ?_
   refine PW.e ?_
   refine PW.e ?_
   (repeat refine PW.seq ?_);refine PW.block (PW.loop ?_)
   suffices h3:∀ j:Nat,j≤8→PL Tryz.prog _ _ [(1,.ptr H.length 0 0),(2,.ptr (H.length+1) 0 0),(3,.ptr (H.length+2) 0 0),(7,.ptr (H.length+3) 0 0),(8,.int .i64 (i:Int)),(9,.int .i64 (l:Int)),(10,.int .i64 (zfB (rtm y i l) j)),(38,.int .i64 (i:Int)),(41,.int .i64 (l:Int)),(44,.int .i64 (j:Int))] (H++[⟨151,0,is y⟩,⟨151,0,is zi⟩,⟨346,0,is (tsc 64)⟩,⟨349,0,is (fil (zeV y) (8 * i+l))⟩]) _ by
    exact PL.at [1,2,3,7,8,9,10,38,41,44] (h3 0 (by omega)) rfl rfl
   refine cnt 8 (fun j hj ih=> ?_) ?_
   ·refine PL.round ?_;refine PW.e ?_;refine PW.t ?_
    refine PW.skip ?_;(repeat refine PW.seq ?_);refine PW.block ?_
    refine PW.e ?_
    have g1:=znP hj hlt
    have b1:=zkA y i l j
    rw [rtm] at b1
    have b2:=zlJ (zkA y i l) (show j≤8 by omega)
    have cl:∀ v:Int,(if 2097152<(if v< -2097152 then -2097152 else v) then 2097152 else (if v< -2097152 then -2097152 else v))=znu v:=fun v=>by unfold znu;omega
    have e1:(8:Int) * (i:Int)+(j:Int)=((8 * i+j:Nat):Int):=by omega
    (repeat refine PW.seq ?_);refine PW.drawi [] [] [] [] mix (by kernel_rfl) (by simp<;>omega) fun K hK=> ?_
    simp (disch:=omega) only [go_sem,↓reduceIte,reduceCtorEq,zaF,zbq,zt,y3,hl,g1,e1,cl]
    refine hK _ _ ?_;clear hK K
    refine PW.e ?_
    exact PL.at [1,2,3,7,8,9,10,38,41,44] ih rfl rfl
   ·refine PL.round ?_;refine PW.e ?_;refine PW.u ?_
    refine PW.exit ?_
    have e1:(8:Int) * (i:Int)+(l:Int)=((8 * i+l:Nat):Int):=by omega
    have f1:=zcX (zeV y) (8 * i+l)
    have f2:=zfV (zeV y) (8 * i+l)
    rw [zlS y hlt,zkB] at f2
    refine PW.f (fun K k=>by simp (disch:=omega) only [go_sem,↓reduceIte,reduceCtorEq,e1,zt,f1,zbO,f2];exact k) ?_
    refine PW.e ?_
    exact PL.at [1,2,3,7,8,38,41] ih rfl rfl
  ·refine PL.round ?_;refine PW.e ?_;refine PW.u ?_
   refine PW.exit ?_
   refine PW.e ?_
   exact PL.at [1,2,3,7,38] ih rfl rfl
 refine PL.round ?_;refine PW.e ?_;refine PW.u ?_
 refine PW.exit ?_
 refine PW.e ?_
 refine PW.e ?_
 (repeat refine PW.seq ?_);refine PW.block (PW.loop ?_)
 have r3:=zcX (zeV y) 64
 suffices h1:∀ k:Nat,k≤8→PL Tryz.prog _ _ [(2,.ptr (H.length+1) 0 0),(3,.ptr (H.length+2) 0 0),(7,.ptr (H.length+3) 0 0),(12,.ptr (H.length+4) 0 0),(72,.int .i64 (k:Int))] (H++[⟨151,0,is y⟩,⟨151,0,is zi⟩,⟨346,0,is (tsc 64)⟩,⟨349,0,is (fil (zeV y) 64)⟩,⟨151,0,is (fil (zd8 y) (8 * k))⟩]) _ by
  exact PL.at [2,3,7,12,72] (h1 0 (by omega)) rfl (by rw [Nat.mul_zero,hz2];rfl)
 refine cnt 8 (fun k hk ih=> ?_) ?_
 ·refine PL.round ?_;refine PW.e ?_;refine PW.t ?_
  refine PW.skip ?_;(repeat refine PW.seq ?_);refine PW.block ?_
  refine PW.e ?_
  refine PW.e ?_
  (repeat refine PW.seq ?_);refine PW.block (PW.loop ?_)
  suffices h2:∀ l:Nat,l≤8→PL Tryz.prog _ _ [(2,.ptr (H.length+1) 0 0),(3,.ptr (H.length+2) 0 0),(7,.ptr (H.length+3) 0 0),(12,.ptr (H.length+4) 0 0),(13,.int .i64 (k:Int)),(72,.int .i64 (k:Int)),(75,.int .i64 (l:Int))] (H++[⟨151,0,is y⟩,⟨151,0,is zi⟩,⟨346,0,is (tsc 64)⟩,⟨349,0,is (fil (zeV y) 64)⟩,⟨151,0,is (fil (zd8 y) (8 * k+l))⟩]) _ by
   exact PL.at [2,3,7,12,13,72,75] (h2 0 (by omega)) rfl rfl
  refine cnt 8 (fun l hlt ih=> ?_) ?_
  ·refine PL.round ?_;refine PW.e ?_;refine PW.t ?_
   refine PW.skip ?_;(repeat refine PW.seq ?_);refine PW.block ?_
   refine PW.e ?_
   refine PW.e ?_
   refine PW.e ?_
   (repeat refine PW.seq ?_);refine PW.block (PW.loop ?_)
   suffices h3:∀ i:Nat,i≤8→PL Tryz.prog _ _ [(2,.ptr (H.length+1) 0 0),(3,.ptr (H.length+2) 0 0),(7,.ptr (H.length+3) 0 0),(12,.ptr (H.length+4) 0 0),(13,.int .i64 (k:Int)),(14,.int .i64 (l:Int)),(15,.int .i64 (zfB (ctm y k l) i)),(72,.int .i64 (k:Int)),(75,.int .i64 (l:Int)),(78,.int .i64 (i:Int))] (H++[⟨151,0,is y⟩,⟨151,0,is zi⟩,⟨346,0,is (tsc 64)⟩,⟨349,0,is (fil (zeV y) 64)⟩,⟨151,0,is (fil (zd8 y) (8 * k+l))⟩]) _ by
    exact PL.at [2,3,7,12,13,14,15,72,75,78] (h3 0 (by omega)) rfl rfl
   refine cnt 8 (fun i hi ih=> ?_) ?_
   ·refine PL.round ?_;refine PW.e ?_;refine PW.t ?_
    refine PW.skip ?_;(repeat refine PW.seq ?_);refine PW.block ?_
    refine PW.e ?_
    have g1:=znP hi hk
    have g2:=zuO (zeV y) (n:=64) (j:=8 * i+l) (by omega) (by omega)
    rw [zlS y hlt] at g2
    have b1:=zll y k l i
    rw [ctm] at b1
    have b2:=zlJ (zll y k l) (show i≤8 by omega)
    have e1:(8:Int) * (i:Int)+(l:Int)=((8 * i+l:Nat):Int):=by omega
    (repeat refine PW.seq ?_);refine PW.drawi [] [] [] [] mix (by kernel_rfl) (by simp<;>omega) fun K hK=> ?_
    simp (disch:=omega) only [go_sem,↓reduceIte,reduceCtorEq,zaF,zbq,zt,y3,r3,g1,g2,e1]
    refine hK _ _ ?_;clear hK K
    refine PW.e ?_
    exact PL.at [2,3,7,12,13,14,15,72,75,78] ih rfl rfl
   ·refine PL.round ?_;refine PW.e ?_;refine PW.u ?_
    refine PW.exit ?_
    have e1:(8:Int) * (k:Int)+(l:Int)=((8 * k+l:Nat):Int):=by omega
    have f1:=zcX (zd8 y) (8 * k+l)
    have f2:=zfV (zd8 y) (8 * k+l)
    rw [zsv y hlt] at f2
    have b2:=zmC y k l
    rw [zlm] at f2 b2
    have nn:=fun K=>zk0 (zfB (ctm y k l) 8) K (by omega)
    refine PW.f (fun K k=>by simp (disch:=omega) only [go_sem,↓reduceIte,reduceCtorEq,e1,zt,f1,zbO,f2];refine VCx.call (nn _) rfl ?_;simp (disch:=omega) only [go_sem,↓reduceIte,reduceCtorEq,e1,zt,f1,zbO,f2];exact k) ?_
    refine PW.e ?_
    exact PL.at [2,3,7,12,13,72,75] ih rfl rfl
  ·refine PL.round ?_;refine PW.e ?_;refine PW.u ?_
   refine PW.exit ?_
   refine PW.e ?_
   exact PL.at [2,3,7,12,72] ih rfl rfl
 refine PL.round ?_;refine PW.e ?_;refine PW.u ?_
 refine PW.exit ?_
 have c3:=zcX (zd8 y) 64
 have c4:(is (fil (zd8 y) 64)).length=64:=by rw [zt,c3]
 have c5:=zU (fil (zd8 y) 64)
 have c6:List.take 64 (is (fil (zd8 y) 64))=is (fil (zd8 y) 64):=List.take_of_length_le (by omega)
 have z3:(is zi).length=64:=by rw [zt,zhR]
 have z4:List.drop 64 (is zi)=[]:=List.drop_of_length_le (by omega)
 refine PW.f (fun K k=>by simp (disch:=omega) only [go_sem,↓reduceIte,reduceCtorEq,c4,c5,c6,z3,z4];exact k) ?_
 rw [hinv]
 refine PW.ret ⟨.agg (is (fil (zd8 y) 64)),by simp (disch:=omega) only [go_sem,↓reduceIte,reduceCtorEq,zd,zg,List.mapM_cons,List.mapM_nil,Option.pure_def,Option.bind_eq_bind,Option.bind_some,Array.toList,c4,c6],?_⟩
 exact Fin.base (.id (zB (zar _ _)))
end Go.Proofs.YtjgmdlcjbgiekaaGreatDoor.Sc
namespace Go.Proofs.YtjgmdlcjbgiekaaGreatDoor.Sc
set_option linter.all false
open Pm Go.RowKit
def zpQ (r:Option Res) (v:PV):Bool:=match r with
 | some (.val w [])=>eqb 20 w v
 | _=>false
theorem _root_.Go.Proofs.YtjgmdlcjbgiekaaGreatDoor.Pm.CallOk.evalV {P:Program} {H:za} (n:Nat) {f:FuncId} {args:List PV} {v:PV} (h:zpQ (zgZ P n (.call f args [])) v=true) (hs:∀ x∈args,Scoped 0 x):CallOk P f args H v H:=by
 refine CallOk.eval n ?_ hs
 unfold zpQ at h
 split at h
 ·rename_i he;rw [he,zfc 20 _ _ h]
 ·cases h
theorem hl7 (H:za) (b0 b1 b2 b3 b4 b5 b6:Blk):(H++[b0,b1,b2,b3,b4,b5,b6]).length=H.length+7:=by simp
theorem hl8 (H:za) (b0 b1 b2 b3 b4 b5 b6 b7:Blk):(H++[b0,b1,b2,b3,b4,b5,b6,b7]).length=H.length+8:=by simp
theorem hl9 (H:za) (b0 b1 b2 b3 b4 b5 b6 b7 b8:Blk):(H++[b0,b1,b2,b3,b4,b5,b6,b7,b8]).length=H.length+9:=by simp
theorem hl10 (H:za) (b0 b1 b2 b3 b4 b5 b6 b7 b8 b9:Blk):(H++[b0,b1,b2,b3,b4,b5,b6,b7,b8,b9]).length=H.length+10:=by simp
theorem hl11 (H:za) (b0 b1 b2 b3 b4 b5 b6 b7 b8 b9 b10:Blk):(H++[b0,b1,b2,b3,b4,b5,b6,b7,b8,b9,b10]).length=H.length+11:=by simp
theorem hl12 (H:za) (b0 b1 b2 b3 b4 b5 b6 b7 b8 b9 b10 b11:Blk):(H++[b0,b1,b2,b3,b4,b5,b6,b7,b8,b9,b10,b11]).length=H.length+12:=by simp
theorem hp7 (H K:za) (b0 b1 b2 b3 b4 b5 b6 b7:Blk):(H++b0::b1::b2::b3::b4::b5::b6::b7::K)[H.length+7]? =some b7:=by rw [List.getElem?_append_right (by omega)];simp
theorem hs7 (H K:za) (b0 b1 b2 b3 b4 b5 b6 b7 x:Blk):(H++b0::b1::b2::b3::b4::b5::b6::b7::K).set (H.length+7) x=H++b0::b1::b2::b3::b4::b5::b6::x::K:=by rw [List.set_append_right _ _ (by omega)];simp
theorem hp8 (H K:za) (b0 b1 b2 b3 b4 b5 b6 b7 b8:Blk):(H++b0::b1::b2::b3::b4::b5::b6::b7::b8::K)[H.length+8]? =some b8:=by rw [List.getElem?_append_right (by omega)];simp
theorem hs8 (H K:za) (b0 b1 b2 b3 b4 b5 b6 b7 b8 x:Blk):(H++b0::b1::b2::b3::b4::b5::b6::b7::b8::K).set (H.length+8) x=H++b0::b1::b2::b3::b4::b5::b6::b7::x::K:=by rw [List.set_append_right _ _ (by omega)];simp
theorem hp9 (H K:za) (b0 b1 b2 b3 b4 b5 b6 b7 b8 b9:Blk):(H++b0::b1::b2::b3::b4::b5::b6::b7::b8::b9::K)[H.length+9]? =some b9:=by rw [List.getElem?_append_right (by omega)];simp
theorem hs9 (H K:za) (b0 b1 b2 b3 b4 b5 b6 b7 b8 b9 x:Blk):(H++b0::b1::b2::b3::b4::b5::b6::b7::b8::b9::K).set (H.length+9) x=H++b0::b1::b2::b3::b4::b5::b6::b7::b8::x::K:=by rw [List.set_append_right _ _ (by omega)];simp
theorem hp10 (H K:za) (b0 b1 b2 b3 b4 b5 b6 b7 b8 b9 b10:Blk):(H++b0::b1::b2::b3::b4::b5::b6::b7::b8::b9::b10::K)[H.length+10]? =some b10:=by rw [List.getElem?_append_right (by omega)];simp
theorem hs10 (H K:za) (b0 b1 b2 b3 b4 b5 b6 b7 b8 b9 b10 x:Blk):(H++b0::b1::b2::b3::b4::b5::b6::b7::b8::b9::b10::K).set (H.length+10) x=H++b0::b1::b2::b3::b4::b5::b6::b7::b8::b9::x::K:=by rw [List.set_append_right _ _ (by omega)];simp
theorem hp11 (H K:za) (b0 b1 b2 b3 b4 b5 b6 b7 b8 b9 b10 b11:Blk):(H++b0::b1::b2::b3::b4::b5::b6::b7::b8::b9::b10::b11::K)[H.length+11]? =some b11:=by rw [List.getElem?_append_right (by omega)];simp
theorem hs11 (H K:za) (b0 b1 b2 b3 b4 b5 b6 b7 b8 b9 b10 b11 x:Blk):(H++b0::b1::b2::b3::b4::b5::b6::b7::b8::b9::b10::b11::K).set (H.length+11) x=H++b0::b1::b2::b3::b4::b5::b6::b7::b8::b9::b10::x::K:=by rw [List.set_append_right _ _ (by omega)];simp
attribute [go_sem] hl7 hl8 hl9 hl10 hl11 hl12 hp7 hs7 hp8 hs8 hp9 hs9 hp10 hs10 hp11 hs11
theorem asc {n:Nat} {xs:List PV} (h:∀ x∈xs,Scoped n x):∀ (j:Nat) (x:PV),xs[j]? =some x→Scoped n x:=fun j x hx=>h x (List.mem_of_getElem? hx)
end Go.Proofs.YtjgmdlcjbgiekaaGreatDoor.Sc
namespace Go.Proofs.YtjgmdlcjbgiekaaGreatDoor.Sc
set_option linter.all false
open Pm Ty Go.RowKit
theorem ztq (b:Bool):∀ x∈[PV.bool b],Scoped 0 x:=fun x hx=>by
 simp only [List.mem_cons,List.not_mem_nil,or_false] at hx
 subst hx;exact .bool _
theorem zoE (al:Bool) (H:za):CallOk Tryz.prog 243 [.bool al] H (.agg (is (sca al))) H:=by
 cases al
 ·exact CallOk.evalV 1000000 (by kernel_rfl) (ztq _)
 ·exact CallOk.evalV 1000000 (by kernel_rfl) (ztq _)
theorem zuH {l s:List Int} {n X:Nat} (hx:zh s n=(X:Int)):(frn l s n).set X (zh l n)=frn l s (n+1):=by rw [frn,hx,Int.toNat_natCast]
set_option maxHeartbeats 1600000 in
set_option maxRecDepth 100000 in
theorem zjY (l:List Int) (al:Bool) (hl:l.length=64) (H:za):CallOk Tryz.prog 211 [.agg (is l),.bool al] H (.agg (is (frs l al))) H:=by
 have hall:=zU l
 have sc:=fun K=>zoE al K
 have sl:=zrj al
 refine CallOk.body (F0:=[(0,.agg (is l)),(1,.bool al)]) Tryz.func211 rfl Tryz.ntmps211 Tryz.results211 rfl (by kernel_rfl) rfl ?_
 refine PW.f (fun K k=>by simp (disch:=omega) only [go_sem,↓reduceIte,reduceCtorEq,hall];exact k) ?_
 refine PW.e ?_
 refine PW.f (fun K k=>by simp (disch:=omega) only [go_sem,↓reduceIte,reduceCtorEq];refine VCx.call (sc _) rfl ?_;simp (disch:=omega) only [go_sem,↓reduceIte,reduceCtorEq];exact k) ?_
 (repeat refine PW.seq ?_);refine PW.block (PW.loop ?_)
 suffices h1:∀ p:Nat,p≤64→PL Tryz.prog _ _ [(2,.ptr H.length 0 0),(4,.ptr (H.length+1) 0 0),(5,.ptr (H.length+2) 0 0),(9,.agg (is (sca al))),(10,.int .i64 (p:Int))] (H++[⟨151,0,is l⟩,⟨151,0,is zi⟩,⟨151,0,is (frn l (sca al) p)⟩]) _ by
  exact PL.at [2,4,5,9,10] (h1 0 (by omega)) rfl rfl
 refine cnt 64 (fun p hp ih=> ?_) ?_
 ·refine PL.round ?_;refine PW.e ?_;refine PW.t ?_
  obtain ⟨b1,b2⟩:=ztZ al p
  obtain ⟨X,hX⟩:∃ X:Nat,zh (sca al) p=(X:Int):=⟨(zh (sca al) p).toNat,by omega⟩
  have f1:=zuH (l:=l) hX
  have f2:=zfT l (sca al) p
  refine PW.skip ?_;(repeat refine PW.seq ?_);refine PW.block ?_
  refine PW.f (fun K k=>by simp (disch:=omega) only [go_sem,↓reduceIte,reduceCtorEq,zbq,zt,sl,hX];exact k) ?_
  refine PW.f (fun K k=>by simp (disch:=omega) only [go_sem,↓reduceIte,reduceCtorEq,zbq,zt,hl,hX,f2,zbO,f1];exact k) ?_
  refine PW.e ?_
  exact PL.at [2,4,5,9,10] ih rfl rfl
 refine PL.round ?_;refine PW.e ?_;refine PW.u ?_
 refine PW.exit ?_
 have c3:=zfT l (sca al) 64
 have c4:(is (frn l (sca al) 64)).length=64:=by rw [zt,c3]
 have c5:=zU (frn l (sca al) 64)
 have c6:List.take 64 (is (frn l (sca al) 64))=is (frn l (sca al) 64):=List.take_of_length_le (by omega)
 have z3:(is zi).length=64:=by rw [zt,zhR]
 have z4:List.drop 64 (is zi)=[]:=List.drop_of_length_le (by omega)
 refine PW.f (fun K k=>by simp (disch:=omega) only [go_sem,↓reduceIte,reduceCtorEq,c4,c5,c6,z3,z4];exact k) ?_
 unfold frs
 refine PW.ret ⟨.agg (is (frn l (sca al) 64)),by simp (disch:=omega) only [go_sem,↓reduceIte,reduceCtorEq,zd,zg,List.mapM_cons,List.mapM_nil,Option.pure_def,Option.bind_eq_bind,Option.bind_some,Array.toList,c4,c6],?_⟩
 exact Fin.base (.id (zB (zar _ _)))
theorem or8 {i:Nat} (h:i<8):i=0∨i=1∨i=2∨i=3∨i=4∨i=5∨i=6∨i=7:=by omega
theorem sc2 (a b:Int):∀ x∈[PV.int .i64 a,PV.int .i64 b],Scoped 0 x:=fun x hx=>by
 simp only [List.mem_cons,List.not_mem_nil,or_false] at hx
 rcases hx with rfl|rfl<;>exact .int _ _
theorem sc1 (a:Int):∀ x∈[PV.int .i64 a],Scoped 0 x:=fun x hx=>by
 simp only [List.mem_cons,List.not_mem_nil,or_false] at hx
 subst hx;exact .int _ _
theorem zl6 (i:Nat) (H:za) (hi:i<8):CallOk Tryz.prog 309 [.int .i64 (i:Int)] H (.int .i64 (zh nrL i)) H:=by
 rcases or8 hi with rfl|rfl|rfl|rfl|rfl|rfl|rfl|rfl
 all_goals exact CallOk.eval 10000 (by kernel_rfl) (sc1 _)
theorem nr3 {i:Nat} (h:i<8):zh nrL i=512∨zh nrL i=578∨zh nrL i=320:=by
 have:∀ i,i<8→zh nrL i=512∨zh nrL i=578∨zh nrL i=320:=by decide
 exact this i h
def gnV (a b:Int):Int:=if a=512∧b=512 then 32 else if (a=512∧b=578)∨(a=578∧b=512) then 34 else if (a=512∧b=320)∨(a=320∧b=512) then 25 else if a=578∧b=578 then 36 else if (a=578∧b=320)∨(a=320∧b=578) then 27 else 20
theorem zuD {k:Nat} (h:k<64):gnV (zh nrL (k / 8)) (zh nrL (k%8))=zh gnL k:=by
 have:∀ k,k<64→gnV (zh nrL (k / 8)) (zh nrL (k%8))=zh gnL k:=by decide+kernel
 exact this k h
theorem zr8 {a b:Int} (ha:a=512∨a=578∨a=320) (hb:b=512∨b=578∨b=320) (H:za):CallOk Tryz.prog 308 [.int .i64 a,.int .i64 b] H (.int .i64 (gnV a b)) H:=by
 rcases ha with rfl|rfl|rfl<;>rcases hb with rfl|rfl|rfl
 all_goals exact CallOk.eval 10000 (by kernel_rfl) (sc2 _ _)
def qnB (q:Int):Bool:=decide (1≤q)&&decide (q≤31)
theorem zs6 (q:Int) (H:za):CallOk Tryz.prog 287 [.int .i64 q] H (.bool (qnB q)) H:=by
 refine CallOk.body (F0:=[(0,.int .i64 q)]) Tryz.func287 rfl Tryz.ntmps287 Tryz.results287 rfl (by kernel_rfl) rfl ?_
 (repeat' (first|refine PW.seq ?_|refine PW.skip ?_|refine PW.block ?_|((first|refine PW.rg rfl fun K hK=> ?_|refine PW.draw mix (by kernel_rfl) fun K hK=> ?_);simp (disch:=omega) only [go_sem,↓reduceIte,reduceCtorEq])|((first|refine zj ?_ ?_|refine zn ?_ ?_|refine And.intro ?_ ?_)<;>intro h<;>(try simp only [nqb] at h)<;>simp (disch:=omega) only [go_sem,↓reduceIte,reduceCtorEq,h])|(refine hK _ _ ?_;clear hK K)|(refine PW.cond (t:=_) rfl (fun h=> ?_) (fun h=> ?_)<;>(try (cases h;done))<;>(try simp only [nqb] at h))))
 all_goals ((refine PW.ret ⟨_,rfl,?_⟩;first|refine .inl ⟨?_,rfl⟩|refine Fin.base (.id' ?_ (.bool _))|refine Fin.base (.id' ?_ (.int _ _)));(simp_all [qnB,slot,Nat.beq]<;>first|rfl|omega|(rw [Bool.eq_iff_iff];simp;done)|(rw [Bool.eq_iff_iff];simp;omega)))
theorem zoQ {q:Int} (h:qnB q=true):1≤q∧q≤31:=by simpa [qnB] using h
theorem zrM {a b:Int} {A B:Int} (ha:0≤a∧a≤A) (hb:0≤b∧b≤B):0≤a * b∧a * b≤A * B:=⟨Int.mul_nonneg ha.1 hb.1,Int.mul_le_mul ha.2 hb.2 hb.1 (by omega)⟩
theorem zrb (w q:Int) (k:Nat) (H:za) (hw:8≤w∧w≤255) (hq:qnB q=true) (hk:k<64):CallOk Tryz.prog 288 [.int .i64 w,.int .i64 q,.int .i64 (k:Int)] H (.int .i64 (w * q * zh gnL k)) H:=by
 have vq:=fun H=>zs6 q H
 rw [hq] at vq
 have q1:=zoQ hq
 have n1:=fun H=>zl6 (k / 8) H (by omega)
 have n2:=fun H=>zl6 (k%8) H (by omega)
 have gk:=fun H=>zr8 (nr3 (show k / 8<8 by omega)) (nr3 (show k%8<8 by omega)) H
 rw [zuD hk] at gk
 have b1:=zrM (a:=w) (b:=q) (A:=255) (B:=31) (by omega) (by omega)
 have b2:=zrM (a:=w * q) (b:=zh gnL k) (A:=7905) (B:=36) (by omega) (ztj k)
 have d1:(k:Int).tdiv 8=((k / 8:Nat):Int):=by rw [zx _ _ (by omega)];omega
 have d2:(k:Int).tmod 8=((k%8:Nat):Int):=by rw [zV _ _ (by omega)];omega
 refine CallOk.body (F0:=[(0,.int .i64 w),(1,.int .i64 q),(2,.int .i64 (k:Int))]) Tryz.func288 rfl Tryz.ntmps288 Tryz.results288 rfl (by kernel_rfl) rfl ?_
 refine PW.e ?_
 (repeat refine PW.seq ?_)
 refine PW.rgv (P:=Tryz.prog) [0,1,2] 25 (.bool false) ?_ ?_ ?_
 ·rfl
 ·simp (disch:=omega) only [go_sem,↓reduceIte,reduceCtorEq];(repeat' (first|((first|refine zj ?_ ?_|refine And.intro ?_ ?_)<;>intro h<;>(try simp only [nqb] at h)<;>simp (disch:=omega) only [go_sem,↓reduceIte,reduceCtorEq,h])|((first|refine VCx.call (vq _) rfl ?_);simp (disch:=omega) only [go_sem,↓reduceIte,reduceCtorEq])))
  all_goals (simp_all [slot,Nat.beq]<;>first|rfl|omega|(rw [Bool.eq_iff_iff];simp;done)|(rw [Bool.eq_iff_iff];simp;omega))
 refine PW.us ?_
 (repeat refine PW.seq ?_);refine PW.rg rfl fun K hK=> ?_;simp (disch:=omega) only [go_sem,↓reduceIte,reduceCtorEq,d1,d2]
 (repeat' (first|((first|refine zj ?_ ?_|refine And.intro ?_ ?_)<;>intro h<;>(try simp only [nqb] at h)<;>simp (disch:=omega) only [go_sem,↓reduceIte,reduceCtorEq,d1,d2,h])|((first|refine VCx.call (n1 _) rfl ?_|refine VCx.call (n2 _) rfl ?_|refine VCx.call (gk _) rfl ?_);simp (disch:=omega) only [go_sem,↓reduceIte,reduceCtorEq,d1,d2])))
 refine hK _ _ ?_;clear hK K
 (refine PW.ret ⟨_,rfl,?_⟩;first|refine .inl ⟨?_,rfl⟩|refine Fin.base (.id' ?_ (.bool _))|refine Fin.base (.id' ?_ (.int _ _)))
 rfl
def lrg (l:List Int):Prop:=∀ i,-4095≤zh l i∧zh l i≤4095
def dqf (l:List Int) (m:List UInt8) (q:Int) (k:Nat):Int:=zh l k * (byt m k * q * zh gnL k)
theorem zsp (l:List Int) (m:List UInt8) (q:Int):fil (dqf l m q) 64=dqz l m q:=zlf _
theorem zwk {m:List UInt8} (h:zbH m=true) {k:Nat} (hk:k<m.length):8≤byt m k:=by
 unfold zbH at h
 rw [List.all_eq_true] at h
 have:=of_decide_eq_true (h m[k] (List.getElem_mem hk))
 simp only [byt,List.getD_eq_getElem?_getD,List.getElem?_eq_getElem hk,Option.getD_some]
 omega
theorem zuU {l:List Int} {m:List UInt8} {q:Int} (hl:lrg l) (hq:1≤q∧q≤31) (k:Nat):(0≤byt m k * q * zh gnL k∧byt m k * q * zh gnL k≤284580)∧-1165355100≤dqf l m q k∧dqf l m q k≤1165355100:=by
 have h1:=zaa m k
 have b1:=zrM (a:=byt m k) (b:=q) (A:=255) (B:=31) (by omega) (by omega)
 have b2:=zrM (a:=byt m k * q) (b:=zh gnL k) (A:=7905) (B:=36) (by omega) (ztj k)
 refine ⟨by omega,?_⟩
 exact zgN (hl k) (show -284580≤_∧_≤(284580:Int) by omega)
set_option maxHeartbeats 1600000 in
set_option maxRecDepth 100000 in
theorem zlk (l:List Int) (m:List UInt8) (q:Int) (hl:l.length=64) (hlr:lrg l) (hm:m.length=64) (hmx:zbH m=true) (hq:qnB q=true) (H:za):
  CallOk Tryz.prog 210 [.agg (is l),.agg (bs m),.int .i64 q] H (.tup [.agg (is (dqz l m q)),.int .i64 0]) H:=by
 have hall:=zU l
 have hall2:(bs m).all PV.cell=true:=by simp [bs,PV.cell]
 have vm:=fun K=>zjN m K hm
 rw [hmx] at vm
 have vq:=fun K=>zs6 q K
 rw [hq] at vq
 have q1:=zoQ hq
 have hz:=zmt (dqf l m q)
 have tkm:List.take 64 (bs m)=bs m:=List.take_of_length_le (by rw [ze];omega)
 have tkl:List.take 64 (is l)=is l:=List.take_of_length_le (by rw [zt];omega)
 refine CallOk.body (F0:=[(0,.agg (is l)),(1,.agg (bs m)),(2,.int .i64 q)]) Tryz.func210 rfl Tryz.ntmps210 Tryz.results210 rfl (by kernel_rfl) rfl ?_
 refine PW.f (fun K k=>by simp (disch:=omega) only [go_sem,↓reduceIte,reduceCtorEq,hall,hall2];exact k) ?_
 (repeat refine PW.seq ?_)
 refine PW.rgv (P:=Tryz.prog) [2,3,4,6,7] 18 (.bool false) ?_ ?_ ?_
 ·rfl
 ·simp (disch:=omega) only [go_sem,↓reduceIte,reduceCtorEq,ze,tkm];(repeat' (first|((first|refine zj ?_ ?_|refine And.intro ?_ ?_)<;>intro h<;>(try simp only [nqb] at h)<;>simp (disch:=omega) only [go_sem,↓reduceIte,reduceCtorEq,ze,tkm,h])|((first|refine VCx.call (vm _) rfl ?_|refine VCx.call (vq _) rfl ?_);simp (disch:=omega) only [go_sem,↓reduceIte,reduceCtorEq,ze,tkm])))
  all_goals (simp_all [slot,Nat.beq]<;>first|rfl|omega|(rw [Bool.eq_iff_iff];simp;done)|(rw [Bool.eq_iff_iff];simp;omega))
 refine PW.us ?_
 refine PW.e ?_
 refine PW.f (fun K k=>by simp (disch:=omega) only [go_sem,↓reduceIte,reduceCtorEq,zt,tkl];exact k) ?_
 (repeat refine PW.seq ?_);refine PW.block (PW.loop ?_)
 suffices h1:∀ k:Nat,k≤64→PL Tryz.prog _ _ [(2,.int .i64 q),(4,.ptr (H.length+1) 0 0),(6,.ptr (H.length+2) 0 0),(8,.ptr (H.length+3) 0 0),(20,.agg (is l)),(21,.int .i64 (k:Int))] (H++[⟨151,0,is l⟩,⟨27,0,bs m⟩,⟨151,0,is zi⟩,⟨151,0,is (fil (dqf l m q) k)⟩]) _ by
  exact PL.at [2,4,6,8,20,21] (h1 0 (by omega)) rfl (by rw [hz];rfl)
 refine cnt 64 (fun k hk ih=> ?_) ?_
 ·refine PL.round ?_;refine PW.e ?_;refine PW.t ?_
  obtain ⟨b1,b2⟩:=hlr k
  refine PW.skip ?_;(repeat refine PW.seq ?_);refine PW.block ?_
  refine PW.f (fun K k=>by simp (disch:=omega) only [go_sem,↓reduceIte,reduceCtorEq,zbq,zt,hl];exact k) ?_
  (repeat refine PW.seq ?_)
  refine PW.rgv (P:=Tryz.prog) [2,4,6,8,9,10,20,21] 30 (.bool false) ?_ ?_ ?_
  ·rfl
  ·simp (disch:=omega) only [go_sem,↓reduceIte,reduceCtorEq];(repeat' ((first|refine zj ?_ ?_|refine zn ?_ ?_|refine zN ?_ ?_|refine VOh_cond ?_ ?_|refine zM ?_ ?_|refine And.intro ?_ ?_)<;>intro h<;>(try simp only [nqb] at h)<;>simp (disch:=omega) only [go_sem,↓reduceIte,reduceCtorEq,h]))
   all_goals (simp_all [slot,Nat.beq]<;>first|rfl|omega|(rw [Bool.eq_iff_iff];simp;done)|(rw [Bool.eq_iff_iff];simp;omega))
  refine PW.us ?_
  have m8:=zwk hmx (show k<m.length by omega)
  have m9:=zaa m k
  have st:=fun K=>zrb (byt m k) q k K ⟨m8,m9.2⟩ hq hk
  obtain ⟨d1,d2⟩:=zuU (m:=m) hlr q1 k
  rw [dqf] at d2
  have f1:=zfV (dqf l m q) k
  rw [dqf] at f1
  have f2:=zcX (dqf l m q) k
  refine PW.f (fun K k=>by simp (disch:=omega) only [go_sem,↓reduceIte,reduceCtorEq,zbr,ze,hm,zt,f2,zbO,f1];refine VCx.call (st _) rfl ?_;simp (disch:=omega) only [go_sem,↓reduceIte,reduceCtorEq,zbr,ze,hm,zt,f2,zbO,f1];exact k) ?_
  refine PW.e ?_
  exact PL.at [2,4,6,8,20,21] ih rfl rfl
 refine PL.round ?_;refine PW.e ?_;refine PW.u ?_
 refine PW.exit ?_
 have c3:=zcX (dqf l m q) 64
 have c4:(is (fil (dqf l m q) 64)).length=64:=by rw [zt,c3]
 have c5:=zU (fil (dqf l m q) 64)
 have c6:List.take 64 (is (fil (dqf l m q) 64))=is (fil (dqf l m q) 64):=List.take_of_length_le (by omega)
 have z3:(is zi).length=64:=by rw [zt,zhR]
 have z4:List.drop 64 (is zi)=[]:=List.drop_of_length_le (by omega)
 refine PW.f (fun K k=>by simp (disch:=omega) only [go_sem,↓reduceIte,reduceCtorEq,c4,c5,c6,z3,z4];exact k) ?_
 rw [←zsp]
 refine PW.ret ⟨.tup [.agg (is (fil (dqf l m q) 64)),.int .i64 0],by simp (disch:=omega) only [go_sem,↓reduceIte,reduceCtorEq,zd,zg,List.mapM_cons,List.mapM_nil,Option.pure_def,Option.bind_eq_bind,Option.bind_some,Array.toList,c4,c6],?_⟩
 refine Fin.base (.id (.tup (asc fun x hx=> ?_)))
 simp only [List.mem_cons,List.not_mem_nil,or_false] at hx
 rcases hx with rfl|rfl
 ·exact zB (zar _ _)
 ·exact .int _ _
end Go.Proofs.YtjgmdlcjbgiekaaGreatDoor.Sc
