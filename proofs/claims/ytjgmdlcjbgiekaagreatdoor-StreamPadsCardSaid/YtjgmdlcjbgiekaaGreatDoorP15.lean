/-
  Parts of the proof, put together in one text. No condition.
-/
import Derived.Test.YtjgmdlcjbgiekaaGreatDoorP14
namespace Go.Proofs.YtjgmdlcjbgiekaaGreatDoor.Sc
set_option linter.all false
open Pm Ty Go.RowKit
theorem cnt {R:Nat→Prop} (n:Nat) (hs:∀ j,j<n→R (j+1)→R j) (hl:R n):∀ j,j≤n→R j:=fun j hj=>by
 induction hd:n - j using Nat.strongRecOn generalizing j with
 | _ d ih=>
  by_cases h:j<n
  ·exact hs j h (ih (n - (j+1)) (by omega) (j+1) (by omega) rfl)
  ·rw [show j=n by omega];exact hl
theorem zgQ {j n:Nat} (h:j<n):decide ((j:Int)<(n:Int))=true:=decide_eq_true (by omega)
theorem zit (n:Nat):decide ((n:Int)<(n:Int))=false:=decide_eq_false (by omega)
theorem zne (H:za):CallOk Tryz.prog 291 [] H (.agg (is tmL)) H:=CallOk.eval 1000 (by kernel_rfl) (fun x hx=>by cases hx)
theorem zpm (H:za):CallOk Tryz.prog 292 [] H (.agg (is nrL)) H:=CallOk.eval 1000 (by kernel_rfl) (fun x hx=>by cases hx)
theorem zkX (s:Int) (H:za) (hs: -1000000000000000000≤s∧s≤1000000000000000000):CallOk Tryz.prog 293 [.int .i64 s] H (.int .i64 (nst s)) H:=by
 have h1:=zec (2 * s+547363225600) 1094726451200
 have h2:=flr (2 * s+547363225600) 1094726451200 (by omega)
 rw [←nst] at h2
 refine CallOk.body (F0:=[(0,.int .i64 s)]) Tryz.func293 rfl Tryz.ntmps293 Tryz.results293 rfl (by kernel_rfl) rfl ?_
 refine PW.e ?_
 refine PW.e ?_
 refine PW.f (fun K k=>by simp (disch:=omega) only [go_sem,↓reduceIte,reduceCtorEq,zkk];exact k) ?_
 refine PW.e ?_
 (repeat refine PW.seq ?_);refine PW.cond (t:=_) rfl (fun h=> ?_) (fun h=> ?_)
 ·have h3:(2 * s+547363225600).tmod 1094726451200<0:=by simpa using h
  rw [if_pos h3] at h2
  refine PW.e ?_
  refine PW.e ?_
  (refine PW.ret ⟨_,rfl,?_⟩;first|refine .inl ⟨?_,rfl⟩|refine Fin.base (.id' ?_ (.bool _))|refine Fin.base (.id' ?_ (.int _ _)))
  exact congrArg _ h2
 ·have h3:¬ (2 * s+547363225600).tmod 1094726451200<0:=by simpa using h
  rw [if_neg h3] at h2
  refine PW.skip ?_
  refine PW.e ?_
  (refine PW.ret ⟨_,rfl,?_⟩;first|refine .inl ⟨?_,rfl⟩|refine Fin.base (.id' ?_ (.bool _))|refine Fin.base (.id' ?_ (.int _ _)))
  exact congrArg _ h2
def tsc (p:Nat):List Int:=rgI 64 fun j=>if j<p then tS (j / 8) (j%8) else zh tmL j
theorem zvy:tsc 0=tmL:=by decide+kernel
theorem zlu (p:Nat):(tsc p).length=64:=zbs _ _
theorem ztJ {i k:Nat} (hi:i<8) (hk:k<8):zh (tsc (8 * i+k)) (i * 8+k)=zh tmL (8 * i+k):=by
 rw [tsc,zbI _ (by omega),if_neg (by omega),Nat.mul_comm]
theorem zqX {i k:Nat} (hi:i<8) (hk:k<8):(tsc (8 * i+k)).set (i * 8+k) (zh tmL (8 * i+k) * zh msL i)=tsc (8 * i+(k+1)):=by
 rw [tsc,zh6]
 refine zdw fun j hj=> ?_
 by_cases h1:j=i * 8+k
 ·rw [if_pos h1,if_pos (by omega),tS,bas]
  subst h1
  congr 2<;>omega
 ·rw [if_neg h1]
  by_cases h2:j<8 * i+k
  ·rw [if_pos h2,if_pos (by omega)]
  ·rw [if_neg h2,if_neg (by omega)]
theorem znN {i k:Nat} (hi:i<8) (hk:k<8):zh (tsc 64) (i * 8+k)=tS i k:=by
 rw [tsc,zbI _ (by omega),if_pos (by omega)]
 congr 1<;>omega
theorem zwr {i:Nat} (hi:i<8):zh nrL i≠0∧Int.tdiv 739840 (zh nrL i)=zh msL i∧-1000≤zh nrL i∧zh nrL i≤1000:=by
 have:∀ i,i<8→zh nrL i≠0∧Int.tdiv 739840 (zh nrL i)=zh msL i∧-1000≤zh nrL i∧zh nrL i≤1000:=by decide
 exact this i hi
def fil (f:Nat→Int) (n:Nat):List Int:=rgI 64 fun j=>if j<n then f j else 0
theorem zcW (f:Nat→Int) (n:Nat):(fil f n).length=64:=zbs _ _
def zi:List Int:=List.replicate 64 0
theorem zhR:zi.length=64:=List.length_replicate
theorem zml (f:Nat→Int):fil f 0=zi:=by
 unfold zi
 apply List.ext_getElem
 ·simp [fil,rgI]
 intro i h1 h2
 rw [List.getElem_replicate]
 simp [fil,rgI]
theorem zfV (f:Nat→Int) (n:Nat):(fil f n).set n (f n)=fil f (n+1):=by
 rw [fil,zh6]
 refine zdw fun j hj=> ?_
 by_cases h1:j=n
 ·rw [if_pos h1,if_pos (by omega),h1]
 ·rw [if_neg h1]
  by_cases h2:j<n
  ·rw [if_pos h2,if_pos (by omega)]
  ·rw [if_neg h2,if_neg (by omega)]
theorem zlb (f:Nat→Int):fil f 64=rgI 64 f:=zdw fun j hj=>by rw [if_pos hj]
theorem zuP (f:Nat→Int) {n j:Nat} (hj:j<n) (h:j<64):zh (fil f n) j=f j:=by rw [fil,zbI _ h,if_pos hj]
def zeW (y:List Int) (p:Nat):Int:=zkz y (p / 8) (p%8)
theorem zlK (y:List Int) {i l:Nat} (hl:l<8):zeW y (8 * i+l)=zkz y i l:=by unfold zeW;congr 1<;>omega
def zd3 (y:List Int) (p:Nat):Int:=nst (zlh y (p / 8) (p%8))
theorem zsy (y:List Int) {k l:Nat} (hl:l<8):zd3 y (8 * k+l)=nst (zlh y k l):=by unfold zd3;congr 2<;>omega
theorem zlC {f:Nat→Int} {B:Int} (h:∀ j,-B≤f j∧f j≤B) {n:Nat} (hn:n≤8): -(8 * B)≤zfC f n∧zfC f n≤8 * B:=by
 have h0:=h 0
 have h1:=zfM h n
 have h2:=zgM (a:=(n:Int)) (b:=B) (A:=8) (B:=B) (by omega) (by omega)
 omega
set_option maxHeartbeats 4000000 in
set_option maxRecDepth 100000 in
theorem zk4 (y:List Int) (hl:y.length=64) (H:za):CallOk Tryz.prog 213 [.agg (is y)] H (.agg (is (inv y))) H:=by
 have hinv:inv y=fil (zd3 y) 64:=(zlb _).symm
 have hall:=zW y
 have hz:=zml (zeW y)
 have hz2:=zml (zd3 y)
 refine CallOk.body (F0:=[(0,.agg (is y))]) Tryz.func213 rfl Tryz.ntmps213 Tryz.results213 rfl (by kernel_rfl) rfl ?_
 refine PW.f (fun K k=>by simp (disch:=omega) only [go_sem,↓reduceIte,reduceCtorEq,hall];exact k) ?_
 refine PW.f (fun K k=>by simp (disch:=omega) only [go_sem,↓reduceIte,reduceCtorEq];refine VCx.call (zne _) rfl ?_;simp (disch:=omega) only [go_sem,↓reduceIte,reduceCtorEq];exact k) ?_
 refine PW.f (fun K k=>by simp (disch:=omega) only [go_sem,↓reduceIte,reduceCtorEq];refine VCx.call (zpm _) rfl ?_;simp (disch:=omega) only [go_sem,↓reduceIte,reduceCtorEq];exact k) ?_
 (repeat refine PW.seq ?_);refine PW.block (PW.loop ?_)
 suffices h1:∀ i:Nat,i≤8→PL Tryz.prog _ _ [(1,.ptr H.length 0 0),(2,.ptr (H.length+1) 0 0),(3,.ptr (H.length+2) 0 0),(18,.agg (is nrL)),(19,.int .i64 (i:Int))] (H++[⟨151,0,is y⟩,⟨151,0,is zi⟩,⟨346,0,is (tsc (8 * i))⟩]) _ by
  exact PL.at [1,2,3,18,19] (h1 0 (by omega)) rfl (by rw [Nat.mul_zero,zvy];rfl)
 refine cnt 8 (fun i hi ih=> ?_) ?_
 ·refine PL.round ?_;refine PW.e ?_;(repeat refine PW.seq ?_);refine PW.cond (t:=_) rfl (fun h=> ?_) (fun h=> ?_)
  rotate_left
  ·cases h
  refine PW.skip ?_;(repeat refine PW.seq ?_);refine PW.block ?_
  have nl:(is nrL).length=8:=rfl
  have nl2:nrL.length=8:=rfl
  obtain ⟨m1,m2,m3,m4⟩:=zwr hi
  refine PW.f (fun K k=>by simp (disch:=omega) only [go_sem,↓reduceIte,reduceCtorEq,zbq,nl,nl2];exact k) ?_
  refine PW.e ?_
  (repeat refine PW.seq ?_);refine PW.block (PW.loop ?_)
  suffices h2:∀ k:Nat,k≤8→PL Tryz.prog _ _ [(1,.ptr H.length 0 0),(2,.ptr (H.length+1) 0 0),(3,.ptr (H.length+2) 0 0),(4,.int .i64 (i:Int)),(5,.int .i64 (zh nrL i)),(18,.agg (is nrL)),(19,.int .i64 (i:Int)),(23,.int .i64 (k:Int))] (H++[⟨151,0,is y⟩,⟨151,0,is zi⟩,⟨346,0,is (tsc (8 * i+k))⟩]) _ by
   exact PL.at [1,2,3,4,5,18,19,23] (h2 0 (by omega)) rfl rfl
  refine cnt 8 (fun k hk ih=> ?_) ?_
  ·refine PL.round ?_;refine PW.e ?_;(repeat refine PW.seq ?_);refine PW.cond (t:=_) rfl (fun h=> ?_) (fun h=> ?_)
   rotate_left
   ·cases h
   have b1:=zn6 i k
   rw [tS,bas] at b1
   have t1:=ztJ hi hk
   have t2:=zqX hi hk
   have t3:=zlu (8 * i+k)
   have b2:=ztf i
   refine PW.skip ?_;(repeat refine PW.seq ?_);refine PW.block ?_
   refine PW.e ?_
   (repeat refine PW.seq ?_);refine PW.drawi [H.length+2] [(3,[0]),(28,[0]),(29,[0]),(34,[0]),(35,[0])] [] [] mix (by kernel_rfl) (by simp<;>omega) fun K hK=> ?_
   simp (disch:=omega) only [go_sem,↓reduceIte,reduceCtorEq,zaH,zbq,zu,t3,t1,m1,m2,zbJ,t2]
   refine hK _ _ ?_;clear hK K
   refine PW.e ?_
   exact PL.at [1,2,3,4,5,18,19,23] ih rfl rfl
  ·refine PL.round ?_;refine PW.e ?_;(repeat refine PW.seq ?_);refine PW.cond (t:=_) rfl (fun h=> ?_) (fun h=> ?_)
   ·cases h
   refine PW.exit ?_
   refine PW.e ?_
   exact PL.at [1,2,3,18,19] ih rfl rfl
 refine PL.round ?_;refine PW.e ?_;(repeat refine PW.seq ?_);refine PW.cond (t:=_) rfl (fun h=> ?_) (fun h=> ?_)
 ·cases h
 refine PW.exit ?_
 refine PW.e ?_
 refine PW.e ?_
 (repeat refine PW.seq ?_);refine PW.block (PW.loop ?_)
 have y3:=zlu 64
 suffices h1:∀ i:Nat,i≤8→PL Tryz.prog _ _ [(1,.ptr H.length 0 0),(2,.ptr (H.length+1) 0 0),(3,.ptr (H.length+2) 0 0),(7,.ptr (H.length+3) 0 0),(38,.int .i64 (i:Int))] (H++[⟨151,0,is y⟩,⟨151,0,is zi⟩,⟨346,0,is (tsc 64)⟩,⟨349,0,is (fil (zeW y) (8 * i))⟩]) _ by
  exact PL.at [1,2,3,7,38] (h1 0 (by omega)) rfl (by rw [Nat.mul_zero,hz];rfl)
 refine cnt 8 (fun i hi ih=> ?_) ?_
 ·refine PL.round ?_;refine PW.e ?_;(repeat refine PW.seq ?_);refine PW.cond (t:=_) rfl (fun h=> ?_) (fun h=> ?_)
  rotate_left
  ·cases h
  refine PW.skip ?_;(repeat refine PW.seq ?_);refine PW.block ?_
  refine PW.e ?_
  refine PW.e ?_
  (repeat refine PW.seq ?_);refine PW.block (PW.loop ?_)
  suffices h2:∀ l:Nat,l≤8→PL Tryz.prog _ _ [(1,.ptr H.length 0 0),(2,.ptr (H.length+1) 0 0),(3,.ptr (H.length+2) 0 0),(7,.ptr (H.length+3) 0 0),(8,.int .i64 (i:Int)),(38,.int .i64 (i:Int)),(41,.int .i64 (l:Int))] (H++[⟨151,0,is y⟩,⟨151,0,is zi⟩,⟨346,0,is (tsc 64)⟩,⟨349,0,is (fil (zeW y) (8 * i+l))⟩]) _ by
   exact PL.at [1,2,3,7,8,38,41] (h2 0 (by omega)) rfl rfl
  refine cnt 8 (fun l hlt ih=> ?_) ?_
  ·refine PL.round ?_;refine PW.e ?_;(repeat refine PW.seq ?_);refine PW.cond (t:=_) rfl (fun h=> ?_) (fun h=> ?_)
   rotate_left
   ·cases h
   refine PW.skip ?_;(repeat refine PW.seq ?_);refine PW.block ?_
   refine PW.e ?_
   refine PW.e ?_
   refine PW.e ?_
   (repeat refine PW.seq ?_);refine PW.block (PW.loop ?_)
   suffices h3:∀ j:Nat,j≤8→PL Tryz.prog _ _ [(1,.ptr H.length 0 0),(2,.ptr (H.length+1) 0 0),(3,.ptr (H.length+2) 0 0),(7,.ptr (H.length+3) 0 0),(8,.int .i64 (i:Int)),(9,.int .i64 (l:Int)),(10,.int .i64 (zfC (rtm y i l) j)),(38,.int .i64 (i:Int)),(41,.int .i64 (l:Int)),(44,.int .i64 (j:Int))] (H++[⟨151,0,is y⟩,⟨151,0,is zi⟩,⟨346,0,is (tsc 64)⟩,⟨349,0,is (fil (zeW y) (8 * i+l))⟩]) _ by
    exact PL.at [1,2,3,7,8,9,10,38,41,44] (h3 0 (by omega)) rfl rfl
   refine cnt 8 (fun j hj ih=> ?_) ?_
   ·refine PL.round ?_;refine PW.e ?_;(repeat refine PW.seq ?_);refine PW.cond (t:=_) rfl (fun h=> ?_) (fun h=> ?_)
    rotate_left
    ·cases h
    refine PW.skip ?_;(repeat refine PW.seq ?_);refine PW.block ?_
    refine PW.e ?_
    have g1:=znN hj hlt
    have b1:=zky y i l j
    rw [rtm] at b1
    have b2:=zlC (zky y i l) (show j≤8 by omega)
    have cl:∀ v:Int,(if 2097152<(if v< -2097152 then -2097152 else v) then 2097152 else (if v< -2097152 then -2097152 else v))=znu v:=fun v=>by unfold znu;omega
    have e1:(8:Int) * (i:Int)+(j:Int)=((8 * i+j:Nat):Int):=by omega
    (repeat refine PW.seq ?_);refine PW.drawi [] [] [] [] mix (by kernel_rfl) (by simp<;>omega) fun K hK=> ?_
    simp (disch:=omega) only [go_sem,↓reduceIte,reduceCtorEq,zaH,zbq,zu,y3,hl,g1,e1,cl]
    refine hK _ _ ?_;clear hK K
    refine PW.e ?_
    exact PL.at [1,2,3,7,8,9,10,38,41,44] ih rfl rfl
   ·refine PL.round ?_;refine PW.e ?_;(repeat refine PW.seq ?_);refine PW.cond (t:=_) rfl (fun h=> ?_) (fun h=> ?_)
    ·cases h
    refine PW.exit ?_
    have e1:(8:Int) * (i:Int)+(l:Int)=((8 * i+l:Nat):Int):=by omega
    have f1:=zcW (zeW y) (8 * i+l)
    have f2:=zfV (zeW y) (8 * i+l)
    rw [zlK y hlt,zkz] at f2
    refine PW.f (fun K k=>by simp (disch:=omega) only [go_sem,↓reduceIte,reduceCtorEq,e1,zu,f1,zbJ,f2];exact k) ?_
    refine PW.e ?_
    exact PL.at [1,2,3,7,8,38,41] ih rfl rfl
  ·refine PL.round ?_;refine PW.e ?_;(repeat refine PW.seq ?_);refine PW.cond (t:=_) rfl (fun h=> ?_) (fun h=> ?_)
   ·cases h
   refine PW.exit ?_
   refine PW.e ?_
   exact PL.at [1,2,3,7,38] ih rfl rfl
 refine PL.round ?_;refine PW.e ?_;(repeat refine PW.seq ?_);refine PW.cond (t:=_) rfl (fun h=> ?_) (fun h=> ?_)
 ·cases h
 refine PW.exit ?_
 refine PW.e ?_
 refine PW.e ?_
 (repeat refine PW.seq ?_);refine PW.block (PW.loop ?_)
 have r3:=zcW (zeW y) 64
 suffices h1:∀ k:Nat,k≤8→PL Tryz.prog _ _ [(2,.ptr (H.length+1) 0 0),(3,.ptr (H.length+2) 0 0),(7,.ptr (H.length+3) 0 0),(12,.ptr (H.length+4) 0 0),(72,.int .i64 (k:Int))] (H++[⟨151,0,is y⟩,⟨151,0,is zi⟩,⟨346,0,is (tsc 64)⟩,⟨349,0,is (fil (zeW y) 64)⟩,⟨151,0,is (fil (zd3 y) (8 * k))⟩]) _ by
  exact PL.at [2,3,7,12,72] (h1 0 (by omega)) rfl (by rw [Nat.mul_zero,hz2];rfl)
 refine cnt 8 (fun k hk ih=> ?_) ?_
 ·refine PL.round ?_;refine PW.e ?_;(repeat refine PW.seq ?_);refine PW.cond (t:=_) rfl (fun h=> ?_) (fun h=> ?_)
  rotate_left
  ·cases h
  refine PW.skip ?_;(repeat refine PW.seq ?_);refine PW.block ?_
  refine PW.e ?_
  refine PW.e ?_
  (repeat refine PW.seq ?_);refine PW.block (PW.loop ?_)
  suffices h2:∀ l:Nat,l≤8→PL Tryz.prog _ _ [(2,.ptr (H.length+1) 0 0),(3,.ptr (H.length+2) 0 0),(7,.ptr (H.length+3) 0 0),(12,.ptr (H.length+4) 0 0),(13,.int .i64 (k:Int)),(72,.int .i64 (k:Int)),(75,.int .i64 (l:Int))] (H++[⟨151,0,is y⟩,⟨151,0,is zi⟩,⟨346,0,is (tsc 64)⟩,⟨349,0,is (fil (zeW y) 64)⟩,⟨151,0,is (fil (zd3 y) (8 * k+l))⟩]) _ by
   exact PL.at [2,3,7,12,13,72,75] (h2 0 (by omega)) rfl rfl
  refine cnt 8 (fun l hlt ih=> ?_) ?_
  ·refine PL.round ?_;refine PW.e ?_;(repeat refine PW.seq ?_);refine PW.cond (t:=_) rfl (fun h=> ?_) (fun h=> ?_)
   rotate_left
   ·cases h
   refine PW.skip ?_;(repeat refine PW.seq ?_);refine PW.block ?_
   refine PW.e ?_
   refine PW.e ?_
   refine PW.e ?_
   (repeat refine PW.seq ?_);refine PW.block (PW.loop ?_)
   suffices h3:∀ i:Nat,i≤8→PL Tryz.prog _ _ [(2,.ptr (H.length+1) 0 0),(3,.ptr (H.length+2) 0 0),(7,.ptr (H.length+3) 0 0),(12,.ptr (H.length+4) 0 0),(13,.int .i64 (k:Int)),(14,.int .i64 (l:Int)),(15,.int .i64 (zfC (ctm y k l) i)),(72,.int .i64 (k:Int)),(75,.int .i64 (l:Int)),(78,.int .i64 (i:Int))] (H++[⟨151,0,is y⟩,⟨151,0,is zi⟩,⟨346,0,is (tsc 64)⟩,⟨349,0,is (fil (zeW y) 64)⟩,⟨151,0,is (fil (zd3 y) (8 * k+l))⟩]) _ by
    exact PL.at [2,3,7,12,13,14,15,72,75,78] (h3 0 (by omega)) rfl rfl
   refine cnt 8 (fun i hi ih=> ?_) ?_
   ·refine PL.round ?_;refine PW.e ?_;(repeat refine PW.seq ?_);refine PW.cond (t:=_) rfl (fun h=> ?_) (fun h=> ?_)
    rotate_left
    ·cases h
    refine PW.skip ?_;(repeat refine PW.seq ?_);refine PW.block ?_
    refine PW.e ?_
    have g1:=znN hi hk
    have g2:=zuP (zeW y) (n:=64) (j:=8 * i+l) (by omega) (by omega)
    rw [zlK y hlt] at g2
    have b1:=zlg y k l i
    rw [ctm] at b1
    have b2:=zlC (zlg y k l) (show i≤8 by omega)
    have e1:(8:Int) * (i:Int)+(l:Int)=((8 * i+l:Nat):Int):=by omega
    (repeat refine PW.seq ?_);refine PW.drawi [] [] [] [] mix (by kernel_rfl) (by simp<;>omega) fun K hK=> ?_
    simp (disch:=omega) only [go_sem,↓reduceIte,reduceCtorEq,zaH,zbq,zu,y3,r3,g1,g2,e1]
    refine hK _ _ ?_;clear hK K
    refine PW.e ?_
    exact PL.at [2,3,7,12,13,14,15,72,75,78] ih rfl rfl
   ·refine PL.round ?_;refine PW.e ?_;(repeat refine PW.seq ?_);refine PW.cond (t:=_) rfl (fun h=> ?_) (fun h=> ?_)
    ·cases h
    refine PW.exit ?_
    have e1:(8:Int) * (k:Int)+(l:Int)=((8 * k+l:Nat):Int):=by omega
    have f1:=zcW (zd3 y) (8 * k+l)
    have f2:=zfV (zd3 y) (8 * k+l)
    rw [zsy y hlt] at f2
    have b2:=zms y k l
    rw [zlh] at f2 b2
    have nn:=fun K=>zkX (zfC (ctm y k l) 8) K (by omega)
    refine PW.f (fun K k=>by simp (disch:=omega) only [go_sem,↓reduceIte,reduceCtorEq,e1,zu,f1,zbJ,f2];refine VCx.call (nn _) rfl ?_;simp (disch:=omega) only [go_sem,↓reduceIte,reduceCtorEq,e1,zu,f1,zbJ,f2];exact k) ?_
    refine PW.e ?_
    exact PL.at [2,3,7,12,13,72,75] ih rfl rfl
  ·refine PL.round ?_;refine PW.e ?_;(repeat refine PW.seq ?_);refine PW.cond (t:=_) rfl (fun h=> ?_) (fun h=> ?_)
   ·cases h
   refine PW.exit ?_
   refine PW.e ?_
   exact PL.at [2,3,7,12,72] ih rfl rfl
 refine PL.round ?_;refine PW.e ?_;(repeat refine PW.seq ?_);refine PW.cond (t:=_) rfl (fun h=> ?_) (fun h=> ?_)
 ·cases h
 refine PW.exit ?_
 have c3:=zcW (zd3 y) 64
 have c4:(is (fil (zd3 y) 64)).length=64:=by rw [zu,c3]
 have c5:=zW (fil (zd3 y) 64)
 have c6:List.take 64 (is (fil (zd3 y) 64))=is (fil (zd3 y) 64):=List.take_of_length_le (by omega)
 have z3:(is zi).length=64:=by rw [zu,zhR]
 have z4:List.drop 64 (is zi)=[]:=List.drop_of_length_le (by omega)
 refine PW.f (fun K k=>by simp (disch:=omega) only [go_sem,↓reduceIte,reduceCtorEq,c4,c5,c6,z3,z4];exact k) ?_
 rw [hinv]
 refine PW.ret ⟨.agg (is (fil (zd3 y) 64)),by simp (disch:=omega) only [go_sem,↓reduceIte,reduceCtorEq,zd,zg,List.mapM_cons,List.mapM_nil,Option.pure_def,Option.bind_eq_bind,Option.bind_some,Array.toList,c4,c6],?_⟩
 exact Fin.base (.id (zB (zat _ _)))
end Go.Proofs.YtjgmdlcjbgiekaaGreatDoor.Sc
namespace Go.Proofs.YtjgmdlcjbgiekaaGreatDoor.Sc
set_option linter.all false
open Pm Go.RowKit
def zpP (r:Option Res) (v:PV):Bool:=match r with
 | some (.val w [])=>eqb 20 w v
 | _=>false
theorem _root_.Go.Proofs.YtjgmdlcjbgiekaaGreatDoor.Pm.CallOk.evalV {P:Program} {H:za} (n:Nat) {f:FuncId} {args:List PV} {v:PV} (h:zpP (zg0 P n (.call f args [])) v=true) (hs:∀ x∈args,Scoped 0 x):CallOk P f args H v H:=by
 refine CallOk.eval n ?_ hs
 unfold zpP at h
 split at h
 ·rename_i he;rw [he,zfd 20 _ _ h]
 ·cases h
theorem hl7 (H:za) (b0 b1 b2 b3 b4 b5 b6:Blk):(H++[b0,b1,b2,b3,b4,b5,b6]).length=H.length+7:=by simp
theorem hl8 (H:za) (b0 b1 b2 b3 b4 b5 b6 b7:Blk):(H++[b0,b1,b2,b3,b4,b5,b6,b7]).length=H.length+8:=by simp
theorem hl9 (H:za) (b0 b1 b2 b3 b4 b5 b6 b7 b8:Blk):(H++[b0,b1,b2,b3,b4,b5,b6,b7,b8]).length=H.length+9:=by simp
theorem hl10 (H:za) (b0 b1 b2 b3 b4 b5 b6 b7 b8 b9:Blk):(H++[b0,b1,b2,b3,b4,b5,b6,b7,b8,b9]).length=H.length+10:=by simp
theorem hl11 (H:za) (b0 b1 b2 b3 b4 b5 b6 b7 b8 b9 b10:Blk):(H++[b0,b1,b2,b3,b4,b5,b6,b7,b8,b9,b10]).length=H.length+11:=by simp
theorem hl12 (H:za) (b0 b1 b2 b3 b4 b5 b6 b7 b8 b9 b10 b11:Blk):(H++[b0,b1,b2,b3,b4,b5,b6,b7,b8,b9,b10,b11]).length=H.length+12:=by simp
theorem hp7 (H K:za) (b0 b1 b2 b3 b4 b5 b6 b7:Blk):(H++b0::b1::b2::b3::b4::b5::b6::b7::K)[H.length+7]? =some b7:=by rw [List.getElem?_append_right (by omega)];simp
theorem hs7 (H K:za) (b0 b1 b2 b3 b4 b5 b6 b7 x:Blk):(H++b0::b1::b2::b3::b4::b5::b6::b7::K).set (H.length+7) x=H++b0::b1::b2::b3::b4::b5::b6::x::K:=by rw [List.set_append_right _ _ (by omega)];simp
theorem hp8 (H K:za) (b0 b1 b2 b3 b4 b5 b6 b7 b8:Blk):(H++b0::b1::b2::b3::b4::b5::b6::b7::b8::K)[H.length+8]? =some b8:=by rw [List.getElem?_append_right (by omega)];simp
theorem hs8 (H K:za) (b0 b1 b2 b3 b4 b5 b6 b7 b8 x:Blk):(H++b0::b1::b2::b3::b4::b5::b6::b7::b8::K).set (H.length+8) x=H++b0::b1::b2::b3::b4::b5::b6::b7::x::K:=by rw [List.set_append_right _ _ (by omega)];simp
theorem hp9 (H K:za) (b0 b1 b2 b3 b4 b5 b6 b7 b8 b9:Blk):(H++b0::b1::b2::b3::b4::b5::b6::b7::b8::b9::K)[H.length+9]? =some b9:=by rw [List.getElem?_append_right (by omega)];simp
theorem hs9 (H K:za) (b0 b1 b2 b3 b4 b5 b6 b7 b8 b9 x:Blk):(H++b0::b1::b2::b3::b4::b5::b6::b7::b8::b9::K).set (H.length+9) x=H++b0::b1::b2::b3::b4::b5::b6::b7::b8::x::K:=by rw [List.set_append_right _ _ (by omega)];simp
theorem hp10 (H K:za) (b0 b1 b2 b3 b4 b5 b6 b7 b8 b9 b10:Blk):(H++b0::b1::b2::b3::b4::b5::b6::b7::b8::b9::b10::K)[H.length+10]? =some b10:=by rw [List.getElem?_append_right (by omega)];simp
theorem hs10 (H K:za) (b0 b1 b2 b3 b4 b5 b6 b7 b8 b9 b10 x:Blk):(H++b0::b1::b2::b3::b4::b5::b6::b7::b8::b9::b10::K).set (H.length+10) x=H++b0::b1::b2::b3::b4::b5::b6::b7::b8::b9::x::K:=by rw [List.set_append_right _ _ (by omega)];simp
theorem hp11 (H K:za) (b0 b1 b2 b3 b4 b5 b6 b7 b8 b9 b10 b11:Blk):(H++b0::b1::b2::b3::b4::b5::b6::b7::b8::b9::b10::b11::K)[H.length+11]? =some b11:=by rw [List.getElem?_append_right (by omega)];simp
theorem hs11 (H K:za) (b0 b1 b2 b3 b4 b5 b6 b7 b8 b9 b10 b11 x:Blk):(H++b0::b1::b2::b3::b4::b5::b6::b7::b8::b9::b10::b11::K).set (H.length+11) x=H++b0::b1::b2::b3::b4::b5::b6::b7::b8::b9::b10::x::K:=by rw [List.set_append_right _ _ (by omega)];simp
attribute [go_sem] hl7 hl8 hl9 hl10 hl11 hl12 hp7 hs7 hp8 hs8 hp9 hs9 hp10 hs10 hp11 hs11
theorem asc {n:Nat} {xs:List PV} (h:∀ x∈xs,Scoped n x):∀ (j:Nat) (x:PV),xs[j]? =some x→Scoped n x:=fun j x hx=>h x (List.mem_of_getElem? hx)
end Go.Proofs.YtjgmdlcjbgiekaaGreatDoor.Sc
namespace Go.Proofs.YtjgmdlcjbgiekaaGreatDoor.Sc
set_option linter.all false
open Pm Ty Go.RowKit
theorem ztt (b:Bool):∀ x∈[PV.bool b],Scoped 0 x:=fun x hx=>by
 simp only [List.mem_cons,List.not_mem_nil,or_false] at hx
 subst hx;exact .bool _
theorem zoE (al:Bool) (H:za):CallOk Tryz.prog 243 [.bool al] H (.agg (is (sca al))) H:=by
 cases al
 ·exact CallOk.evalV 1000000 (by kernel_rfl) (ztt _)
 ·exact CallOk.evalV 1000000 (by kernel_rfl) (ztt _)
theorem zuI {l s:List Int} {n X:Nat} (hx:zh s n=(X:Int)):(frn l s n).set X (zh l n)=frn l s (n+1):=by rw [frn,hx,Int.toNat_natCast]
set_option maxHeartbeats 1600000 in
set_option maxRecDepth 100000 in
theorem zjZ (l:List Int) (al:Bool) (hl:l.length=64) (H:za):CallOk Tryz.prog 211 [.agg (is l),.bool al] H (.agg (is (frs l al))) H:=by
 have hall:=zW l
 have sc:=fun K=>zoE al K
 have sl:=zrj al
 refine CallOk.body (F0:=[(0,.agg (is l)),(1,.bool al)]) Tryz.func211 rfl Tryz.ntmps211 Tryz.results211 rfl (by kernel_rfl) rfl ?_
 refine PW.f (fun K k=>by simp (disch:=omega) only [go_sem,↓reduceIte,reduceCtorEq,hall];exact k) ?_
 refine PW.e ?_
 refine PW.f (fun K k=>by simp (disch:=omega) only [go_sem,↓reduceIte,reduceCtorEq];refine VCx.call (sc _) rfl ?_;simp (disch:=omega) only [go_sem,↓reduceIte,reduceCtorEq];exact k) ?_
 (repeat refine PW.seq ?_);refine PW.block (PW.loop ?_)
 suffices h1:∀ p:Nat,p≤64→PL Tryz.prog _ _ [(2,.ptr H.length 0 0),(4,.ptr (H.length+1) 0 0),(5,.ptr (H.length+2) 0 0),(9,.agg (is (sca al))),(10,.int .i64 (p:Int))] (H++[⟨151,0,is l⟩,⟨151,0,is zi⟩,⟨151,0,is (frn l (sca al) p)⟩]) _ by
  exact PL.at [2,4,5,9,10] (h1 0 (by omega)) rfl rfl
 refine cnt 64 (fun p hp ih=> ?_) ?_
 ·refine PL.round ?_;refine PW.e ?_;(repeat refine PW.seq ?_);refine PW.cond (t:=_) rfl (fun h=> ?_) (fun h=> ?_)
  rotate_left
  ·cases h
  obtain ⟨b1,b2⟩:=zt2 al p
  obtain ⟨X,hX⟩:∃ X:Nat,zh (sca al) p=(X:Int):=⟨(zh (sca al) p).toNat,by omega⟩
  have f1:=zuI (l:=l) hX
  have f2:=zfT l (sca al) p
  refine PW.skip ?_;(repeat refine PW.seq ?_);refine PW.block ?_
  refine PW.f (fun K k=>by simp (disch:=omega) only [go_sem,↓reduceIte,reduceCtorEq,zbq,zu,sl,hX];exact k) ?_
  refine PW.f (fun K k=>by simp (disch:=omega) only [go_sem,↓reduceIte,reduceCtorEq,zbq,zu,hl,hX,f2,zbJ,f1];exact k) ?_
  refine PW.e ?_
  exact PL.at [2,4,5,9,10] ih rfl rfl
 refine PL.round ?_;refine PW.e ?_;(repeat refine PW.seq ?_);refine PW.cond (t:=_) rfl (fun h=> ?_) (fun h=> ?_)
 ·cases h
 refine PW.exit ?_
 have c3:=zfT l (sca al) 64
 have c4:(is (frn l (sca al) 64)).length=64:=by rw [zu,c3]
 have c5:=zW (frn l (sca al) 64)
 have c6:List.take 64 (is (frn l (sca al) 64))=is (frn l (sca al) 64):=List.take_of_length_le (by omega)
 have z3:(is zi).length=64:=by rw [zu,zhR]
 have z4:List.drop 64 (is zi)=[]:=List.drop_of_length_le (by omega)
 refine PW.f (fun K k=>by simp (disch:=omega) only [go_sem,↓reduceIte,reduceCtorEq,c4,c5,c6,z3,z4];exact k) ?_
 unfold frs
 refine PW.ret ⟨.agg (is (frn l (sca al) 64)),by simp (disch:=omega) only [go_sem,↓reduceIte,reduceCtorEq,zd,zg,List.mapM_cons,List.mapM_nil,Option.pure_def,Option.bind_eq_bind,Option.bind_some,Array.toList,c4,c6],?_⟩
 exact Fin.base (.id (zB (zat _ _)))
theorem or8 {i:Nat} (h:i<8):i=0∨i=1∨i=2∨i=3∨i=4∨i=5∨i=6∨i=7:=by omega
theorem sc2 (a b:Int):∀ x∈[PV.int .i64 a,PV.int .i64 b],Scoped 0 x:=fun x hx=>by
 simp only [List.mem_cons,List.not_mem_nil,or_false] at hx
 rcases hx with rfl|rfl<;>exact .int _ _
theorem sc1 (a:Int):∀ x∈[PV.int .i64 a],Scoped 0 x:=fun x hx=>by
 simp only [List.mem_cons,List.not_mem_nil,or_false] at hx
 subst hx;exact .int _ _
theorem zlZ (i:Nat) (H:za) (hi:i<8):CallOk Tryz.prog 309 [.int .i64 (i:Int)] H (.int .i64 (zh nrL i)) H:=by
 rcases or8 hi with rfl|rfl|rfl|rfl|rfl|rfl|rfl|rfl
 all_goals exact CallOk.eval 10000 (by kernel_rfl) (sc1 _)
theorem nr3 {i:Nat} (h:i<8):zh nrL i=512∨zh nrL i=578∨zh nrL i=320:=by
 have:∀ i,i<8→zh nrL i=512∨zh nrL i=578∨zh nrL i=320:=by decide
 exact this i h
def gnV (a b:Int):Int:=if a=512∧b=512 then 32 else if (a=512∧b=578)∨(a=578∧b=512) then 34 else if (a=512∧b=320)∨(a=320∧b=512) then 25 else if a=578∧b=578 then 36 else if (a=578∧b=320)∨(a=320∧b=578) then 27 else 20
theorem zuE {k:Nat} (h:k<64):gnV (zh nrL (k / 8)) (zh nrL (k%8))=zh gnL k:=by
 have:∀ k,k<64→gnV (zh nrL (k / 8)) (zh nrL (k%8))=zh gnL k:=by decide+kernel
 exact this k h
theorem zsb {a b:Int} (ha:a=512∨a=578∨a=320) (hb:b=512∨b=578∨b=320) (H:za):CallOk Tryz.prog 308 [.int .i64 a,.int .i64 b] H (.int .i64 (gnV a b)) H:=by
 rcases ha with rfl|rfl|rfl<;>rcases hb with rfl|rfl|rfl
 all_goals exact CallOk.eval 10000 (by kernel_rfl) (sc2 _ _)
def qnB (q:Int):Bool:=decide (1≤q)&&decide (q≤31)
theorem zta (q:Int) (H:za):CallOk Tryz.prog 287 [.int .i64 q] H (.bool (qnB q)) H:=by
 refine CallOk.body (F0:=[(0,.int .i64 q)]) Tryz.func287 rfl Tryz.ntmps287 Tryz.results287 rfl (by kernel_rfl) rfl ?_
 (repeat' (first|refine PW.seq ?_|refine PW.skip ?_|refine PW.block ?_|((first|refine PW.rg rfl fun K hK=> ?_|refine PW.draw mix (by kernel_rfl) fun K hK=> ?_);simp (disch:=omega) only [go_sem,↓reduceIte,reduceCtorEq])|((first|refine zk ?_ ?_|refine zn ?_ ?_|refine And.intro ?_ ?_)<;>intro h<;>(try simp only [nqb] at h)<;>simp (disch:=omega) only [go_sem,↓reduceIte,reduceCtorEq,h])|(refine hK _ _ ?_;clear hK K)|(refine PW.cond (t:=_) rfl (fun h=> ?_) (fun h=> ?_)<;>(try (cases h;done))<;>(try simp only [nqb] at h))))
 all_goals ((refine PW.ret ⟨_,rfl,?_⟩;first|refine .inl ⟨?_,rfl⟩|refine Fin.base (.id' ?_ (.bool _))|refine Fin.base (.id' ?_ (.int _ _)));(simp_all [qnB,slot,Nat.beq]<;>first|rfl|omega|(rw [Bool.eq_iff_iff];simp;done)|(rw [Bool.eq_iff_iff];simp;omega)))
theorem zoQ {q:Int} (h:qnB q=true):1≤q∧q≤31:=by simpa [qnB] using h
theorem zrO {a b:Int} {A B:Int} (ha:0≤a∧a≤A) (hb:0≤b∧b≤B):0≤a * b∧a * b≤A * B:=⟨Int.mul_nonneg ha.1 hb.1,Int.mul_le_mul ha.2 hb.2 hb.1 (by omega)⟩
theorem zra (w q:Int) (k:Nat) (H:za) (hw:8≤w∧w≤255) (hq:qnB q=true) (hk:k<64):CallOk Tryz.prog 288 [.int .i64 w,.int .i64 q,.int .i64 (k:Int)] H (.int .i64 (w * q * zh gnL k)) H:=by
 have vq:=fun H=>zta q H
 rw [hq] at vq
 have q1:=zoQ hq
 have n1:=fun H=>zlZ (k / 8) H (by omega)
 have n2:=fun H=>zlZ (k%8) H (by omega)
 have gk:=fun H=>zsb (nr3 (show k / 8<8 by omega)) (nr3 (show k%8<8 by omega)) H
 rw [zuE hk] at gk
 have b1:=zrO (a:=w) (b:=q) (A:=255) (B:=31) (by omega) (by omega)
 have b2:=zrO (a:=w * q) (b:=zh gnL k) (A:=7905) (B:=36) (by omega) (ztn k)
 have d1:(k:Int).tdiv 8=((k / 8:Nat):Int):=by rw [zx _ _ (by omega)];omega
 have d2:(k:Int).tmod 8=((k%8:Nat):Int):=by rw [zP _ _ (by omega)];omega
 refine CallOk.body (F0:=[(0,.int .i64 w),(1,.int .i64 q),(2,.int .i64 (k:Int))]) Tryz.func288 rfl Tryz.ntmps288 Tryz.results288 rfl (by kernel_rfl) rfl ?_
 refine PW.e ?_
 (repeat refine PW.seq ?_)
 refine PW.rgv (P:=Tryz.prog) [0,1,2] 25 (.bool false) ?_ ?_ ?_
 ·rfl
 ·simp (disch:=omega) only [go_sem,↓reduceIte,reduceCtorEq];(repeat' (first|((first|refine zk ?_ ?_|refine And.intro ?_ ?_)<;>intro h<;>(try simp only [nqb] at h)<;>simp (disch:=omega) only [go_sem,↓reduceIte,reduceCtorEq,h])|((first|refine VCx.call (vq _) rfl ?_);simp (disch:=omega) only [go_sem,↓reduceIte,reduceCtorEq])))
  all_goals (simp_all [slot,Nat.beq]<;>first|rfl|omega|(rw [Bool.eq_iff_iff];simp;done)|(rw [Bool.eq_iff_iff];simp;omega))
 (repeat refine PW.seq ?_);refine PW.cond (t:=_) rfl (fun h=> ?_) (fun h=> ?_)
 ·cases h
 refine PW.skip ?_
 (repeat refine PW.seq ?_);refine PW.rg rfl fun K hK=> ?_;simp (disch:=omega) only [go_sem,↓reduceIte,reduceCtorEq,d1,d2]
 (repeat' (first|((first|refine zk ?_ ?_|refine And.intro ?_ ?_)<;>intro h<;>(try simp only [nqb] at h)<;>simp (disch:=omega) only [go_sem,↓reduceIte,reduceCtorEq,d1,d2,h])|((first|refine VCx.call (n1 _) rfl ?_|refine VCx.call (n2 _) rfl ?_|refine VCx.call (gk _) rfl ?_);simp (disch:=omega) only [go_sem,↓reduceIte,reduceCtorEq,d1,d2])))
 refine hK _ _ ?_;clear hK K
 (refine PW.ret ⟨_,rfl,?_⟩;first|refine .inl ⟨?_,rfl⟩|refine Fin.base (.id' ?_ (.bool _))|refine Fin.base (.id' ?_ (.int _ _)))
 rfl
def lrg (l:List Int):Prop:=∀ i,-4095≤zh l i∧zh l i≤4095
def dqf (l:List Int) (m:List UInt8) (q:Int) (k:Nat):Int:=zh l k * (byt m k * q * zh gnL k)
theorem zss (l:List Int) (m:List UInt8) (q:Int):fil (dqf l m q) 64=dqz l m q:=zlb _
theorem zwn {m:List UInt8} (h:zb2 m=true) {k:Nat} (hk:k<m.length):8≤byt m k:=by
 unfold zb2 at h
 rw [List.all_eq_true] at h
 have:=of_decide_eq_true (h m[k] (List.getElem_mem hk))
 simp only [byt,List.getD_eq_getElem?_getD,List.getElem?_eq_getElem hk,Option.getD_some]
 omega
theorem zuV {l:List Int} {m:List UInt8} {q:Int} (hl:lrg l) (hq:1≤q∧q≤31) (k:Nat):(0≤byt m k * q * zh gnL k∧byt m k * q * zh gnL k≤284580)∧-1165355100≤dqf l m q k∧dqf l m q k≤1165355100:=by
 have h1:=zab m k
 have b1:=zrO (a:=byt m k) (b:=q) (A:=255) (B:=31) (by omega) (by omega)
 have b2:=zrO (a:=byt m k * q) (b:=zh gnL k) (A:=7905) (B:=36) (by omega) (ztn k)
 refine ⟨by omega,?_⟩
 exact zgM (hl k) (show -284580≤_∧_≤(284580:Int) by omega)
set_option maxHeartbeats 1600000 in
set_option maxRecDepth 100000 in
theorem zlf (l:List Int) (m:List UInt8) (q:Int) (hl:l.length=64) (hlr:lrg l) (hm:m.length=64) (hmx:zb2 m=true) (hq:qnB q=true) (H:za):
  CallOk Tryz.prog 210 [.agg (is l),.agg (bs m),.int .i64 q] H (.tup [.agg (is (dqz l m q)),.int .i64 0]) H:=by
 have hall:=zW l
 have hall2:(bs m).all PV.cell=true:=by simp [bs,PV.cell]
 have vm:=fun K=>zjO m K hm
 rw [hmx] at vm
 have vq:=fun K=>zta q K
 rw [hq] at vq
 have q1:=zoQ hq
 have hz:=zml (dqf l m q)
 have tkm:List.take 64 (bs m)=bs m:=List.take_of_length_le (by rw [ze];omega)
 have tkl:List.take 64 (is l)=is l:=List.take_of_length_le (by rw [zu];omega)
 refine CallOk.body (F0:=[(0,.agg (is l)),(1,.agg (bs m)),(2,.int .i64 q)]) Tryz.func210 rfl Tryz.ntmps210 Tryz.results210 rfl (by kernel_rfl) rfl ?_
 refine PW.f (fun K k=>by simp (disch:=omega) only [go_sem,↓reduceIte,reduceCtorEq,hall,hall2];exact k) ?_
 (repeat refine PW.seq ?_)
 refine PW.rgv (P:=Tryz.prog) [2,3,4,6,7] 18 (.bool false) ?_ ?_ ?_
 ·rfl
 ·simp (disch:=omega) only [go_sem,↓reduceIte,reduceCtorEq,ze,tkm];(repeat' (first|((first|refine zk ?_ ?_|refine And.intro ?_ ?_)<;>intro h<;>(try simp only [nqb] at h)<;>simp (disch:=omega) only [go_sem,↓reduceIte,reduceCtorEq,ze,tkm,h])|((first|refine VCx.call (vm _) rfl ?_|refine VCx.call (vq _) rfl ?_);simp (disch:=omega) only [go_sem,↓reduceIte,reduceCtorEq,ze,tkm])))
  all_goals (simp_all [slot,Nat.beq]<;>first|rfl|omega|(rw [Bool.eq_iff_iff];simp;done)|(rw [Bool.eq_iff_iff];simp;omega))
 (repeat refine PW.seq ?_);refine PW.cond (t:=_) rfl (fun h=> ?_) (fun h=> ?_)
 ·cases h
 refine PW.skip ?_
 refine PW.e ?_
 refine PW.f (fun K k=>by simp (disch:=omega) only [go_sem,↓reduceIte,reduceCtorEq,zu,tkl];exact k) ?_
 (repeat refine PW.seq ?_);refine PW.block (PW.loop ?_)
 suffices h1:∀ k:Nat,k≤64→PL Tryz.prog _ _ [(2,.int .i64 q),(4,.ptr (H.length+1) 0 0),(6,.ptr (H.length+2) 0 0),(8,.ptr (H.length+3) 0 0),(20,.agg (is l)),(21,.int .i64 (k:Int))] (H++[⟨151,0,is l⟩,⟨27,0,bs m⟩,⟨151,0,is zi⟩,⟨151,0,is (fil (dqf l m q) k)⟩]) _ by
  exact PL.at [2,4,6,8,20,21] (h1 0 (by omega)) rfl (by rw [hz];rfl)
 refine cnt 64 (fun k hk ih=> ?_) ?_
 ·refine PL.round ?_;refine PW.e ?_;(repeat refine PW.seq ?_);refine PW.cond (t:=_) rfl (fun h=> ?_) (fun h=> ?_)
  rotate_left
  ·cases h
  obtain ⟨b1,b2⟩:=hlr k
  refine PW.skip ?_;(repeat refine PW.seq ?_);refine PW.block ?_
  refine PW.f (fun K k=>by simp (disch:=omega) only [go_sem,↓reduceIte,reduceCtorEq,zbq,zu,hl];exact k) ?_
  (repeat refine PW.seq ?_)
  refine PW.rgv (P:=Tryz.prog) [2,4,6,8,9,10,20,21] 30 (.bool false) ?_ ?_ ?_
  ·rfl
  ·simp (disch:=omega) only [go_sem,↓reduceIte,reduceCtorEq];(repeat' ((first|refine zk ?_ ?_|refine zn ?_ ?_|refine zT ?_ ?_|refine zS ?_ ?_|refine zR ?_ ?_|refine And.intro ?_ ?_)<;>intro h<;>(try simp only [nqb] at h)<;>simp (disch:=omega) only [go_sem,↓reduceIte,reduceCtorEq,h]))
   all_goals (simp_all [slot,Nat.beq]<;>first|rfl|omega|(rw [Bool.eq_iff_iff];simp;done)|(rw [Bool.eq_iff_iff];simp;omega))
  (repeat refine PW.seq ?_);refine PW.cond (t:=_) rfl (fun h=> ?_) (fun h=> ?_)
  ·cases h
  refine PW.skip ?_
  have m8:=zwn hmx (show k<m.length by omega)
  have m9:=zab m k
  have st:=fun K=>zra (byt m k) q k K ⟨m8,m9.2⟩ hq hk
  obtain ⟨d1,d2⟩:=zuV (m:=m) hlr q1 k
  rw [dqf] at d2
  have f1:=zfV (dqf l m q) k
  rw [dqf] at f1
  have f2:=zcW (dqf l m q) k
  refine PW.f (fun K k=>by simp (disch:=omega) only [go_sem,↓reduceIte,reduceCtorEq,zbK,ze,hm,zu,f2,zbJ,f1];refine VCx.call (st _) rfl ?_;simp (disch:=omega) only [go_sem,↓reduceIte,reduceCtorEq,zbK,ze,hm,zu,f2,zbJ,f1];exact k) ?_
  refine PW.e ?_
  exact PL.at [2,4,6,8,20,21] ih rfl rfl
 refine PL.round ?_;refine PW.e ?_;(repeat refine PW.seq ?_);refine PW.cond (t:=_) rfl (fun h=> ?_) (fun h=> ?_)
 ·cases h
 refine PW.exit ?_
 have c3:=zcW (dqf l m q) 64
 have c4:(is (fil (dqf l m q) 64)).length=64:=by rw [zu,c3]
 have c5:=zW (fil (dqf l m q) 64)
 have c6:List.take 64 (is (fil (dqf l m q) 64))=is (fil (dqf l m q) 64):=List.take_of_length_le (by omega)
 have z3:(is zi).length=64:=by rw [zu,zhR]
 have z4:List.drop 64 (is zi)=[]:=List.drop_of_length_le (by omega)
 refine PW.f (fun K k=>by simp (disch:=omega) only [go_sem,↓reduceIte,reduceCtorEq,c4,c5,c6,z3,z4];exact k) ?_
 rw [←zss]
 refine PW.ret ⟨.tup [.agg (is (fil (dqf l m q) 64)),.int .i64 0],by simp (disch:=omega) only [go_sem,↓reduceIte,reduceCtorEq,zd,zg,List.mapM_cons,List.mapM_nil,Option.pure_def,Option.bind_eq_bind,Option.bind_some,Array.toList,c4,c6],?_⟩
 refine Fin.base (.id (.tup (asc fun x hx=> ?_)))
 simp only [List.mem_cons,List.not_mem_nil,or_false] at hx
 rcases hx with rfl|rfl
 ·exact zB (zat _ _)
 ·exact .int _ _
def fr4 (V K:Nat) (y u v:List UInt8):Fm:=⟨((2 * V:Nat):Int),((4 * K:Nat):Int),y,u,v⟩
structure Fok (V K:Nat) (y u v:List UInt8):Prop where
 rv:1≤V∧V≤32
 rk:1≤K∧K≤16
 ly:y.length=2 * K * (2 * (2 * V))
 lu:u.length=K * (2 * V)
 lv:v.length=K * (2 * V)
def fld (V K P:Nat) (y u v:List UInt8):Fm:=⟨((2 * V:Nat):Int),((2 * K:Nat):Int),ctl y (P * (2 * V)) (2 * (2 * V)) (2 * V) (2 * K),ctl u (P * V) (2 * V) V K,ctl v (P * V) (2 * V) V K⟩
theorem zsg {V K:Nat} {y u v:List UInt8} (h:Fok V K y u v):fmd (fr4 V K y u v)=true:=by
 obtain ⟨⟨v1,v2⟩,⟨k1,k2⟩,hy,hu,hv⟩:=h
 have e1:((2 * V:Nat):Int) / 2=(V:Int):=by omega
 have e2:((4 * K:Nat):Int) / 2=((2 * K:Nat):Int):=by omega
 have e3:2 * K * (2 * (2 * V))=2 * V * (4 * K):=by rw [show 2 * (2 * V)=4 * V by omega,Nat.mul_mul_mul_comm,Nat.mul_mul_mul_comm 2 V 4 K,Nat.mul_comm K V]
 have e4:K * (2 * V)=V * (2 * K):=by rw [Nat.mul_comm K,Nat.mul_comm 2 V,Nat.mul_assoc]
 have a1:fsz ((2 * V:Nat):Int) ((4 * K:Nat):Int)=true:=by
  simp only [fsz,Bool.and_eq_true,decide_eq_true_eq]
  omega
 have a2:((2 * V * (4 * K):Nat):Int)=((2 * V:Nat):Int) * ((4 * K:Nat):Int):=Int.natCast_mul _ _
 have a3:((V * (2 * K):Nat):Int)=(V:Int) * ((2 * K:Nat):Int):=Int.natCast_mul _ _
 simp only [fmd,fr4,a1,e1,e2,hy,hu,hv,e3,e4,a2,a3,decide_true,Bool.and_self]
theorem zaC (n w P:Nat) (hP:P≤1) (p:List UInt8) (hp:p.length=n * (2 * w)):∀ k,k<n→P * w+k * (2 * w)+w≤p.length:=fun k hk=>by
 have h0:P * w≤w:=by
  have:P=0∨P=1:=by omega
  rcases this with rfl|rfl<;>simp
 have h1:(k+1) * (2 * w)≤n * (2 * w):=Nat.mul_le_mul_right _ (by omega)
 rw [Nat.add_mul] at h1
 omega
theorem zO (n:Nat) (a b:Int) (y u v:List UInt8) (i j k:Nat) (e:Int):Scoped n (.tup [.agg [.int .i64 a,.int .i64 b,.slice (bs y) i false,.slice (bs u) j false,.slice (bs v) k false],.int .i64 e]):=.tup fun p x hx=>by
 have hm:=List.mem_of_getElem? hx
 simp only [List.mem_cons,List.not_mem_nil,or_false] at hm
 rcases hm with rfl|rfl
 ·refine zB fun x hx=> ?_
  simp only [List.mem_cons,List.not_mem_nil,or_false] at hx
  rcases hx with rfl|rfl|rfl|rfl|rfl
  ·exact .int _ _
  ·exact .int _ _
  ·exact zr (zq _ _)
  ·exact zr (zq _ _)
  ·exact zr (zq _ _)
 ·exact .int _ _
set_option maxHeartbeats 1600000 in
set_option maxRecDepth 10000 in
theorem zgZ (V K P:Nat) (y u v:List UInt8) (H:za) (hf:Fok V K y u v) (hP:P≤1):
  CallOk Tryz.prog 130 [.agg (fmc (fr4 V K y u v)),.int .i64 (P:Int)] H (.tup [.agg (fmc (fld V K P y u v)),.int .i64 0]) H:=by
 have hfd:=fun H=>zaS (fr4 V K y u v) H
 rw [zsg hf] at hfd
 obtain ⟨⟨v1,v2⟩,⟨k1,k2⟩,hy,hu,hv⟩:=hf
 have ly:=zaT y (P * (2 * V)) (2 * (2 * V)) (2 * V) (2 * K) (zaC _ _ _ hP _ hy)
 have lu:=zaT u (P * V) (2 * V) V K (zaC _ _ _ hP _ hu)
 have lv:=zaT v (P * V) (2 * V) V K (zaC _ _ _ hP _ hv)
 have hPV:P * V≤32∧P * (2 * V)≤64:=by
  have:P=0∨P=1:=by omega
  rcases this with rfl|rfl<;>simp<;>omega
 have by1:y.length≤8192:=by
  have:2 * K * (2 * (2 * V))≤32 * 128:=Nat.mul_le_mul (by omega) (by omega)
  omega
 have bu1:u.length≤8192:=by
  have:K * (2 * V)≤16 * 64:=Nat.mul_le_mul (by omega) (by omega)
  omega
 have bv1:v.length≤8192:=by
  have:K * (2 * V)≤16 * 64:=Nat.mul_le_mul (by omega) (by omega)
  omega
 have c1:=fun H=>ziJ y (P * (2 * V)) (2 * (2 * V)) (2 * V) (2 * K) false H (by omega) (by omega) by1 (zaC _ _ _ hP _ hy) (by omega)
 have c2:=fun H=>ziJ u (P * V) (2 * V) V K false H (by omega) (by omega) bu1 (zaC _ _ _ hP _ hu) (by omega)
 have c3:=fun H=>ziJ v (P * V) (2 * V) V K false H (by omega) (by omega) bv1 (zaC _ _ _ hP _ hv) (by omega)
 generalize hr:fmc (fld V K P y u v)=r
 simp only [fmc,fld,ly,lu,lv] at hr
 simp only [fmc,fr4] at hfd ⊢
 have m4:((4 * K:Nat):Int).tmod 4=0:=by rw [zP _ _ (by omega)];omega
 have d2:((4 * K:Nat):Int).tdiv 2=((2 * K:Nat):Int):=by rw [zx _ _ (by omega)];omega
 have d3:((2 * K:Nat):Int).tdiv 2=(K:Int):=by rw [zx _ _ (by omega)];omega
 have d4:((2 * V:Nat):Int).tdiv 2=(V:Int):=by rw [zx _ _ (by omega)];omega
 have x1:(P:Int) * ((2 * V:Nat):Int)=((P * (2 * V):Nat):Int):=by simp
 have x2:(2:Int) * ((2 * V:Nat):Int)=((2 * (2 * V):Nat):Int):=by simp
 have x3:((P * (2 * V):Nat):Int).tdiv 2=((P * V:Nat):Int):=by
  rw [zx _ _ (by omega)]
  have:P=0∨P=1:=by omega
  rcases this with rfl|rfl<;>simp<;>omega
 refine CallOk.body (F0:=[(0,.agg [.int .i64 ((2 * V:Nat):Int),.int .i64 ((4 * K:Nat):Int),.slice (bs y) y.length false,.slice (bs u) u.length false,.slice (bs v) v.length false]),(1,.int .i64 (P:Int))]) Tryz.func130 rfl Tryz.ntmps130 Tryz.results130 rfl (by kernel_rfl) rfl ?_
 refine PW.e ?_
 (repeat refine PW.seq ?_)
 refine PW.rgv (P:=Tryz.prog) [1,2,4] 24 (.bool false) ?_ ?_ ?_
 ·rfl
 ·simp (disch:=omega) only [go_sem,↓reduceIte,reduceCtorEq];(repeat' (first|((first|refine zk ?_ ?_|refine And.intro ?_ ?_)<;>intro h<;>(try simp only [nqb] at h)<;>simp (disch:=omega) only [go_sem,↓reduceIte,reduceCtorEq,m4,h])|((first|refine VCx.call (hfd _) rfl ?_);simp (disch:=omega) only [go_sem,↓reduceIte,reduceCtorEq,m4])))
  all_goals (simp_all [slot,Nat.beq]<;>first|rfl|omega|(rw [Bool.eq_iff_iff];simp;done)|(rw [Bool.eq_iff_iff];simp;omega))
 (repeat refine PW.seq ?_);refine PW.cond (t:=_) rfl (fun h=> ?_) (fun h=> ?_)
 ·cases h
 refine PW.skip ?_
 (repeat refine PW.seq ?_);refine PW.draw mix (by kernel_rfl) fun K hK=> ?_;simp (disch:=omega) only [go_sem,↓reduceIte,reduceCtorEq,d2];refine hK _ _ ?_;clear hK K
 (repeat refine PW.seq ?_);refine PW.draw mix (by kernel_rfl) fun K hK=> ?_;simp (disch:=omega) only [go_sem,↓reduceIte,reduceCtorEq,x1,x2,x3,d3,d4]
 (repeat' (first|((first|refine zn ?_ ?_|refine And.intro ?_ ?_)<;>intro h<;>(try simp only [nqb] at h)<;>simp (disch:=omega) only [go_sem,↓reduceIte,reduceCtorEq,x1,x2,x3,d3,d4,h])|((first|refine VCy.call (c1 _) rfl ?_|refine VCy.call (c2 _) rfl ?_|refine VCy.call (c3 _) rfl ?_);simp (disch:=omega) only [go_sem,↓reduceIte,reduceCtorEq,x1,x2,x3,d3,d4])))
 refine hK _ _ ?_;clear hK K
 refine PW.ret ⟨.tup [.agg [.int .i64 ((2 * V:Nat):Int),.int .i64 ((2 * K:Nat):Int),.slice (bs (ctl y (P * (2 * V)) (2 * (2 * V)) (2 * V) (2 * K))) (2 * K * (2 * V)) false,.slice (bs (ctl u (P * V) (2 * V) V K)) (K * V) false,.slice (bs (ctl v (P * V) (2 * V) V K)) (K * V) false],.int .i64 0],by simp (disch:=omega) only [go_sem,↓reduceIte,reduceCtorEq,zd,zg,List.mapM_cons,List.mapM_nil,Option.pure_def,Option.bind_eq_bind,Option.bind_some,Array.toList],?_⟩
 rw [←hr]
 exact Fin.base (.id (zO _ _ _ _ _ _ _ _ _ _))
theorem zg7 (p:List UInt8) (f:Bool) (H:za) (hp:1≤p.length∧p.length≤100000):CallOk Tryz.prog 131 [.slice (bs p) p.length f] H (.slice (bs p) p.length false) H:=by
 refine CallOk.body (F0:=[(0,.slice (bs p) p.length f)]) Tryz.func131 rfl Tryz.ntmps131 Tryz.results131 rfl (by kernel_rfl) rfl ?_
 refine PW.e ?_
 refine PW.e ?_
 (repeat refine PW.seq ?_);refine PW.cond (t:=_) rfl (fun h=> ?_) (fun h=> ?_)
 ·cases h
 refine PW.skip ?_
 refine PW.f (fun K k=>by simp (disch:=omega) only [go_sem,↓reduceIte,reduceCtorEq,ze];exact k) ?_
 refine PW.ret ⟨_,rfl,?_⟩
 exact Fin.base (Fz.mslC (e:=5) (xs:=bs p) (Nat.le_refl _) (by simp [ze]) (by rw [ze];omega) (FzC.refl (zq _ _)))
theorem zh2 (p q:List UInt8) (f g:Bool) (H:za):CallOk Tryz.prog 24 [.slice (bs p) p.length f,.slice (bs q) q.length g] H (.bool (p==q)) H:=by
 refine CallOk.body (F0:=[(0,.slice (bs p) p.length f),(1,.slice (bs q) q.length g)]) Tryz.func24 rfl Tryz.ntmps24 Tryz.results24 rfl (by kernel_rfl) rfl ?_
 refine PW.e ?_
 refine PW.f (fun K k=>by simp (disch:=omega) only [go_sem,↓reduceIte,reduceCtorEq,ze,znc];exact k) ?_
 exact PW.ret ⟨_,rfl,.inl ⟨rfl,rfl⟩⟩
theorem znp (f:Fm) (H:za):CallOk Tryz.prog 16 [.agg (fmc f),.agg (fmc f)] H (.bool true) H:=by
 obtain ⟨w,ht,y,u,v⟩:=f
 have s1:=fun H=>zh2 y y false false H
 have s2:=fun H=>zh2 u u false false H
 have s3:=fun H=>zh2 v v false false H
 simp only [beq_self_eq_true] at s1 s2 s3
 refine CallOk.body (F0:=[(0,.agg (fmc ⟨w,ht,y,u,v⟩)),(1,.agg (fmc ⟨w,ht,y,u,v⟩))]) Tryz.func16 rfl Tryz.ntmps16 Tryz.results16 rfl (by kernel_rfl) rfl ?_
 (repeat' (first|refine PW.seq ?_|refine PW.skip ?_|refine PW.block ?_|((first|refine PW.rg rfl fun K hK=> ?_|refine PW.draw mix (by kernel_rfl) fun K hK=> ?_);simp (disch:=omega) only [go_sem,↓reduceIte,reduceCtorEq,fmc])|((first|refine zk ?_ ?_|refine zn ?_ ?_|refine And.intro ?_ ?_)<;>intro h<;>(try simp only [nqb] at h)<;>simp (disch:=omega) only [go_sem,↓reduceIte,reduceCtorEq,fmc,h])|((first|refine VCx.call (s1 _) rfl ?_|refine VCx.call (s2 _) rfl ?_|refine VCx.call (s3 _) rfl ?_|refine VCy.call (s1 _) rfl ?_|refine VCy.call (s2 _) rfl ?_|refine VCy.call (s3 _) rfl ?_);simp (disch:=omega) only [go_sem,↓reduceIte,reduceCtorEq,fmc])|(refine hK _ _ ?_;clear hK K)|(refine PW.cond (t:=_) rfl (fun h=> ?_) (fun h=> ?_)<;>(try (cases h;done))<;>(try simp only [nqb] at h))))
 all_goals ((refine PW.ret ⟨_,rfl,?_⟩;first|refine .inl ⟨?_,rfl⟩|refine Fin.base (.id' ?_ (.bool _))|refine Fin.base (.id' ?_ (.int _ _)));(simp_all [slot,Nat.beq]<;>first|rfl|omega|(rw [Bool.eq_iff_iff];simp;done)|(rw [Bool.eq_iff_iff];simp;omega)))
def pcx (c:Cx):Int:=if c.s=2 then 1 else 0
theorem zkS (c:Cx) (H:za):CallOk Tryz.prog 216 [.agg (cxc c)] H (.int .i64 (pcx c)) H:=by
 obtain ⟨t,s,i,n⟩:=c
 refine CallOk.body (F0:=[(0,.agg [.int .i64 t,.int .i64 s,.bool i,.bool n])]) Tryz.func216 rfl Tryz.ntmps216 Tryz.results216 rfl (by kernel_rfl) rfl ?_
 (repeat' (first|refine PW.seq ?_|refine PW.skip ?_|refine PW.block ?_|((first|refine PW.rg rfl fun K hK=> ?_|refine PW.draw mix (by kernel_rfl) fun K hK=> ?_);simp (disch:=omega) only [go_sem,↓reduceIte,reduceCtorEq])|((first|refine zk ?_ ?_|refine zn ?_ ?_|refine And.intro ?_ ?_)<;>intro h<;>(try simp only [nqb] at h)<;>simp (disch:=omega) only [go_sem,↓reduceIte,reduceCtorEq,h])|(refine hK _ _ ?_;clear hK K)|(refine PW.cond (t:=_) rfl (fun h=> ?_) (fun h=> ?_)<;>(try (cases h;done))<;>(try simp only [nqb] at h))))
 all_goals ((refine PW.ret ⟨_,rfl,?_⟩;first|refine .inl ⟨?_,rfl⟩|refine Fin.base (.id' ?_ (.bool _))|refine Fin.base (.id' ?_ (.int _ _)));(simp_all [pcx,slot,Nat.beq]<;>first|rfl|omega|(rw [Bool.eq_iff_iff];simp;done)|(rw [Bool.eq_iff_iff];simp;omega)))
def f0:Fm:=⟨0,0,[],[],[]⟩
def ziQ (c:Cx) (dir sel:Int):Bool:= !(vcx c)||((decide (dir≠0)&&decide (dir≠1))||(fcx c&&(decide (sel≠0)&&decide (sel≠1))))
def zdf (c:Cx) (pa fu fi:Fm) (dir sel:Int):Fm×Bool:=if dir=1 then (fu,!(fcx c)) else if (c.n&&(decide (c.t=2)&&decide (sel≠pcx c)))=true then (fi,true) else (pa,!(fcx c))
def fieldOf (f:Fm) (sel:Int):Fm:=fld (f.w / 2).toNat (f.h / 4).toNat sel.toNat f.y f.u f.v
def lastF (f:Fm) (wh:Bool) (sel:Int):Fm×Int:=if f.w=0 then (f0,6) else if (!(fvd f)||(!wh&&decide (f.h%32≠0)))=true then (f0,1) else if wh=true then (f,0) else (fieldOf f sel,0)
def refS (c:Cx) (pa fu fi:Fm) (dir sel:Int):Fm×Int:=if ziQ c dir sel=true then (f0,1) else lastF (zdf c pa fu fi dir sel).1 (zdf c pa fu fi dir sel).2 sel
theorem fz0 (n:Nat) (K:za) (e:Int):Fz n K (.tup [.agg [.int .i64 0,.int .i64 0,.slice [] 0 true,.slice [] 0 true,.slice [] 0 true],.int .i64 e]) (.tup [.agg (fmc f0),.int .i64 e]):=
 Fz.tupC ⟨Fz.aggC ⟨.id (.int _ _),.id (.int _ _),.slice rfl (fun j x y hx=>by simp at hx) (fun e=>by cases e),.slice rfl (fun j x y hx=>by simp at hx) (fun e=>by cases e),.slice rfl (fun j x y hx=>by simp at hx) (fun e=>by cases e),trivial⟩,.id (.int _ _),trivial⟩
theorem zdB {w ht:Int} {y u v:List UInt8} (h:fvd ⟨w,ht,y,u,v⟩=true) (h32:ht%32=0):∃ V K:Nat,w=((2 * V:Nat):Int)∧ht=((4 * K:Nat):Int)∧Fok V K y u v:=by
 simp only [fvd,fmd,Bool.and_eq_true,decide_eq_true_eq] at h
 obtain ⟨⟨hs,hy,hu,hv⟩,hw,hh⟩:=h
 obtain ⟨g1,g2,g3,g4,g5,g6⟩:=zcV hs
 refine ⟨(w / 2).toNat,(ht / 4).toNat,by omega,by omega,?_⟩
 obtain ⟨V,hV⟩:∃ V:Nat,(w / 2).toNat=V:=⟨_,rfl⟩
 obtain ⟨K,hK⟩:∃ K:Nat,(ht / 4).toNat=K:=⟨_,rfl⟩
 rw [hV,hK]
 have e1:w=((2 * V:Nat):Int):=by omega
 have e2:ht=((4 * K:Nat):Int):=by omega
 have e3:2 * K * (2 * (2 * V))=2 * V * (4 * K):=by rw [show 2 * (2 * V)=4 * V by omega,Nat.mul_mul_mul_comm,Nat.mul_mul_mul_comm 2 V 4 K,Nat.mul_comm K V]
 have e4:K * (2 * V)=V * (2 * K):=by rw [Nat.mul_comm K,Nat.mul_comm 2 V,Nat.mul_assoc]
 have d1:w / 2=(V:Int):=by omega
 have d2:ht / 2=((2 * K:Nat):Int):=by omega
 rw [d1,d2] at hu hv
 rw [e1,e2] at hy
 refine ⟨by omega,by omega,?_,?_,?_⟩
 ·rw [e3];exact Int.ofNat_inj.1 (hy.trans (Int.natCast_mul _ _).symm)
 ·rw [e4];exact Int.ofNat_inj.1 (hu.trans (Int.natCast_mul _ _).symm)
 ·rw [e4];exact Int.ofNat_inj.1 (hv.trans (Int.natCast_mul _ _).symm)
theorem zaO (V K P:Nat) (y u v:List UInt8):fieldOf (fr4 V K y u v) (P:Int)=fld V K P y u v:=by
 have e1:(((2 * V:Nat):Int) / 2).toNat=V:=by omega
 have e2:(((4 * K:Nat):Int) / 4).toNat=K:=by omega
 simp only [fieldOf,fr4,e1,e2,Int.toNat_natCast]
set_option maxHeartbeats 1600000 in
set_option maxRecDepth 10000 in
theorem zh7 (c:Cx) (pa fu fi:Fm) (dir sel:Int) (H:za):CallOk Tryz.prog 217 [.agg (cxc c),.agg (fmc pa++(fmc fu++fmc fi)),.int .i64 dir,.int .i64 sel] H (.tup [.agg (fmc (refS c pa fu fi dir sel).1),.int .i64 (refS c pa fu fi dir sel).2]) H:=by
 generalize hr:refS c pa fu fi dir sel=r
 have vc:=fun H=>zkm c H
 have fc:=fun H=>zlc c H
 have pc:=fun H=>zkS c H
 obtain ⟨t,s,i,n⟩:=c
 obtain ⟨w1,h1,y1,u1,v1⟩:=pa
 obtain ⟨w2,h2,y2,u2,v2⟩:=fu
 obtain ⟨w3,h3,y3,u3,v3⟩:=fi
 simp only [fmc,List.cons_append,List.nil_append]
 refine CallOk.body (F0:=[(0,.agg [.int .i64 t,.int .i64 s,.bool i,.bool n]),(1,.agg [.int .i64 w1,.int .i64 h1,.slice (bs y1) y1.length false,.slice (bs u1) u1.length false,.slice (bs v1) v1.length false,.int .i64 w2,.int .i64 h2,.slice (bs y2) y2.length false,.slice (bs u2) u2.length false,.slice (bs v2) v2.length false,.int .i64 w3,.int .i64 h3,.slice (bs y3) y3.length false,.slice (bs u3) u3.length false,.slice (bs v3) v3.length false]),(2,.int .i64 dir),(3,.int .i64 sel)]) Tryz.func217 rfl Tryz.ntmps217 Tryz.results217 rfl (by kernel_rfl) rfl ?_
 refine PW.e ?_
 (repeat refine PW.seq ?_)
 refine PW.rgv (P:=Tryz.prog) [2,3,4,5,8] 34 (.bool (ziQ ⟨t,s,i,n⟩ dir sel)) ?_ ?_ ?_
 ·rfl
 ·cases hv:vcx ⟨t,s,i,n⟩<;>cases hf:fcx ⟨t,s,i,n⟩
  all_goals (rw [hv] at vc;rw [hf] at fc;simp (disch:=omega) only [go_sem,↓reduceIte,reduceCtorEq];(repeat' (first|((first|refine zk ?_ ?_|refine And.intro ?_ ?_)<;>intro h<;>(try simp only [nqb] at h)<;>simp (disch:=omega) only [go_sem,↓reduceIte,reduceCtorEq,h])|((first|refine VCx.call (vc _) rfl ?_|refine VCx.call (fc _) rfl ?_);simp (disch:=omega) only [go_sem,↓reduceIte,reduceCtorEq]))))
  all_goals (clear vc fc pc hr;(simp_all [ziQ,slot,Nat.beq]<;>first|rfl|omega|(rw [Bool.eq_iff_iff];simp;done)|(rw [Bool.eq_iff_iff];simp;omega)))
 (repeat refine PW.seq ?_);refine PW.cond (t:=_) rfl (fun h=> ?_) (fun h=> ?_)
 ·have hb:ziQ ⟨t,s,i,n⟩ dir sel=true:=h
  refine PW.e ?_
  refine PW.ret ⟨.tup [.agg [.int .i64 0,.int .i64 0,.slice [] 0 true,.slice [] 0 true,.slice [] 0 true],.int .i64 1],by simp (disch:=omega) only [go_sem,↓reduceIte,reduceCtorEq,zd,zg,List.mapM_cons,List.mapM_nil,Option.pure_def,Option.bind_eq_bind,Option.bind_some,Array.toList],?_⟩
  rw [←hr,refS,if_pos hb]
  exact Fin.base (fz0 _ _ _)
 have hb:ziQ ⟨t,s,i,n⟩ dir sel=false:=h
 refine PW.skip ?_
 (repeat refine PW.seq ?_);refine PW.drawg mix (by kernel_rfl) fun K hK=> ?_;simp (disch:=omega) only [go_sem,↓reduceIte,reduceCtorEq];refine VCz.call (fun _=>fc _) rfl ?_;simp (disch:=omega) only [go_sem,↓reduceIte,reduceCtorEq];refine hK _ _ ?_;clear hK K
 have hr2:lastF (zdf ⟨t,s,i,n⟩ ⟨w1,h1,y1,u1,v1⟩ ⟨w2,h2,y2,u2,v2⟩ ⟨w3,h3,y3,u3,v3⟩ dir sel).1 (zdf ⟨t,s,i,n⟩ ⟨w1,h1,y1,u1,v1⟩ ⟨w2,h2,y2,u2,v2⟩ ⟨w3,h3,y3,u3,v3⟩ dir sel).2 sel=r:=by rw [←hr,refS,if_neg (by rw [hb];simp)]
 have hwh:(zdf ⟨t,s,i,n⟩ ⟨w1,h1,y1,u1,v1⟩ ⟨w2,h2,y2,u2,v2⟩ ⟨w3,h3,y3,u3,v3⟩ dir sel).2=false→sel=0∨sel=1:=fun hw=>by
  have hf:fcx ⟨t,s,i,n⟩=true:=by
   unfold zdf at hw
   split at hw
   ·simpa using hw
   ·split at hw
    ·cases hw
    ·simpa using hw
  rw [ziQ,hf] at hb
  simp at hb
  omega
 generalize hpk:zdf ⟨t,s,i,n⟩ ⟨w1,h1,y1,u1,v1⟩ ⟨w2,h2,y2,u2,v2⟩ ⟨w3,h3,y3,u3,v3⟩ dir sel=pk1 at hr2 hwh
 obtain ⟨⟨w,ht,y,u,v⟩,wh⟩:=pk1
 simp only at hr2 hwh
 refine PW.to [3,8,10,11] [(3,.int .i64 sel),(8,.ptr (H.length+2) 0 0),(10,.ptr (H.length+3) 0 0),(11,.bool wh)] (H++[⟨157,0,[.int .i64 t,.int .i64 s,.bool i,.bool n]⟩,⟨87,0,[.int .i64 w1,.int .i64 h1,.slice (bs y1) y1.length false,.slice (bs u1) u1.length false,.slice (bs v1) v1.length false,.int .i64 w2,.int .i64 h2,.slice (bs y2) y2.length false,.slice (bs u2) u2.length false,.slice (bs v2) v2.length false,.int .i64 w3,.int .i64 h3,.slice (bs y3) y3.length false,.slice (bs u3) u3.length false,.slice (bs v3) v3.length false]⟩,⟨33,0,[.int .i64 0,.int .i64 0,.slice [] 0 true,.slice [] 0 true,.slice [] 0 true]⟩,⟨33,0,[.int .i64 w,.int .i64 ht,.slice (bs y) y.length false,.slice (bs u) u.length false,.slice (bs v) v.length false]⟩]) ?_ ?_
 ·clear hr2 hwh hr
  (repeat refine PW.seq ?_);refine PW.block ?_
  refine PW.e ?_
  (repeat refine PW.seq ?_);refine PW.cond (t:=_) rfl (fun h=> ?_) (fun h=> ?_)
  ·have hd:dir=1:=by simpa using h
   rw [zdf,if_pos hd] at hpk
   simp only [Prod.mk.injEq,Fm.mk.injEq] at hpk
   obtain ⟨⟨rfl,rfl,rfl,rfl,rfl⟩,rfl⟩:=hpk
   refine PW.e ?_
   exact ⟨rfl,rfl⟩
  ·have hd:dir≠1:=by simpa using h
   rw [zdf,if_neg hd] at hpk
   (repeat refine PW.seq ?_)
   refine PW.rgv (P:=Tryz.prog) [3,5,8,10,11] 46 (.bool (n&&(decide (t=2)&&decide (sel≠pcx ⟨t,s,i,n⟩)))) ?_ ?_ ?_
   ·rfl
   ·simp (disch:=omega) only [go_sem,↓reduceIte,reduceCtorEq];(repeat' (first|((first|refine zk ?_ ?_|refine And.intro ?_ ?_)<;>intro h<;>(try simp only [nqb] at h)<;>simp (disch:=omega) only [go_sem,↓reduceIte,reduceCtorEq,h])|((first|refine VCx.call (zkS ⟨_,_,_,_⟩ _) rfl ?_);simp (disch:=omega) only [go_sem,↓reduceIte,reduceCtorEq])))
    all_goals (clear vc fc pc hpk;first|(simp_all [slot,Nat.beq]<;>first|rfl|omega|(rw [Bool.eq_iff_iff];simp;done)|(rw [Bool.eq_iff_iff];simp;omega))|(simp_all [pcx,slot,Nat.beq]<;>first|rfl|omega|(rw [Bool.eq_iff_iff];simp;done)|(rw [Bool.eq_iff_iff];simp;omega)))
   (repeat refine PW.seq ?_);refine PW.cond (t:=_) rfl (fun h=> ?_) (fun h=> ?_)
   ·rw [if_pos h] at hpk
    simp only [Prod.mk.injEq,Fm.mk.injEq] at hpk
    obtain ⟨⟨rfl,rfl,rfl,rfl,rfl⟩,rfl⟩:=hpk
    refine PW.e ?_
    exact ⟨rfl,rfl⟩
   ·rw [if_neg (by rw [h];simp)] at hpk
    simp only [Prod.mk.injEq,Fm.mk.injEq] at hpk
    obtain ⟨⟨rfl,rfl,rfl,rfl,rfl⟩,rfl⟩:=hpk
    refine PW.skip ?_
    exact ⟨rfl,rfl⟩
 clear hpk hr hb vc fc pc
 refine PW.e ?_
 (repeat refine PW.seq ?_);refine PW.cond (t:=_) rfl (fun h=> ?_) (fun h=> ?_)
 ·have hw0:w=0:=by simpa using h
  refine PW.e ?_
  refine PW.ret ⟨.tup [.agg [.int .i64 0,.int .i64 0,.slice [] 0 true,.slice [] 0 true,.slice [] 0 true],.int .i64 6],by simp (disch:=omega) only [go_sem,↓reduceIte,reduceCtorEq,zd,zg,List.mapM_cons,List.mapM_nil,Option.pure_def,Option.bind_eq_bind,Option.bind_some,Array.toList],?_⟩
  rw [←hr2,lastF,if_pos hw0]
  exact Fin.base (fz0 _ _ _)
 have hw0:w≠0:=by simpa using h
 rw [lastF,if_neg (by exact hw0)] at hr2
 refine PW.skip ?_
 have va:=fun H=>zgb ⟨w,ht,y,u,v⟩ H
 (repeat refine PW.seq ?_)
 refine PW.rgv (P:=Tryz.prog) [3,8,10,11] 78 (.bool (!(fvd ⟨w,ht,y,u,v⟩)||(!wh&&decide (ht%32≠0)))) ?_ ?_ ?_
 ·rfl
 ·cases hv:fvd ⟨w,ht,y,u,v⟩
  ·rw [hv] at va
   simp (disch:=omega) only [go_sem,↓reduceIte,reduceCtorEq];(repeat' (first|((first|refine zk ?_ ?_|refine And.intro ?_ ?_)<;>intro h<;>(try simp only [nqb] at h)<;>simp (disch:=omega) only [go_sem,↓reduceIte,reduceCtorEq,h])|((first|refine VCx.call (va _) rfl ?_);simp (disch:=omega) only [go_sem,↓reduceIte,reduceCtorEq])))
   all_goals (clear va hr2 hwh;(simp_all [slot,Nat.beq]<;>first|rfl|omega|(rw [Bool.eq_iff_iff];simp;done)|(rw [Bool.eq_iff_iff];simp;omega)))
  ·rw [hv] at va
   have hpos:0≤ht:=by
    simp only [fvd,fmd,Bool.and_eq_true] at hv
    have:=zcV hv.1.1
    omega
   simp (disch:=omega) only [go_sem,↓reduceIte,reduceCtorEq];(repeat' (first|((first|refine zk ?_ ?_|refine And.intro ?_ ?_)<;>intro h<;>(try simp only [nqb] at h)<;>simp (disch:=omega) only [go_sem,↓reduceIte,reduceCtorEq,zP,h])|((first|refine VCx.call (va _) rfl ?_);simp (disch:=omega) only [go_sem,↓reduceIte,reduceCtorEq,zP])))
   all_goals (clear va hr2 hwh;(simp_all [slot,Nat.beq]<;>first|rfl|omega|(rw [Bool.eq_iff_iff];simp;done)|(rw [Bool.eq_iff_iff];simp;omega)))
 (repeat refine PW.seq ?_);refine PW.cond (t:=_) rfl (fun h=> ?_) (fun h=> ?_)
 ·have hq:(!(fvd ⟨w,ht,y,u,v⟩)||(!wh&&decide (ht%32≠0)))=true:=h
  refine PW.e ?_
  refine PW.ret ⟨.tup [.agg [.int .i64 0,.int .i64 0,.slice [] 0 true,.slice [] 0 true,.slice [] 0 true],.int .i64 1],by simp (disch:=omega) only [go_sem,↓reduceIte,reduceCtorEq,zd,zg,List.mapM_cons,List.mapM_nil,Option.pure_def,Option.bind_eq_bind,Option.bind_some,Array.toList],?_⟩
  rw [if_pos hq] at hr2
  rw [←hr2]
  exact Fin.base (fz0 _ _ _)
 have hq:(!(fvd ⟨w,ht,y,u,v⟩)||(!wh&&decide (ht%32≠0)))=false:=h
 rw [if_neg (by rw [hq];simp)] at hr2
 refine PW.skip ?_
 refine PW.e ?_
 (repeat refine PW.seq ?_);refine PW.cond (t:=_) rfl (fun h=> ?_) (fun h=> ?_)
 ·subst h
  refine PW.e ?_
  refine PW.ret ⟨.tup [.agg [.int .i64 w,.int .i64 ht,.slice (bs y) y.length false,.slice (bs u) u.length false,.slice (bs v) v.length false],.int .i64 0],by simp (disch:=omega) only [go_sem,↓reduceIte,reduceCtorEq,zd,zg,List.mapM_cons,List.mapM_nil,Option.pure_def,Option.bind_eq_bind,Option.bind_some,Array.toList],?_⟩
  rw [if_pos rfl] at hr2
  rw [←hr2]
  exact Fin.base (.id (zO _ _ _ _ _ _ _ _ _ _))
 ·subst h
  refine PW.skip ?_
  have hq1:fvd ⟨w,ht,y,u,v⟩=true:=by
   cases hv:fvd ⟨w,ht,y,u,v⟩ with
   | true=>rfl
   | false=>rw [hv] at hq;cases hq
  have hq2:ht%32=0:=by rw [hq1] at hq;simp at hq;omega
  obtain ⟨V,K,rfl,rfl,hok⟩:=zdB hq1 hq2
  obtain ⟨P,hP,rfl⟩:∃ P:Nat,P≤1∧sel=(P:Int):=by
   rcases hwh rfl with e|e
   ·exact ⟨0,by omega,by omega⟩
   ·exact ⟨1,by omega,by omega⟩
  have fo:=fun H=>zgZ V K P y u v H hok hP
  have e1:=zaO V K P y u v
  rw [if_neg (by simp)] at hr2
  have hr3:r=(fld V K P y u v,0):=by rw [←hr2,←e1];rfl
  rw [hr3]
  obtain ⟨g,hg⟩:∃ g,fld V K P y u v=g:=⟨_,rfl⟩
  rw [hg] at fo ⊢
  obtain ⟨a1,a2,a3,a4,a5⟩:=g
  simp only [fmc,fr4] at fo ⊢
  refine PW.f (fun K k=>by simp (disch:=omega) only [go_sem,↓reduceIte,reduceCtorEq];refine VCx.call (fo _) rfl ?_;simp (disch:=omega) only [go_sem,↓reduceIte,reduceCtorEq];exact k) ?_
  refine PW.ret ⟨.tup [.agg [.int .i64 a1,.int .i64 a2,.slice (bs a3) a3.length false,.slice (bs a4) a4.length false,.slice (bs a5) a5.length false],.int .i64 0],by simp (disch:=omega) only [go_sem,↓reduceIte,reduceCtorEq,zd,zg,List.mapM_cons,List.mapM_nil,Option.pure_def,Option.bind_eq_bind,Option.bind_some,Array.toList],?_⟩
  exact Fin.base (.id (zO _ _ _ _ _ _ _ _ _ _))
end Go.Proofs.YtjgmdlcjbgiekaaGreatDoor.Sc
namespace Go.Proofs.YtjgmdlcjbgiekaaGreatDoor.Pm
set_option linter.all false
open Go.RowKit
variable {P:Program} {C:Ctx} {H:za} {w:World} {F:Fr} {a:Act} {N:Nat}
noncomputable def opE (P:Program) (n:Nat) (ds:List (Option Nat)) (o:Oper) (F:Fr) (H:za):Option (Fr×za):=
 match zE o.op with
 | false=>stp P ds o F H
 | true=>match zad ds F o with
  | some true=>match zo o.op (slot F) with
   | some (g,args)=>match zg0 P n (.call g args H) with
    | some (.val v H1)=>some (put F o.dst v,H1)
    | _=>none
   | none=>none
  | some false=>some (put F o.dst (.tup []),H)
  | none=>none
theorem znd {n:Nat} {all:List Oper} {o:Oper} {F1:Fr} {H1:za} (h:opE P n (all.map (·.dst)) o F H=some (F1,H1)):
  (za7 all (slot F) o=some false∧F1=put F o.dst (.tup [])∧H1=H)∨(za7 all (slot F) o=some true∧∃ v,Exec P o (slot F) H v H1∧F1=put F o.dst v):=by
 have hcl:zE o.op=false→zo o.op (slot F)=none:=fun hc=>by
  unfold zo
  split
  ·rename_i f args ts ho;rw [ho] at hc;simp [zE] at hc
  ·rfl
 unfold opE at h
 split at h
 ·rename_i hc
  unfold stp at h
  split at h
  ·rename_i hb
   split at h
   ·rename_i v H' hp
    simp only [Option.some.injEq,Prod.mk.injEq] at h
    obtain ⟨rfl,rfl⟩:=h
    exact .inr ⟨zt all F o hb,v,by unfold Exec;rw [hcl hc];exact hp,rfl⟩
   ·cases h
  ·rename_i hb
   simp only [Option.some.injEq,Prod.mk.injEq] at h
   obtain ⟨rfl,rfl⟩:=h
   exact .inl ⟨zt all F o hb,rfl,rfl⟩
  ·cases h
 ·split at h
  ·rename_i hb
   split at h
   ·rename_i g args hp
    split at h
    ·rename_i v H' he
     simp only [Option.some.injEq,Prod.mk.injEq] at h
     obtain ⟨rfl,rfl⟩:=h
     exact .inr ⟨zt all F o hb,v,by unfold Exec;rw [hp];exact zd0 n _ _ he,rfl⟩
    ·cases h
   ·cases h
  ·rename_i hb
   simp only [Option.some.injEq,Prod.mk.injEq] at h
   obtain ⟨rfl,rfl⟩:=h
   exact .inl ⟨zt all F o hb,rfl,rfl⟩
  ·cases h
def zf0 {α:Type} (g:Nat→Option (List α)):List Nat→Option (List α)
 | []=>some []
 | i::r=>match g i with
  | some x=>match zf0 g r with
   | some y=>some (x++y)
   | none=>none
  | none=>none
theorem zfz {α:Type} {g:Nat→Option (List α)}:∀ {l:List Nat} {L:List α},zf0 g l=some L→∀ i∈l,∃ x,g i=some x∧∀ y∈x,y∈L
 | [],L,_,i,hi=>by cases hi
 | j::r,L,h,i,hi=>by
  simp only [zf0] at h
  split at h
  ·rename_i x hx
   split at h
   ·rename_i y hy
    injection h with h
    subst h
    rcases List.mem_cons.1 hi with rfl|hi
    ·exact ⟨x,hx,fun z hz=>List.mem_append.2 (.inl hz)⟩
    ·obtain ⟨x',h1,h2⟩:=zfz hy i hi
     exact ⟨x',h1,fun z hz=>List.mem_append.2 (.inr (h2 z hz))⟩
   ·cases h
  ·cases h
noncomputable def zqG (P:Program) (n N:Nat) (ops:Array Oper):Nat→Array Bool→Fr→za→Option (List (Fr×za))
 | 0,listed,F,H=>match Region.ready .any ops listed with|[]=>some [(F,H)]|_=>none
 | k+1,listed,F,H=>match Region.ready .any ops listed with
  | []=>some [(F,H)]
  | r=>zf0 (fun i=>match ops[i]? with
   | some o=>match zQ N o with
    | true=>match opE P n (ops.toList.map (·.dst)) o F H with
     | some (F1,H1)=>zqG P n N ops k (listed.setIfInBounds i true) F1 H1
     | none=>none
    | false=>none
   | none=>none) r
theorem zha {n:Nat} {ops:Array Oper} {Q:Exit→Act→World→Prop}:∀ (k:Nat) (listed:Array Bool) (F:Fr) (H:za) (L:List (Fr×za)),zqG P n N ops k listed F H=some L→∀ (C:Ctx) (a:Act) (w:World),a.defers=[]→WRel C H w→FRel C N (slot F) a→
  (∀ C' F' H' a' w',CLe C C'→a'.defers=[]→WRel C' H' w'→Below C.B w w'→FRel C' N (slot F') a'→(F',H')∈L→Q .normal a' w')→wpAny P .any ops Q k listed a w
 | 0,listed,F,H,L,h,C,a,w,hd,hw,hf,hQ=>by
  simp only [zqG] at h
  split at h
  ·rename_i hr
   injection h with h
   subst h
   exact ⟨hr,hQ C F H a w (.refl _) hd hw (.refl _ _) hf (by simp)⟩
  ·cases h
 | k+1,listed,F,H,L,h,C,a,w,hd,hw,hf,hQ=>by
  simp only [zqG] at h
  split at h
  ·rename_i hr
   injection h with h
   subst h
   exact ⟨fun _=>hQ C F H a w (.refl _) hd hw (.refl _ _) hf (by simp),fun i hi=>by rw [hr] at hi;cases hi⟩
  ·rename_i hne
   refine ⟨fun e=>absurd e hne,fun i hi=> ?_⟩
   obtain ⟨x,hx,hsub⟩:=zfz h i hi
   split at hx
   ·rename_i o ho
    split at hx
    ·rename_i hdst
     split at hx
     ·rename_i F1 H1 hop
      unfold wpOp
      rw [ho]
      simp only
      have next:∀ C' u w' v,F1=put F o.dst v→CLe C C'→WRel C' H1 w'→Below C.B w w'→FRel C' N (upd (slot F) o.dst v) (a.put o.dst u)→wpAny P .any ops Q k (listed.setIfInBounds i true) (a.put o.dst u) w':=by
       intro C' u w' v hF1 q1 q2 q3 q4
       refine zha k _ F1 H1 x hx C' _ w' (by cases hod:o.dst<;>simp [Act.put,hd]) q2 (by rw [hF1,zY];exact q4) ?_
       intro C'' F'' H'' a'' w'' p1 p2 p3 p4 p5 p6
       exact hQ C'' F'' H'' a'' w'' (q1.trans p1) p2 p3 (q3.trans (by rw [←q1.B];exact p4)) p5 (hsub _ p6)
      rcases znd hop with ⟨h1,h2,h3⟩|⟨h1,v,h2,h3⟩
      ·have hwant:=zL hf h1
       rw [Array.toArray_toList] at hwant
       rw [if_neg (by rw [hwant];simp)]
       exact next C _ w (.tup []) h2 (.refl _) (h3▸hw) (.refl _ _) (hf.put o.dst (zai hdst) VRel.undefV)
      ·have hwant:=zL hf h1
       rw [Array.toArray_toList] at hwant
       rw [if_pos hwant]
       left
       exact zbr hdst hw hf h2 _ _ (fun C' u w' q1 q2 q3 q4=>next C' u w' v h3 q1 q2 q3 q4)
     ·cases hx
    ·cases hx
   ·cases hx
theorem PW.any {E:Env} {Q:Exit→Fr→za→Prop} {id n:Nat} {ops:Array Oper} {L:List (Fr×za)} (hm:P.follows .mixedOrders=true) (h:zqG P n E.N ops ops.size (Array.replicate ops.size false) F H=some L) (hQ:∀ F' H',(F',H')∈L→Q .normal F' H'):
  PW P E (.region id ops true) F H Q:=fun hs C a w hdf hw hf=>by
 refine wp_region_any hm ?_
 refine zha ops.size _ F H L h C a w.drew hdf hw.drew hf ?_
 rintro C' F' H' a' w' p1 p2 p3 p4 p5 p6
 exact ⟨C',F',H',p1.toN _,p2,p3,((Below.refl C.B w).drew).trans p4,p5,hQ F' H' p6⟩
end Go.Proofs.YtjgmdlcjbgiekaaGreatDoor.Pm
namespace Go.Proofs.YtjgmdlcjbgiekaaGreatDoor.Sc
set_option linter.all false
open Pm Ty Go.RowKit
def mx3 (a b c:Int):Int:=if c>(if b>a then b else a) then c else (if b>a then b else a)
theorem zwe (k:IntKind) (a b c:Int):zej zm4 (.int k a) [.int k b,.int k c]=some (.int k (mx3 a b c)):=rfl
def mx6 (a b c d e f:Int):Int:=(fun x=>if f>x then f else x) ((fun x=>if e>x then e else x) ((fun x=>if d>x then d else x) (mx3 a b c)))
theorem zwd (k:IntKind) (a b c d e f:Int):zej zm4 (.int k a) [.int k b,.int k c,.int k d,.int k e,.int k f]=some (.int k (mx6 a b c d e f)):=rfl
attribute [go_sem high] zwe zwd
end Go.Proofs.YtjgmdlcjbgiekaaGreatDoor.Sc
