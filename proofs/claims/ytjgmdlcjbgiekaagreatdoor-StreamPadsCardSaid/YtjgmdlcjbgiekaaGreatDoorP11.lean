/-
  Parts of the proof, put together in one text. No condition.
-/
import Derived.Test.YtjgmdlcjbgiekaaGreatDoorP10
import Derived.Defers
import Derived.Recover
namespace Go.Proofs.YtjgmdlcjbgiekaaGreatDoor.Sc
set_option linter.all false
open Pm Ty Go.RowKit
def tkB (q:List UInt8) (n:Nat):Nat→Nat→Nat→List Int→Rr (List Int)
 | 0,_,a,_=>.er 2 a
 | f+1,p,a,l=>(tkU q n a).bind fun v a1=>if v=0 then .ok l a1 else if 64<p+v then .er 2 a1 else
  (tkS q n a1).bind fun w a2=>if w=0 then .er 2 a2 else if win w 4095=false then .er 2 a2 else tkB q n f (p+v) a2 (l.set (p+v - 1) w)
def z64:List Int:=List.replicate 64 0
def zeP (q:List UInt8) (n fr a:Nat):Rr (List Int):=tkB q n 65 fr a z64
theorem zhu {q:List UInt8} {n:Nat}:∀ (f p a:Nat) (l:List Int) {l':List Int} {a':Nat},tkB q n f p a l= .ok l' a'→a≤n→a<a'∧a'≤n∧l'.length=l.length
 | 0,p,a,l,l',a',h,ha=>by simp [tkB] at h
 | f+1,p,a,l,l',a',h,ha=>by
  simp only [tkB] at h
  cases hu:tkU q n a with
  | er e a1=>rw [hu] at h;cases h
  | ok v a1=>
   have b1:=zd8 hu ha
   rw [hu,Rr.bind_ok] at h
   split at h
   ·injection h with h1 h2;subst h1 h2;exact ⟨b1.2.1,b1.2.2,rfl⟩
   ·split at h
    ·cases h
    ·cases hv:tkS q n a1 with
     | er e a2=>rw [hv] at h;cases h
     | ok w a2=>
      have b2:=zd9 hv b1.2.2
      rw [hv,Rr.bind_ok] at h
      split at h
      ·cases h
      ·split at h
       ·cases h
       ·have:=zhu f (p+v) a2 _ h b2.2.2
        rw [List.length_set] at this
        exact ⟨by omega,this.2.1,this.2.2⟩
theorem zn4 {q:List UInt8} {n:Nat}:∀ (f p a:Nat) (l:List Int) {e a':Nat},tkB q n f p a l= .er e a'→a≤n→a≤a'∧a'≤n∧e≤3
 | 0,p,a,l,e,a',h,ha=>by
  simp only [tkB] at h
  injection h with h1 h2
  omega
 | f+1,p,a,l,e,a',h,ha=>by
  simp only [tkB] at h
  cases hu:tkU q n a with
  | er e1 a1=>
   rw [hu] at h
   have:=zjb hu
   injection h with h1 h2
   omega
  | ok v a1=>
   have b1:=zd8 hu ha
   rw [hu,Rr.bind_ok] at h
   split at h
   ·cases h
   ·split at h
    ·injection h with h1 h2;omega
    ·cases hv:tkS q n a1 with
     | er e2 a2=>
      rw [hv] at h
      have:=zlx hv
      injection h with h1 h2
      omega
     | ok w a2=>
      have b2:=zd9 hv b1.2.2
      rw [hv,Rr.bind_ok] at h
      split at h
      ·injection h with h1 h2;omega
      ·split at h
       ·injection h with h1 h2;omega
       ·have:=zn4 f (p+v) a2 _ h b2.2.2
        omega
def bpn (e:Nat):List PanicEntry:=pnc 364 .i64 ((e:Int)+1)
theorem zl0 (v:Int) (H:za):CallOk Tryz.prog 315 [.int .i64 v,.int .i64 0] H (.int .i64 v) H:=by
 refine CallOk.body (F0:=[(0,.int .i64 v),(1,.int .i64 0)]) Tryz.func315 rfl Tryz.ntmps315 Tryz.results315 rfl (by kernel_rfl) rfl ?_
 (repeat' (first|refine PW.seq ?_|refine PW.skip ?_|refine PW.block ?_|((first|refine PW.rg rfl fun K hK=> ?_|refine PW.draw mix (by kernel_rfl) fun K hK=> ?_);simp (disch:=omega) only [go_sem,↓reduceIte,reduceCtorEq])|((first|refine zk ?_ ?_|refine zn ?_ ?_|refine And.intro ?_ ?_)<;>intro h<;>(try simp only [nqb] at h)<;>simp (disch:=omega) only [go_sem,↓reduceIte,reduceCtorEq,h])|(refine hK _ _ ?_;clear hK K)|(refine PW.cond (t:=_) rfl (fun h=> ?_) (fun h=> ?_)<;>(try (cases h;done))<;>(try simp only [nqb] at h))))
 all_goals exact PW.ret ⟨_,rfl,Fin.now⟩
theorem zjP (e:Nat) (H:za):CallPan Tryz.prog 315 [.int .i64 0,.int .i64 ((e:Int)+1)] H (bpn e) H:=by
 have d:((e:Int)+1 !=0)=true:=by simp;omega
 refine CallPan.body (F0:=[(0,.int .i64 0),(1,.int .i64 ((e:Int)+1))]) Tryz.func315 rfl Tryz.ntmps315 rfl (by kernel_rfl) rfl ?_
 refine PW.e ?_
 refine PW.f (fun K k=>by simp (disch:=omega) only [go_sem,↓reduceIte,reduceCtorEq,d];exact k) ?_
 (repeat refine PW.seq ?_);refine PW.cond (t:=_) rfl (fun h=> ?_) (fun h=> ?_)
 rotate_left
 ·cases h
 (repeat refine PW.seq ?_);refine PW.raiseV (k:=.i64) (e:=(e:Int)+1) 2 rfl ⟨_,_,_,rfl,rfl,rfl,rfl,rfl,rfl⟩ (Nat.le_of_ble_eq_true rfl) (by kernel_rfl) fun K hK=> ?_;simp (disch:=omega) only [go_sem,↓reduceIte,reduceCtorEq];refine hK _ _ rfl ?_;clear hK K
 exact ⟨rfl,.inl rfl⟩
def rdH (H:za) (i:Nat) (p:List UInt8) (n a:Nat) (l:List Int):za:=H.set i (rA p n a)++[⟨151,0,is z64⟩,⟨151,0,is l⟩]
section
variable (H:za) (i:Nat) (p:List UInt8) (n a:Nat) (l:List Int)
theorem zlP (hi:i<H.length):(rdH H i p n a l)[i]? =some (rA p n a):=by
 unfold rdH;rw [List.getElem?_append_left (by simpa using hi)];simp [hi]
theorem zeY (hi:i<H.length) (a':Nat):(rdH H i p n a l).set i (rA p n a')=rdH H i p n a' l:=by
 unfold rdH;rw [List.set_append_left _ _ (by simpa using hi),List.set_set]
theorem zv7:(rdH H i p n a l)[H.length]? =some ⟨151,0,is z64⟩:=by
 have:=hp0 (H.set i (rA p n a)) [⟨151,0,is l⟩] ⟨151,0,is z64⟩
 rwa [List.length_set] at this
theorem zgv:(rdH H i p n a l)[H.length+1]? =some ⟨151,0,is l⟩:=by
 have:=hp1 (H.set i (rA p n a)) [] ⟨151,0,is z64⟩ ⟨151,0,is l⟩
 rwa [List.length_set] at this
theorem zoP (l':List Int):(rdH H i p n a l).set (H.length+1) ⟨151,0,is l'⟩=rdH H i p n a l':=by
 have:=hs1 (H.set i (rA p n a)) [] ⟨151,0,is z64⟩ ⟨151,0,is l⟩ ⟨151,0,is l'⟩
 rwa [List.length_set] at this
theorem zt5 (l':List Int):(rdH H i p n a l).set H.length ⟨151,0,is l'⟩=H.set i (rA p n a)++[⟨151,0,is l'⟩,⟨151,0,is l⟩]:=by
 have:=hs0 (H.set i (rA p n a)) [⟨151,0,is l⟩] ⟨151,0,is z64⟩ ⟨151,0,is l'⟩
 rwa [List.length_set] at this
end
theorem zgu (H:za) (i:Nat) (p:List UInt8) (n a:Nat) (l:List Int):zw2 H (H.set i (rA p n a)) (rdH H i p n a l):=
 .inr (.inr fun h=>⟨by simp,CutH.base (zdn _ _ _ _ _ h)⟩)
set_option maxHeartbeats 1000000 in
theorem zoO (i:Nat) (p:List UInt8) (n a fr e a':Nat) (H:za) (hA:H[i]? =some (rA p n a)) (ha:a≤n) (hn:n≤8 * p.length) (hp:p.length≤100000000) (hfr:fr≤1) (hr:zeP p n fr a= .er e a'):
  CallPan Tryz.prog 304 [.ptr i 0 0,.int .i64 (fr:Int)] H (bpn e) (H.set i (rA p n a')):=by
 have hi:=(List.getElem?_eq_some_iff.1 hA).1
 have hself:=za8 hA
 have al:=fun x K=>zqH x K
 have mo:=fun v K=>zl0 v K
 have mp:=fun e K=>zjP e K
 refine CallPan.body (F0:=[(0,.ptr i 0 0),(1,.int .i64 (fr:Int))]) Tryz.func304 rfl Tryz.ntmps304 rfl (by kernel_rfl) rfl ?_
 refine PW.e ?_
 refine PW.e ?_
 refine PW.e ?_
 (repeat refine PW.seq ?_);refine PW.block (PW.loop ?_)
 suffices hl:∀ (f at' a:Nat) (l:List Int),at'≤64→64 - at'<f→a≤n→l.length=64→tkB p n f at' a l= .er e a'→PL Tryz.prog _ _ [(0,.ptr i 0 0),(4,.ptr H.length 0 0),(5,.ptr (H.length+1) 0 0),(6,.int .i64 ((at':Int) - 1))] (rdH H i p n a l) _ by
  exact PL.at [0,4,5,6] (hl 65 fr a z64 (by omega) (by omega) ha (by simp [z64]) hr) rfl (by unfold rdH;rw [hself];rfl)
 clear hr hself hA ha
 intro f
 induction f with
 | zero=>intro at' a l h1 h2;omega
 | succ f ih=>
  intro at' a l h1 h2 ha hll hr
  have tu:=zhV i p n a (rdH H i p n a l) (zlP H i p n a l hi) ha hn hp
  simp only [tkB] at hr
  refine PL.round ?_;(repeat refine PW.seq ?_);refine PW.block ?_
  cases hu:tkU p n a with
  | er e1 a1=>
   rw [hu,Rr.bind_er] at hr
   injection hr with r1 r2
   subst r1 r2
   rw [hu] at tu
   simp only [rvU,Rr.at,zeY _ _ _ _ _ _ hi] at tu
   (repeat refine PW.seq ?_);refine PW.panV 4 rfl ⟨_,_,rfl,rfl,rfl⟩ fun K hK=> ?_;simp (disch:=omega) only [go_sem,↓reduceIte,reduceCtorEq]
   refine VCx.call (tu) rfl ?_;simp (disch:=omega) only [go_sem,↓reduceIte,reduceCtorEq]
   exact hK _ _ _ _ _ _ rfl (mp _ _) ⟨rfl,zgu ..⟩
  | ok v a1=>
   have b1:=zd8 hu ha
   rw [hu,Rr.bind_ok] at hr
   rw [hu] at tu
   simp only [rvU,Rr.at,zeY _ _ _ _ _ _ hi] at tu
   have hv0:¬ v=0:=fun e0=>by rw [if_pos e0] at hr;cases hr
   rw [if_neg hv0] at hr
   have d1:((v:Int)==0)=false:=by rw [beq_eq_false_iff_ne];omega
   (repeat refine PW.seq ?_);refine PW.rg rfl fun K hK=> ?_;simp (disch:=omega) only [go_sem,↓reduceIte,reduceCtorEq]
   refine VCx.call (tu) rfl ?_;simp (disch:=omega) only [go_sem,↓reduceIte,reduceCtorEq]
   refine VCx.call (mo _ _) rfl ?_;simp (disch:=omega) only [go_sem,↓reduceIte,reduceCtorEq];refine hK _ _ ?_;clear hK K
   refine PW.f (fun K k=>by simp (disch:=omega) only [go_sem,↓reduceIte,reduceCtorEq,d1];exact k) ?_
   (repeat refine PW.seq ?_);refine PW.cond (t:=_) rfl (fun h=> ?_) (fun h=> ?_)
   ·cases h
   refine PW.skip ?_
   refine PW.e ?_
   have e1:(at':Int) - 1+(v:Int)=((at'+v:Nat):Int) - 1:=by omega
   by_cases h64:64<at'+v
   ·rw [if_pos h64] at hr
    injection hr with r1 r2
    subst r1 r2
    have d2:decide ((64:Int)≤((at'+v:Nat):Int) - 1)=true:=decide_eq_true (by omega)
    refine PW.f (fun K k=>by simp (disch:=omega) only [go_sem,↓reduceIte,reduceCtorEq,e1,d2];exact k) ?_
    (repeat refine PW.seq ?_);refine PW.cond (t:=_) rfl (fun h=> ?_) (fun h=> ?_)
    rotate_left
    ·cases h
    (repeat refine PW.seq ?_);refine PW.raiseV (k:=.i64) (e:=3) 1 rfl ⟨_,_,_,rfl,rfl,rfl,rfl,rfl,rfl⟩ (Nat.le_of_ble_eq_true rfl) (by kernel_rfl) fun K hK=> ?_;simp (disch:=omega) only [go_sem,↓reduceIte,reduceCtorEq];refine hK _ _ rfl ?_;clear hK K
    exact ⟨rfl,zgu ..⟩
   rw [if_neg h64] at hr
   have d2:decide ((64:Int)≤((at'+v:Nat):Int) - 1)=false:=decide_eq_false (by omega)
   refine PW.f (fun K k=>by simp (disch:=omega) only [go_sem,↓reduceIte,reduceCtorEq,e1,d2];exact k) ?_
   (repeat refine PW.seq ?_);refine PW.cond (t:=_) rfl (fun h=> ?_) (fun h=> ?_)
   ·cases h
   refine PW.skip ?_
   have ts:=zhW i p n a1 (rdH H i p n a1 l) (zlP H i p n a1 l hi) b1.2.2 hn hp
   cases hw:tkS p n a1 with
   | er e2 a2=>
    rw [hw,Rr.bind_er] at hr
    injection hr with r1 r2
    subst r1 r2
    rw [hw] at ts
    simp only [rvS,Rr.at,zeY _ _ _ _ _ _ hi] at ts
    (repeat refine PW.seq ?_);refine PW.panV 5 rfl ⟨_,_,rfl,rfl,rfl⟩ fun K hK=> ?_;simp (disch:=omega) only [go_sem,↓reduceIte,reduceCtorEq]
    refine VCx.call (ts) rfl ?_;simp (disch:=omega) only [go_sem,↓reduceIte,reduceCtorEq]
    exact hK _ _ _ _ _ _ rfl (mp _ _) ⟨rfl,zgu ..⟩
   | ok w a2=>
    have b2:=zd9 hw b1.2.2
    rw [hw,Rr.bind_ok] at hr
    rw [hw] at ts
    simp only [rvS,Rr.at,zeY _ _ _ _ _ _ hi] at ts
    have e3:((at'+v:Nat):Int) - 1=((at'+v - 1:Nat):Int):=by omega
    have hil:(is l).length=64:=by rw [zu,hll]
    (repeat refine PW.seq ?_);refine PW.rg rfl fun K hK=> ?_;simp (disch:=omega) only [go_sem,↓reduceIte,reduceCtorEq]
    refine VCx.call (ts) rfl ?_;simp (disch:=omega) only [go_sem,↓reduceIte,reduceCtorEq]
    refine VCx.call (mo _ _) rfl ?_;simp (disch:=omega) only [go_sem,↓reduceIte,reduceCtorEq,e1,e3,zgv,hil,zbJ,zoP];refine hK _ _ ?_;clear hK K
    have hgl:(is (l.set (at'+v - 1) w))[at'+v - 1]? =some (.int .i64 w):=by
     rw [zbq _ _ (by rw [List.length_set];omega)]
     simp [zh,hll,show at'+v - 1<64 by omega]
    have hil2:(is (l.set (at'+v - 1) w)).length=64:=by rw [zu,List.length_set,hll]
    by_cases hw0:w=0
    ·rw [if_pos hw0] at hr
     injection hr with r1 r2
     subst r1 r2
     have d3:(w==0)=true:=by simp [hw0]
     refine PW.f (fun K k=>by simp (disch:=omega) only [go_sem,↓reduceIte,reduceCtorEq,e1,e3,zgv,hil2,hgl,d3];exact k) ?_
     (repeat refine PW.seq ?_);refine PW.cond (t:=_) rfl (fun h=> ?_) (fun h=> ?_)
     rotate_left
     ·cases h
     (repeat refine PW.seq ?_);refine PW.raiseV (k:=.i64) (e:=3) 1 rfl ⟨_,_,_,rfl,rfl,rfl,rfl,rfl,rfl⟩ (Nat.le_of_ble_eq_true rfl) (by kernel_rfl) fun K hK=> ?_;simp (disch:=omega) only [go_sem,↓reduceIte,reduceCtorEq];refine hK _ _ rfl ?_;clear hK K
     exact ⟨rfl,zgu ..⟩
    ·rw [if_neg hw0] at hr
     have d3:(w==0)=false:=by simp [hw0]
     have alw:=fun K=>al w K
     cases hwn:win w 4095 with
     | false=>
      rw [hwn,if_pos rfl] at hr
      rw [hwn] at alw
      injection hr with r1 r2
      subst r1 r2
      (repeat refine PW.seq ?_);refine PW.rg rfl fun K hK=> ?_;simp (disch:=omega) only [go_sem,↓reduceIte,reduceCtorEq,e1,e3,zgv,hil2,hgl,d3]
      refine VCx.call (alw _) rfl ?_;simp (disch:=omega) only [go_sem,↓reduceIte,reduceCtorEq];refine hK _ _ ?_;clear hK K
      (repeat refine PW.seq ?_);refine PW.cond (t:=_) rfl (fun h=> ?_) (fun h=> ?_)
      rotate_left
      ·cases h
      (repeat refine PW.seq ?_);refine PW.raiseV (k:=.i64) (e:=3) 1 rfl ⟨_,_,_,rfl,rfl,rfl,rfl,rfl,rfl⟩ (Nat.le_of_ble_eq_true rfl) (by kernel_rfl) fun K hK=> ?_;simp (disch:=omega) only [go_sem,↓reduceIte,reduceCtorEq];refine hK _ _ rfl ?_;clear hK K
      exact ⟨rfl,zgu ..⟩
     | true=>
      rw [hwn,if_neg (by decide)] at hr
      rw [hwn] at alw
      (repeat refine PW.seq ?_);refine PW.rg rfl fun K hK=> ?_;simp (disch:=omega) only [go_sem,↓reduceIte,reduceCtorEq,e1,e3,zgv,hil2,hgl,d3]
      refine VCx.call (alw _) rfl ?_;simp (disch:=omega) only [go_sem,↓reduceIte,reduceCtorEq];refine hK _ _ ?_;clear hK K
      (repeat refine PW.seq ?_);refine PW.cond (t:=_) rfl (fun h=> ?_) (fun h=> ?_)
      ·cases h
      refine PW.skip ?_
      exact PL.at [0,4,5,6] (ih (at'+v) a2 _ (by omega) (by omega) b2.2.2 (by rw [List.length_set,hll]) hr) (by simp [kp,slot,Nat.beq];omega) rfl
set_option maxHeartbeats 1000000 in
theorem zrr (i:Nat) (p:List UInt8) (n a fr a':Nat) (l':List Int) (H:za) (hA:H[i]? =some (rA p n a)) (ha:a≤n) (hn:n≤8 * p.length) (hp:p.length≤100000000) (hfr:fr≤1) (hr:zeP p n fr a= .ok l' a'):
  CallOk Tryz.prog 304 [.ptr i 0 0,.int .i64 (fr:Int)] H (.agg (is l')) (H.set i (rA p n a')):=by
 have hi:=(List.getElem?_eq_some_iff.1 hA).1
 have hself:=za8 hA
 have al:=fun x K=>zqH x K
 have mo:=fun v K=>zl0 v K
 have mp:=fun e K=>zjP e K
 refine CallOk.body (F0:=[(0,.ptr i 0 0),(1,.int .i64 (fr:Int))]) Tryz.func304 rfl Tryz.ntmps304 Tryz.results304 rfl (by kernel_rfl) rfl ?_
 refine PW.e ?_
 refine PW.e ?_
 refine PW.e ?_
 (repeat refine PW.seq ?_);refine PW.block (PW.loop ?_)
 suffices hl:∀ (f at' a:Nat) (l:List Int),at'≤64→64 - at'<f→a≤n→l.length=64→tkB p n f at' a l= .ok l' a'→PL Tryz.prog _ _ [(0,.ptr i 0 0),(4,.ptr H.length 0 0),(5,.ptr (H.length+1) 0 0),(6,.int .i64 ((at':Int) - 1))] (rdH H i p n a l) _ by
  exact PL.at [0,4,5,6] (hl 65 fr a z64 (by omega) (by omega) ha (by simp [z64]) hr) rfl (by unfold rdH;rw [hself];rfl)
 clear hr hself hA ha
 intro f
 induction f with
 | zero=>intro at' a l h1 h2;omega
 | succ f ih=>
  intro at' a l h1 h2 ha hll hr
  have tu:=zhV i p n a (rdH H i p n a l) (zlP H i p n a l hi) ha hn hp
  simp only [tkB] at hr
  refine PL.round ?_;(repeat refine PW.seq ?_);refine PW.block ?_
  cases hu:tkU p n a with
  | er e1 a1=>
   rw [hu,Rr.bind_er] at hr
   cases hr
  | ok v a1=>
   have b1:=zd8 hu ha
   rw [hu,Rr.bind_ok] at hr
   rw [hu] at tu
   simp only [rvU,Rr.at,zeY _ _ _ _ _ _ hi] at tu
   by_cases hv0:v=0
   ·rw [if_pos hv0] at hr
    injection hr with r1 r2
    subst r1 r2
    have d1:((v:Int)==0)=true:=by simp [hv0]
    (repeat refine PW.seq ?_);refine PW.rg rfl fun K hK=> ?_;simp (disch:=omega) only [go_sem,↓reduceIte,reduceCtorEq]
    refine VCx.call (tu) rfl ?_;simp (disch:=omega) only [go_sem,↓reduceIte,reduceCtorEq]
    refine VCx.call (mo _ _) rfl ?_;simp (disch:=omega) only [go_sem,↓reduceIte,reduceCtorEq];refine hK _ _ ?_;clear hK K
    refine PW.f (fun K k=>by simp (disch:=omega) only [go_sem,↓reduceIte,reduceCtorEq,d1];exact k) ?_
    (repeat refine PW.seq ?_);refine PW.cond (t:=_) rfl (fun h=> ?_) (fun h=> ?_)
    rotate_left
    ·cases h
    have hil:(is l).length=64:=by rw [zu,hll]
    have hz:(is z64).length=64:=by rw [zu];simp [z64]
    have htk:List.take 64 (is l)=is l:=List.take_of_length_le (by omega)
    have hcel:=zW l
    have hdz:List.drop 64 (is z64)=[]:=List.drop_of_length_le (by omega)
    have hg0:(H.set i (rA p n a1)++[⟨151,0,is l⟩,⟨151,0,is l⟩])[H.length]? =some ⟨151,0,is l⟩:=by
     have:=hp0 (H.set i (rA p n a1)) [⟨151,0,is l⟩] ⟨151,0,is l⟩
     rwa [List.length_set] at this
    refine PW.f (fun K k=>by simp (disch:=omega) only [go_sem,↓reduceIte,reduceCtorEq,zgv,zv7,hil,hz,htk,hcel,hdz,zt5];exact k) ?_
    refine PW.ret ⟨.agg (is l),by simp (disch:=omega) only [go_sem,↓reduceIte,reduceCtorEq,zd,zg,List.mapM_cons,List.mapM_nil,Option.pure_def,Option.bind_eq_bind,Option.bind_some,Array.toList,hg0,hil,htk],?_⟩
    exact Fin.cut rfl (by simp) (zdn _ _ _ _ _) (.id (zB (zat _ _)))
   rw [if_neg hv0] at hr
   have d1:((v:Int)==0)=false:=by rw [beq_eq_false_iff_ne];omega
   (repeat refine PW.seq ?_);refine PW.rg rfl fun K hK=> ?_;simp (disch:=omega) only [go_sem,↓reduceIte,reduceCtorEq]
   refine VCx.call (tu) rfl ?_;simp (disch:=omega) only [go_sem,↓reduceIte,reduceCtorEq]
   refine VCx.call (mo _ _) rfl ?_;simp (disch:=omega) only [go_sem,↓reduceIte,reduceCtorEq];refine hK _ _ ?_;clear hK K
   refine PW.f (fun K k=>by simp (disch:=omega) only [go_sem,↓reduceIte,reduceCtorEq,d1];exact k) ?_
   (repeat refine PW.seq ?_);refine PW.cond (t:=_) rfl (fun h=> ?_) (fun h=> ?_)
   ·cases h
   refine PW.skip ?_
   refine PW.e ?_
   have e1:(at':Int) - 1+(v:Int)=((at'+v:Nat):Int) - 1:=by omega
   by_cases h64:64<at'+v
   ·rw [if_pos h64] at hr
    cases hr
   rw [if_neg h64] at hr
   have d2:decide ((64:Int)≤((at'+v:Nat):Int) - 1)=false:=decide_eq_false (by omega)
   refine PW.f (fun K k=>by simp (disch:=omega) only [go_sem,↓reduceIte,reduceCtorEq,e1,d2];exact k) ?_
   (repeat refine PW.seq ?_);refine PW.cond (t:=_) rfl (fun h=> ?_) (fun h=> ?_)
   ·cases h
   refine PW.skip ?_
   have ts:=zhW i p n a1 (rdH H i p n a1 l) (zlP H i p n a1 l hi) b1.2.2 hn hp
   cases hw:tkS p n a1 with
   | er e2 a2=>
    rw [hw,Rr.bind_er] at hr
    cases hr
   | ok w a2=>
    have b2:=zd9 hw b1.2.2
    rw [hw,Rr.bind_ok] at hr
    rw [hw] at ts
    simp only [rvS,Rr.at,zeY _ _ _ _ _ _ hi] at ts
    have e3:((at'+v:Nat):Int) - 1=((at'+v - 1:Nat):Int):=by omega
    have hil:(is l).length=64:=by rw [zu,hll]
    (repeat refine PW.seq ?_);refine PW.rg rfl fun K hK=> ?_;simp (disch:=omega) only [go_sem,↓reduceIte,reduceCtorEq]
    refine VCx.call (ts) rfl ?_;simp (disch:=omega) only [go_sem,↓reduceIte,reduceCtorEq]
    refine VCx.call (mo _ _) rfl ?_;simp (disch:=omega) only [go_sem,↓reduceIte,reduceCtorEq,e1,e3,zgv,hil,zbJ,zoP];refine hK _ _ ?_;clear hK K
    have hgl:(is (l.set (at'+v - 1) w))[at'+v - 1]? =some (.int .i64 w):=by
     rw [zbq _ _ (by rw [List.length_set];omega)]
     simp [zh,hll,show at'+v - 1<64 by omega]
    have hil2:(is (l.set (at'+v - 1) w)).length=64:=by rw [zu,List.length_set,hll]
    by_cases hw0:w=0
    ·rw [if_pos hw0] at hr
     cases hr
    ·rw [if_neg hw0] at hr
     have d3:(w==0)=false:=by simp [hw0]
     have alw:=fun K=>al w K
     cases hwn:win w 4095 with
     | false=>
      rw [hwn,if_pos rfl] at hr
      cases hr
     | true=>
      rw [hwn,if_neg (by decide)] at hr
      rw [hwn] at alw
      (repeat refine PW.seq ?_);refine PW.rg rfl fun K hK=> ?_;simp (disch:=omega) only [go_sem,↓reduceIte,reduceCtorEq,e1,e3,zgv,hil2,hgl,d3]
      refine VCx.call (alw _) rfl ?_;simp (disch:=omega) only [go_sem,↓reduceIte,reduceCtorEq];refine hK _ _ ?_;clear hK K
      (repeat refine PW.seq ?_);refine PW.cond (t:=_) rfl (fun h=> ?_) (fun h=> ?_)
      ·cases h
      refine PW.skip ?_
      exact PL.at [0,4,5,6] (ih (at'+v) a2 _ (by omega) (by omega) b2.2.2 (by rw [List.length_set,hll]) hr) (by simp [kp,slot,Nat.beq];omega) rfl
end Go.Proofs.YtjgmdlcjbgiekaaGreatDoor.Sc
namespace Go.Proofs.YtjgmdlcjbgiekaaGreatDoor.Pm
set_option linter.all false
open Go.RowKit
variable {P:Program} {C:Ctx} {H:za} {w:World} {F:Fr} {a:Act} {N:Nat}
theorem zkl {all:Array Oper} {o:Oper} {rest:List Oper} {v:PV} {H':za} {Q:Exit→Act→World→Prop} (hw:WRel C H w) (hf:FRel C N (slot F) a) (hd:zQ N o=true) (hg:o.guard=none) (hp:zo o.op (slot F)=none) (he:pop P o.op (slot F) H=some (v,H'))
  (hn:∀ C' u w',CLe C C'→WRel C' H' w'→Below C.B w w'→FRel C' N (slot (put F o.dst v)) (a.put o.dst u)→wpList P all Q rest (a.put o.dst u) w'):wpList P all Q (o::rest) a w:=by
 unfold wpList
 rw [if_pos (by simp [Region.wanted,hg])]
 left
 refine zbH hd hw hf (R:=fun v' H''=>v'=v∧H''=H') (by unfold zcj;rw [hp];exact ⟨v,H',he,rfl,rfl⟩) _ _ fun C' u w' v' H'' q0 q1 q2 q3 q4=> ?_
 obtain ⟨rfl,rfl⟩:=q0
 rw [←zY] at q4
 exact hn C' u w' q1 q2 q3 q4
theorem zhS {all:Array Oper} {o:Oper} {rest:List Oper} {u:Value} {Q:Exit→Act→World→Prop} (hg:o.guard=none) (he:(execOp a.eval o).run P w= .ok (.value u) w) (hn:wpList P all Q rest (a.put o.dst u) w):wpList P all Q (o::rest) a w:=by
 unfold wpList
 rw [if_pos (by simp [Region.wanted,hg])]
 left
 unfold Oper.wp
 rw [he,Oper.upon_value]
 exact hn
theorem znl {args:List PV} {us:List Value} (hargs:VRels C args us) (hn:args.length≤N):FRel C N (slot (zb7 args 0)) { tmps:=us.toArray++Array.replicate (N - us.toArray.size) Go.undef,defers:=[] }:=by
 refine ⟨by simp [hargs.1];omega,fun t=> ?_⟩
 rw [zcD]
 simp only [Nat.zero_le,if_true,Nat.sub_zero]
 by_cases ht:t<args.length
 ·have htu:t<us.length:=by rw [hargs.1];exact ht
  have e1:args.getD t .undef=args[t]:=by simp [List.getD,ht]
  have e2:(us.toArray++Array.replicate (N - us.toArray.size) Go.undef).getD t Go.undef=us[t]:=by
   rw [Array.getD_eq_getD_getElem?,Array.getElem?_append_left (by simpa using htu)]
   simp [htu]
  rw [e1,e2]
  exact hargs.2 t _ _ (List.getElem?_eq_getElem ht) (List.getElem?_eq_getElem htu)
 ·have e1:args.getD t .undef= .undef:=by simp [List.getD,List.getElem?_eq_none (by omega:args.length≤t)]
  rw [e1]
  exact .undef _
theorem WRel.drop {A K:za} {C0:Ctx} {w0:World} (h0:WRel C0 H w0) (hl:H.length=A.length) (hA:HSc A) (hle:CLe C0 C) (hw:WRel C (A++K) w):∃ C',CLe C0 C'∧WRel C' A w:=by
 obtain ⟨g1,g2⟩:=hw.cutN (CutH.base hA)
 exact ⟨_,((hle.toN _).trans (g1.less (m:=H.length) (by omega))).full h0.lenv,g2⟩
theorem zmL {all:Array Oper} {o:Oper} {rest:List Oper} {d:Deferred} {Q:Exit→Act→World→Prop} (hg:o.guard=none) (he:(execOp a.eval o).run P w= .ok (.defer d) w) (hn:wpList P all Q rest ({ a with defers:=d::a.defers }.put o.dst Go.undef) w):wpList P all Q (o::rest) a w:=by
 unfold wpList
 rw [if_pos (by simp [Region.wanted,hg])]
 left
 unfold Oper.wp
 rw [he,Oper.upon_defer]
 exact hn
theorem PW.hand {c:Code} {F1:Fr} {H1:za} {Q:Exit→Act→World→Prop} (ks:List Nat) (h:PW P ⟨N,H⟩ c F H (fun x F' H'=>x= .normal∧kp ks F'=F1∧H'=H1)) (hd:a.defers=[]) (hw:WRel C H w) (hf:FRel C N (slot F) a)
  (hn:∀ C' a' w',CLe C C'→a'.defers=[]→WRel C' H1 w'→Below C.B w w'→FRel C' N (slot F1) a'→Q .normal a' w'):c.wp P Q a w:=by
 refine wp_mono (h hw.hsc C a w hd hw hf) ?_
 rintro x a' w' ⟨C',F',H',y1,y2,y3,y4,y5,rfl,rfl,rfl⟩
 exact hn C' a' w' (y1.full hw.lenv) y2 y3 y4 (y5.keep ks)
theorem zdI {id:Nat} {ops:Array Oper} {K:Fr→za→Prop} {Q:Exit→Act→World→Prop} (n:Nat) (hd:(ops.toList.take n).all (zQ N)=true) (h:VO P (ops.toList.map (·.dst)) (ops.toList.take n) (some (F,H)) K) {D:List Deferred} (hD:a.defers=D) (hw:WRel C H w) (hf:FRel C N (slot F) a)
  (hn:∀ C' F' H' a' w',CLe C C'→a'.defers=D→WRel C' H' w'→Below C.B w w'→FRel C' N (slot F') a'→K F' H'→wpList P ops Q (ops.toList.drop n) a' w'):(Code.region id ops false).wp P Q a w:=by
 refine wp_region_list ?_
 have:=zcq (P:=P) (all:=ops.toList) (rest:=ops.toList.drop n) (ops.toList.take n) F H hd (zaj _ _ _ h) C a w hD hw hf Q (fun C' F' H' a' w' p1 p2 p3 p4 p5 p6=>by
  simpa using hn C' F' H' a' w' p1 p2 p3 p4 p5 p6)
 rw [List.take_append_drop] at this
 simpa using this
theorem WRel.dropV {A K:za} {C0:Ctx} {w0:World} {v:PV} {u:Value} (h0:WRel C0 H w0) (hl:H.length=A.length) (hA:HSc A) (hle:CLe C0 C) (hw:WRel C (A++K) w) (hv:VRel C v u) (hs:Scoped A.length v):∃ C',CLe C0 C'∧WRel C' A w∧VRel C' v u:=by
 obtain ⟨g1,g2⟩:=hw.cutN (CutH.base hA)
 exact ⟨_,((hle.toN _).trans (g1.less (m:=H.length) (by omega))).full h0.lenv,g2,(Fz.id hs).sound hw hv⟩
end Go.Proofs.YtjgmdlcjbgiekaaGreatDoor.Pm
namespace Go.Proofs.YtjgmdlcjbgiekaaGreatDoor.Sc
set_option linter.all false
open Pm Ty Go.RowKit
theorem zll (x y:Value) (w:World):CallsD Tryz.prog 303 #[x,y] .returning w fun e u' w'=>e= .returned (.tuple #[])∧u'= .returning∧w'=w:=by
 refine callsD_of_wpS Tryz.func303 rfl fun c₀ cs hu=> ?_
 apply wpS_seq
 apply wpS_region
 simp [wpOpsS,go_sem,recoverD,hu,Tryz.ntmps303,Exit.thenS]
 apply wpS_seq
 apply wpS_region
 simp [wpOpsS,go_sem,Exit.thenS]
 refine wpS_cond (t:=false) (by simp [Act.eval,Array.replicate]) ?_
 simp only [Bool.false_eq_true,if_false]
 refine wpS_of_wp (wp_skip ?_)
 cases c₀
 simp_all [bodyPostS,results,Tryz.results303]
def zsD (C:Ctx) (H':za) (w:World) (e:Nat):Ending→FrameMode→World→Prop:=fun x u' w'=>
 x= .returned (.tuple #[])∧u'= .panicking [{ v:=.iface 364 (.agg #[.int .i64 ((e:Int)+1)]),recovered:=true }]∧∃ C',CLe C C'∧WRel C' H' w'∧Below C.B w w'
set_option maxHeartbeats 1000000 in
theorem znv (i4 i5 e:Nat) (l:List Int) (z:Int) (H:za) (C:Ctx) (x y:Value) (w:World) (h4:H[i4]? =some ⟨151,0,is l⟩) (h5:H[i5]? =some ⟨44,0,[.int .i64 z]⟩) (hl:l.length=64) (hne:i4≠i5)
  (hw:WRel C H w) (hx:VRel C (.ptr i4 0 0) x) (hy:VRel C (.ptr i5 0 0) y):
  CallsD Tryz.prog 303 #[x,y] (.panicking (bpn e)) w (zsD C ((H.set i4 ⟨151,0,is z64⟩).set i5 ⟨44,0,[.int .i64 ((e:Int)+1)]⟩) w e):=by
 refine callsD_of_wpS Tryz.func303 rfl fun c₀ cs hu=> ?_
 unfold bpn pnc at hu
 apply wpS_seq
 apply wpS_region
 simp [wpOpsS,go_sem,recoverD,hu,Tryz.ntmps303,Exit.thenS]
 apply wpS_seq
 apply wpS_region
 simp [wpOpsS,go_sem,Exit.thenS]
 refine wpS_cond (t:=true) (by simp [Act.eval,Array.replicate]) ?_
 simp only [if_true]
 refine wpS_of_wp ?_
 have hp4:i4<H.length:=(List.getElem?_eq_some_iff.1 h4).1
 have hp5:i5<H.length:=(List.getElem?_eq_some_iff.1 h5).1
 have hfr:FRel C 17 (slot [(0,.ptr i4 0 0),(1,.ptr i5 0 0)]) { tmps:= #[x,y]++((((Array.replicate 15 undef).setIfInBounds 3 (Value.iface 364 (.agg #[.int .i64 ((e:Int)+1)]))).setIfInBounds 0 (Value.iface 364 (.agg #[.int .i64 ((e:Int)+1)]))).setIfInBounds 4 (Value.iface 364 (.agg #[.int .i64 ((e:Int)+1)]))).setIfInBounds 5 (Value.bool true),defers:=[] }:=by
  refine ⟨by simp,fun t=> ?_⟩
  match t with
  | 0=>exact hx
  | 1=>exact hy
  | t+2=>exact .undef _
 have hil:(is l).length=64:=by rw [zu,hl]
 have hz:(is z64).length=64:=by rw [zu];simp [z64]
 have hzc:(is z64).all PV.cell=true:=zW z64
 have hdl:List.drop 64 (is l)=[]:=List.drop_of_length_le (by omega)
 have hbz:∀ Q:List PV→Prop,Q (is z64)→Q (List.replicate 64 (.int .i64 0)):=fun Q h=>by simpa [is,z64] using h
 have h5':(H.set i4 ⟨151,0,is z64⟩)[i5]? =some ⟨44,0,[.int .i64 z]⟩:=by rw [List.getElem?_set_ne hne];exact h5
 generalize hPQ:bodyPostS Tryz.prog _ c₀ cs _=PQ
 refine wp_seq (wp_region_list ?_)
 refine zkl (v:=.agg (is z64)) (H':=H) hw hfr rfl rfl rfl (by kernel_rfl) fun C1 u1 w1 p1 p2 p3 p4=> ?_
 refine zkl (v:=.tup []) (H':=H.set i4 ⟨151,0,is z64⟩) p2 p4 rfl rfl rfl (by simp (disch:=omega) only [go_sem,↓reduceIte,reduceCtorEq,h4,hz,hil,hdl]) fun C2 u2 w2 r1 r2 r3 r4=> ?_
 refine zkl (v:=.tup []) (H':=(H.set i4 ⟨151,0,is z64⟩).set i5 ⟨44,0,[.int .i64 3]⟩) r2 r4 rfl rfl rfl (by simp (disch:=omega) only [go_sem,↓reduceIte,reduceCtorEq,h5']) fun C3 u3 w3 s1 s2 s3 s4=> ?_
 refine wp_seq (wp_region_list ?_)
 refine zhS (u:=.iface 364 (.agg #[.int .i64 ((e:Int)+1)])) rfl (by kernel_rfl) ?_
 have t1:=s4.put (some 10) (fun t ht=>by injection ht with ht;omega) (VRel.undef (C:=C3) (Value.iface 364 (.agg #[.int .i64 ((e:Int)+1)])))
 refine zhS (u:=.tuple #[.agg #[.int .i64 ((e:Int)+1)],.bool true]) rfl (by kernel_rfl) ?_
 have hvt:VRel C3 (.tup [.agg [.int .i64 ((e:Int)+1)],.bool true]) (.tuple #[.agg #[.int .i64 ((e:Int)+1)],.bool true]):=by
  refine .tup (us:=[.agg #[.int .i64 ((e:Int)+1)],.bool true]) rfl fun j x u hx hu=> ?_
  match j with
  | 0=>
   injection hx with hx;injection hu with hu
   subst hx hu
   refine .agg (us:=[.int .i64 ((e:Int)+1)]) rfl (by simp [PV.cell]) fun j x u hx hu=> ?_
   match j with
   | 0=>injection hx with hx;injection hu with hu;subst hx hu;exact .int _ _
   | j+1=>cases hx
  | 1=>injection hx with hx;injection hu with hu;subst hx hu;exact .bool _
  | j+2=>cases hx
 have t2:=t1.put (some 11) (fun t ht=>by injection ht with ht;omega) hvt
 rw [←zY,←zY] at t2
 have hl2:((H.set i4 ⟨151,0,is z64⟩).set i5 ⟨44,0,[.int .i64 3]⟩).length=H.length:=by simp
 have g5:((H.set i4 ⟨151,0,is z64⟩).set i5 ⟨44,0,[.int .i64 3]⟩)[i5]? =some ⟨44,0,[.int .i64 3]⟩:=by simp [hp5]
 have hss:((H.set i4 ⟨151,0,is z64⟩).set i5 ⟨44,0,[.int .i64 3]⟩).set i5 ⟨44,0,[.int .i64 ((e:Int)+1)]⟩=(H.set i4 ⟨151,0,is z64⟩).set i5 ⟨44,0,[.int .i64 ((e:Int)+1)]⟩:=List.set_set ..
 have hscF:HSc H→HSc ((H.set i4 ⟨151,0,is z64⟩).set i5 ⟨44,0,[.int .i64 ((e:Int)+1)]⟩):=fun h=>HSc.set (HSc.set h (zat _ _)) fun x hx=>by
  simp only [List.mem_cons,List.not_mem_nil,or_false] at hx
  subst hx;exact .int _ _
 have hlF:H.length=((H.set i4 ⟨151,0,is z64⟩).set i5 ⟨44,0,[.int .i64 ((e:Int)+1)]⟩).length:=by simp
 generalize (H.set i4 ⟨151,0,is z64⟩).set i5 ⟨44,0,[.int .i64 3]⟩=H2 at *
 generalize (H.set i4 ⟨151,0,is z64⟩).set i5 ⟨44,0,[.int .i64 ((e:Int)+1)]⟩=H3 at *
 refine zbm (N:=17) _ _ _ rfl (K:=fun F' H'=>kp [1,3,4] F'=[(1,.ptr i5 0 0),(3,.ptr H2.length 0 0),(4,.bool true)]∧H'=H2++[⟨364,0,[.int .i64 ((e:Int)+1)]⟩]) (zaj _ _ _ ?_) C3 _ w3 rfl s2 t2 _ ?_
 ·simp (disch:=omega) only [go_sem,↓reduceIte,reduceCtorEq]
 intro C4 F4 H4 a4 w4 k1 k2 k3 k4 k5 ⟨k6,k7⟩
 subst k7
 have k5':=k5.keep [1,3,4]
 rw [k6] at k5'
 have g5x:=zZ (K:=[(⟨364,0,[.int .i64 ((e:Int)+1)]⟩:Blk)]) g5
 have hsx:∀ B:Blk,(H2++[(⟨364,0,[.int .i64 ((e:Int)+1)]⟩:Blk)]).set i5 B=H2.set i5 B++[⟨364,0,[.int .i64 ((e:Int)+1)]⟩]:=fun B=>by
  exact List.set_append_left _ _ (by omega)
 have gF:=hp0 H2 [] ⟨364,0,[.int .i64 ((e:Int)+1)]⟩
 have pw:∀ {c:Code} {Q:Exit→Act→World→Prop},PW Tryz.prog ⟨17,H2++[⟨364,0,[.int .i64 ((e:Int)+1)]⟩]⟩ c [(1,.ptr i5 0 0),(3,.ptr H2.length 0 0),(4,.bool true)] (H2++[⟨364,0,[.int .i64 ((e:Int)+1)]⟩]) (fun x _ H'=>x= .normal∧H'=H3++[⟨364,0,[.int .i64 ((e:Int)+1)]⟩])→
   (∀ C' a' w',CLe C4 C'→a'.defers=[]→WRel C' (H3++[⟨364,0,[.int .i64 ((e:Int)+1)]⟩]) w'→Below C4.B w4 w'→a'.tmps.size=17→Q .normal a' w')→c.wp Tryz.prog Q a4 w4:=fun h hQ=>by
  refine wp_mono (h k3.hsc C4 a4 w4 k2 k3 k5') ?_
  rintro x a' w' ⟨C',F',H',y1,y2,y3,y4,y5,rfl,rfl⟩
  exact hQ C' a' w' (y1.full k3.lenv) y2 y3 y4 y5.1
 refine pw ?_ ?_
 ·refine PW.e ?_
  (repeat refine PW.seq ?_);refine PW.cond (t:=_) rfl (fun h=> ?_) (fun h=> ?_)
  rotate_left
  ·cases h
  refine PW.f (fun K k=>by simp (disch:=omega) only [go_sem,↓reduceIte,reduceCtorEq,gF,g5x,hsx,hss];exact k) ?_
  exact ⟨rfl,rfl⟩
 intro C5 a5 w5 y1 y2 y3 y4 y5
 show PQ _ _ _ _
 rw [←hPQ]
 have c1:=p1.trans r1
 have c2:=c1.trans s1
 have c3:=c2.trans k1
 have c4:=c3.trans y1
 have b1:=p3.trans (by rw [←p1.B];exact r3)
 have b2:=b1.trans (by rw [←c1.B];exact s3)
 have b3:=b2.trans (by rw [←c2.B];exact k4)
 have b4:=b3.trans (by rw [←c3.B];exact y4)
 obtain ⟨C',d1,d2⟩:=WRel.drop hw hlF (hscF hw.hsc) c4 y3
 exact ⟨y2,_,rfl,.tuple #[],by simp [results,Tryz.results303],rfl,rfl,C',d1,d2,b4⟩
def rvB:Rr (List Int)→PV
 | .ok l _=>.tup [.agg (is l),.int .i64 0]
 | .er e _=>.tup [.agg (is z64),.int .i64 ((e:Int)+1)]
theorem zoG (k:Nat) (x:Rr (List Int)):Scoped k (rvB x):=by
 cases x<;>refine .tup fun j x hx=> ?_
 all_goals
  have:=List.mem_of_getElem? hx
  simp only [List.mem_cons,List.not_mem_nil,or_false] at this
  rcases this with rfl|rfl
  ·exact zB (zat _ _)
  ·exact .int _ _
def tkH (H:za) (i:Nat) (p:List UInt8) (n a:Nat) (l:List Int) (e:Int):za:=H.set i (rA p n a)++[⟨151,0,is l⟩,⟨44,0,[.int .i64 e]⟩]
set_option maxHeartbeats 1000000 in
set_option maxRecDepth 100000 in
theorem zkb (i:Nat) (p:List UInt8) (n a fr:Nat) (H:za) (hA:H[i]? =some (rA p n a)) (ha:a≤n) (hn:n≤8 * p.length) (hp:p.length≤100000000) (hfr:fr≤1):
  CallOk Tryz.prog 264 [.ptr i 0 0,.int .i64 (fr:Int)] H (rvB (zeP p n fr a)) (H.set i (rA p n (zeP p n fr a).at)):=by
 have hi:=(List.getElem?_eq_some_iff.1 hA).1
 have hself:=za8 hA
 refine ⟨by kernel_rfl,fun C us w hw hargs=>calls_of_wp_defers Tryz.func264 rfl ?_⟩
 have hfr0:=znl (N:=18) hargs (Nat.le_of_ble_eq_true rfl)
 change FRel C 18 (slot [(0,.ptr i 0 0),(1,.int .i64 (fr:Int))]) _ at hfr0
 have vo:=fun K=>ztA fr K hfr
 have hAx:=fun K=>zZ (K:=K) hA
 refine wp_seq ?_
 refine PW.hand [0,1,4,5] (F1:=[(0,.ptr i 0 0),(1,.int .i64 (fr:Int)),(4,.ptr H.length 0 0),(5,.ptr (H.length+1) 0 0)]) (H1:=tkH H i p n a z64 0) ?_ rfl hw hfr0 ?_
 ·refine PW.e ?_
  refine ⟨rfl,rfl,?_⟩
  unfold tkH;rw [hself];rfl
 intro C1 a1 w1 p1 p2 p3 p4 p5
 refine wp_seq ?_
 have g0:(tkH H i p n a z64 0)[i]? =some (rA p n a):=by unfold tkH;rw [hself];exact hAx _
 refine PW.hand [0,1,4,5] (F1:=[(0,.ptr i 0 0),(1,.int .i64 (fr:Int)),(4,.ptr H.length 0 0),(5,.ptr (H.length+1) 0 0)]) (H1:=tkH H i p n a z64 0) ?_ p2 p3 p5 ?_
 ·(repeat refine PW.seq ?_);refine PW.rg rfl fun K hK=> ?_;simp (disch:=omega) only [go_sem,↓reduceIte,reduceCtorEq,g0,rA]
  refine VCx.call (vo _) rfl ?_;simp (disch:=omega) only [go_sem,↓reduceIte,reduceCtorEq];refine hK _ _ ?_;clear hK K
  (repeat refine PW.seq ?_);refine PW.cond (t:=_) rfl (fun h=> ?_) (fun h=> ?_)
  ·cases h
  exact PW.skip ⟨rfl,rfl,rfl⟩
 intro C2 a2 w2 r1 r2 r3 r4 r5
 refine wp_seq (wp_region_list ?_)
 have hx:=r5.2 4
 have hy:=r5.2 5
 generalize hxv:a2.tmps.getD 4 Go.undef=x at hx
 generalize hyv:a2.tmps.getD 5 Go.undef=y at hy
 refine zhS (u:=.func (.func 303) #[] #[x,y]) rfl ?_ ?_
 ·subst hxv hyv
  simp [execOp,Instr.makeFunc,Act.eval]
 refine zmL (d:=⟨.fn (.func 303) #[x,y],#[]⟩) rfl ?_ ?_
 ·have e14:(a2.put (some 14) (Value.func (.func 303) #[] #[x,y])).eval (.tmp 14)=Value.func (.func 303) #[] #[x,y]:=by
   have:=r5.1
   simp [Act.put,Act.eval,this]
  simp [execOp,resolve,e14,Deferred.ofValue]
 have t1:=r5.put (some 14) (fun t ht=>by injection ht with ht;omega) (VRel.undef (C:=C2) (Value.func (.func 303) #[] #[x,y]))
 rw [←zY] at t1
 have t2:FRel C2 18 (slot [(14,.undef),(0,.ptr i 0 0),(1,.int .i64 (fr:Int)),(4,.ptr H.length 0 0),(5,.ptr (H.length+1) 0 0)]) ({ a2.put (some 14) (Value.func (.func 303) #[] #[x,y]) with defers:=⟨.fn (.func 303) #[x,y],#[]⟩::a2.defers }):=t1
 have hhsc:=fun a'=>zdn H i p n a' hw.hsc
 have cB1:CLe C C2:=p1.trans r1
 have bB1:Below C.B w w2:=p4.trans (by rw [←p1.B];exact r4)
 have htk:∀ a' l z,(tkH H i p n a l z).set i (rA p n a')=tkH H i p n a' l z:=fun a' l z=>by
  unfold tkH;rw [List.set_append_left _ _ (by simpa using hi),List.set_set]
 have h4:∀ a' l z,(tkH H i p n a' l z)[H.length]? =some ⟨151,0,is l⟩:=fun a' l z=>by
  have:=hp0 (H.set i (rA p n a')) [⟨44,0,[.int .i64 z]⟩] ⟨151,0,is l⟩
  rwa [List.length_set] at this
 have h5:∀ a' l z,(tkH H i p n a' l z)[H.length+1]? =some ⟨44,0,[.int .i64 z]⟩:=fun a' l z=>by
  have:=hp1 (H.set i (rA p n a')) [] ⟨151,0,is l⟩ ⟨44,0,[.int .i64 z]⟩
  rwa [List.length_set] at this
 have s4:∀ a' l z l',(tkH H i p n a' l z).set H.length ⟨151,0,is l'⟩=tkH H i p n a' l' z:=fun a' l z l'=>by
  have:=hs0 (H.set i (rA p n a')) [⟨44,0,[.int .i64 z]⟩] ⟨151,0,is l⟩ ⟨151,0,is l'⟩
  rwa [List.length_set] at this
 have s5:∀ a' l z z',(tkH H i p n a' l z).set (H.length+1) ⟨44,0,[.int .i64 z']⟩=tkH H i p n a' l z':=fun a' l z z'=>by
  have:=hs1 (H.set i (rA p n a')) [] ⟨151,0,is l⟩ ⟨44,0,[.int .i64 z]⟩ ⟨44,0,[.int .i64 z']⟩
  rwa [List.length_set] at this
 have hz:(is z64).length=64:=by rw [zu];simp [z64]
 have hsl:∀ a',H.length=(H.set i (rA p n a')).length:=fun a'=>by simp
 refine wp_seq ?_
 cases hr:zeP p n fr a with
 | ok l a'=>
  have rd:=zrr i p n a fr a' l (tkH H i p n a z64 0) g0 ha hn hp hfr hr
  rw [htk] at rd
  have hll:l.length=64:=by
   have:=(zhu _ _ _ _ hr ha).2.2
   simpa [z64] using this
  have hil:(is l).length=64:=by rw [zu,hll]
  have htl:List.take 64 (is l)=is l:=List.take_of_length_le (by omega)
  have hcl:=zW l
  have hdz:List.drop 64 (is z64)=[]:=List.drop_of_length_le (by omega)
  refine zdI 5 rfl (K:=fun F' H'=>kp [4,5] F'=[(4,.ptr H.length 0 0),(5,.ptr (H.length+1) 0 0)]∧H'=tkH H i p n a' l 0) ?_ (D:=[⟨.fn (.func 303) #[x,y],#[]⟩]) (by simp [Act.put,r2]) r3 t2 ?_
  ·simp (disch:=omega) only [go_sem,↓reduceIte,reduceCtorEq]
   refine VCx.call (rd) rfl ?_;simp (disch:=omega) only [go_sem,↓reduceIte,reduceCtorEq,h4,h5,s4,s5,hil,hz,hcl,hdz]
  intro C3 F3 H3 a3 w3 q1 q2 q3 q4 q5 ⟨q6,q7⟩
  subst q7
  have q5':=q5.keep [4,5]
  rw [q6] at q5'
  refine wp_ret ?_
  show Leaves _ _ _ _ _ _ _
  rw [q2]
  refine leaves_cons (by simp) (by kernel_rfl) ((zll x y w3).mono ?_)
  rintro _ _ _ ⟨rfl,rfl,rfl⟩
  obtain ⟨u,u1,u2⟩:=zba (P:=Tryz.prog) (fn:=Tryz.f264) (v:=.tup [.agg (is l),.int .i64 0]) q3 q5' (by simp (disch:=omega) only [go_sem,↓reduceIte,reduceCtorEq,zd,zg,List.mapM_cons,List.mapM_nil,Option.pure_def,Option.bind_eq_bind,Option.bind_some,Array.toList,Tryz.results264,h4,h5,hil,htl])
  obtain ⟨C',d1,d2,d3⟩:=WRel.dropV hw (hsl a') (hhsc a') (cB1.trans q1) q3 u1 (zoG _ (.ok l a'))
  exact ⟨u,u2,C',u,d1,d2,bB1.trans (by rw [←cB1.B];exact q4),rfl,d3⟩
 | er e a'=>
  have rd:=zoO i p n a fr e a' (tkH H i p n a z64 0) g0 ha hn hp hfr hr
  rw [htk] at rd
  refine zdI 2 rfl (K:=fun F' H'=>kp [4,5,15,16] F'=[(4,.ptr H.length 0 0),(5,.ptr (H.length+1) 0 0),(15,.ptr i 0 0),(16,.int .i64 (fr:Int))]∧H'=tkH H i p n a z64 0) ?_ (D:=[⟨.fn (.func 303) #[x,y],#[]⟩]) (by simp [Act.put,r2]) r3 t2 ?_
  ·simp (disch:=omega) only [go_sem,↓reduceIte,reduceCtorEq]
  intro C3 F3 H3 a3 w3 q1 q2 q3 q4 q5 ⟨q6,q7⟩
  subst q7
  have q5':=q5.keep [4,5,15,16]
  rw [q6] at q5'
  show wpList _ _ _ (_::_) _ _
  unfold wpList
  rw [if_pos (by kernel_rfl)]
  left
  refine zdO q3 q5' (by simp (disch:=omega) only [go_sem,↓reduceIte,reduceCtorEq,zo]) rd _ _ fun C4 w4 y1 y2 y3 y4=> ?_
  show Leaves _ _ _ _ _ _ _
  rw [q2]
  have hx4:=hx.mono (q1.trans y1)
  have hy4:=hy.mono (q1.trans y1)
  have cp:=znv H.length (H.length+1) e z64 0 (tkH H i p n a' z64 0) C4 x y w4 (h4 _ _ _) (h5 _ _ _) (by simp [z64]) (by omega) y2 hx4 hy4
  rw [s4,s5] at cp
  refine leaves_cons (by simp) (by kernel_rfl) (cp.mono ?_)
  rintro _ _ w5 ⟨rfl,rfl,C5,v1,v2,v3⟩
  have htl:List.take 64 (is z64)=is z64:=List.take_of_length_le (by omega)
  obtain ⟨u,u1,u2⟩:=zba (P:=Tryz.prog) (fn:=Tryz.f264) (v:=.tup [.agg (is z64),.int .i64 ((e:Int)+1)]) v2 (y4.mono v1) (by simp (disch:=omega) only [go_sem,↓reduceIte,reduceCtorEq,zd,zg,List.mapM_cons,List.mapM_nil,Option.pure_def,Option.bind_eq_bind,Option.bind_some,Array.toList,Tryz.results264,h4,h5,hz,htl])
  have c3:=(cB1.trans q1).trans y1
  obtain ⟨C',d1,d2,d3⟩:=WRel.dropV hw (hsl a') (hhsc a') (c3.trans v1) v2 u1 (zoG _ (.er e a'))
  have b2:=bB1.trans (by rw [←cB1.B];exact q4)
  have b3:=b2.trans (by rw [←(cB1.trans q1).B];exact y3)
  exact ⟨u,u2,C',u,d1,d2,b3.trans (by rw [←c3.B];exact v3),rfl,d3⟩
def vqB (q:Int):Bool:=decide (1≤q)&&decide (q≤31)
def zi6 (s:St):Bool:=(win s.da 4095&&(win s.db 4095&&win s.dc 4095))&&(vqB s.q&&(vrg s.va s.vb&&vrg s.vc s.vd))
theorem zsZ (q:Int) (H:za):CallOk Tryz.prog 134 [.int .i64 q] H (.bool (vqB q)) H:=by
 refine CallOk.body (F0:=[(0,.int .i64 q)]) Tryz.func134 rfl Tryz.ntmps134 Tryz.results134 rfl (by kernel_rfl) rfl ?_
 (repeat' (first|refine PW.seq ?_|refine PW.skip ?_|refine PW.block ?_|((first|refine PW.rg rfl fun K hK=> ?_|refine PW.draw mix (by kernel_rfl) fun K hK=> ?_);simp (disch:=omega) only [go_sem,↓reduceIte,reduceCtorEq])|((first|refine zk ?_ ?_|refine zn ?_ ?_|refine And.intro ?_ ?_)<;>intro h<;>(try simp only [nqb] at h)<;>simp (disch:=omega) only [go_sem,↓reduceIte,reduceCtorEq,h])|(refine hK _ _ ?_;clear hK K)|(refine PW.cond (t:=_) rfl (fun h=> ?_) (fun h=> ?_)<;>(try (cases h;done))<;>(try simp only [nqb] at h))))
 all_goals ((refine PW.ret ⟨_,rfl,?_⟩;first|refine .inl ⟨?_,rfl⟩|refine Fin.base (.id' ?_ (.bool _))|refine Fin.base (.id' ?_ (.int _ _)));(simp_all [vqB,slot,Nat.beq]<;>first|rfl|omega|(rw [Bool.eq_iff_iff];simp;done)|(rw [Bool.eq_iff_iff];simp;omega)))
theorem zqS (s:St) (H:za):CallOk Tryz.prog 183 [.agg (stc s)] H (.bool (zi6 s)) H:=by
 generalize hr:zi6 s=r
 obtain ⟨q,da,db,dc,va,vb,vc,vd⟩:=s
 have w1:=fun x K=>zda x 4095 K (by omega)
 have v1:=fun x y K=>zga x y K
 have q1:=fun K=>zsZ q K
 refine CallOk.body (F0:=[(0,.agg [.int .i64 q,.int .i64 da,.int .i64 db,.int .i64 dc,.int .i64 va,.int .i64 vb,.int .i64 vc,.int .i64 vd])]) Tryz.func183 rfl Tryz.ntmps183 Tryz.results183 rfl (by kernel_rfl) rfl ?_
 (repeat' (first|refine PW.seq ?_|refine PW.skip ?_|refine PW.block ?_|refine PW.loop ?_|refine PL.round ?_|refine PW.exit ?_|((first|refine PW.rg rfl fun K hK=> ?_|refine PW.draw mix (by kernel_rfl) fun K hK=> ?_);simp (disch:=omega) only [go_sem,↓reduceIte,reduceCtorEq])|((first|refine zk ?_ ?_|refine zn ?_ ?_|refine And.intro ?_ ?_)<;>intro h<;>(try simp only [nqb] at h)<;>simp (disch:=omega) only [go_sem,↓reduceIte,reduceCtorEq,h])|((first|refine VCx.call (w1 _ _) rfl ?_|refine VCx.call (v1 _ _ _) rfl ?_|refine VCx.call (q1 _) rfl ?_|refine VCy.call (w1 _ _) rfl ?_|refine VCy.call (v1 _ _ _) rfl ?_|refine VCy.call (q1 _) rfl ?_);simp (disch:=omega) only [go_sem,↓reduceIte,reduceCtorEq])|(refine hK _ _ ?_;clear hK K)|(refine PW.cond (t:=_) rfl (fun h=> ?_) (fun h=> ?_)<;>(try (cases h;done))<;>(try simp only [nqb] at h))))
 all_goals ((refine PW.ret ⟨_,rfl,?_⟩;first|refine .inl ⟨?_,rfl⟩|refine Fin.base (.id' ?_ (.bool _))|refine Fin.base (.id' ?_ (.int _ _)));subst hr;clear w1 v1 q1;(simp_all [zi6,slot,Nat.beq]<;>first|rfl|omega|(rw [Bool.eq_iff_iff];simp;done)|(rw [Bool.eq_iff_iff];simp;omega)))
def aft (s:St) (k:Int):St:=⟨s.q,if k=1 then s.da else 0,if k=1 then s.db else 0,if k=1 then s.dc else 0,if k=2 then s.va else 0,if k=2 then s.vb else 0,if k=2 then s.vc else 0,if k=2 then s.vd else 0⟩
theorem zve (s:St) (k:Int) (H:za):CallOk Tryz.prog 189 [.agg (stc s),.int .i64 k] H (.agg (stc (aft s k))) H:=by
 have hsc:=zcL (aft s k)
 obtain ⟨q,da,db,dc,va,vb,vc,vd⟩:=s
 have e0:stc (aft ⟨q,da,db,dc,va,vb,vc,vd⟩ k)=[.int .i64 q,.int .i64 (if k=1 then da else 0),.int .i64 (if k=1 then db else 0),.int .i64 (if k=1 then dc else 0),.int .i64 (if k=2 then va else 0),.int .i64 (if k=2 then vb else 0),.int .i64 (if k=2 then vc else 0),.int .i64 (if k=2 then vd else 0)]:=rfl
 rw [e0] at hsc ⊢
 clear e0
 refine CallOk.body (F0:=[(0,.agg [.int .i64 q,.int .i64 da,.int .i64 db,.int .i64 dc,.int .i64 va,.int .i64 vb,.int .i64 vc,.int .i64 vd]),(1,.int .i64 k)]) Tryz.func189 rfl Tryz.ntmps189 Tryz.results189 rfl (by kernel_rfl) rfl ?_
 by_cases h1:k=1<;>by_cases h2:k=2
 ·omega
 ·have b1:(k !=1)=false:=by simp [h1]
  have b2:(k !=2)=true:=by simp [h2]
  simp only [if_pos h1,if_neg h2] at hsc ⊢
  (repeat' (first|refine PW.seq ?_|refine PW.skip ?_|refine PW.block ?_|((first|refine PW.rg rfl fun K hK=> ?_|refine PW.draw mix (by kernel_rfl) fun K hK=> ?_);simp (disch:=omega) only [go_sem,↓reduceIte,reduceCtorEq,b1,b2])|((first|refine zk ?_ ?_|refine zn ?_ ?_|refine And.intro ?_ ?_)<;>intro h<;>(try simp only [nqb] at h)<;>simp (disch:=omega) only [go_sem,↓reduceIte,reduceCtorEq,b1,b2,h])|(refine hK _ _ ?_;clear hK K)|(refine PW.cond (t:=_) rfl (fun h=> ?_) (fun h=> ?_)<;>(try (cases h;done))<;>(try simp only [nqb] at h))))
  refine PW.ret ⟨.agg [.int .i64 q,.int .i64 da,.int .i64 db,.int .i64 dc,.int .i64 0,.int .i64 0,.int .i64 0,.int .i64 0],by simp (disch:=omega) only [go_sem,↓reduceIte,reduceCtorEq,zd,zg,List.mapM_cons,List.mapM_nil,Option.pure_def,Option.bind_eq_bind,Option.bind_some,Array.toList],?_⟩
  exact Fin.base (.id (hsc _))
 ·have b1:(k !=1)=true:=by simp [h1]
  have b2:(k !=2)=false:=by simp [h2]
  simp only [if_neg h1,if_pos h2] at hsc ⊢
  (repeat' (first|refine PW.seq ?_|refine PW.skip ?_|refine PW.block ?_|((first|refine PW.rg rfl fun K hK=> ?_|refine PW.draw mix (by kernel_rfl) fun K hK=> ?_);simp (disch:=omega) only [go_sem,↓reduceIte,reduceCtorEq,b1,b2])|((first|refine zk ?_ ?_|refine zn ?_ ?_|refine And.intro ?_ ?_)<;>intro h<;>(try simp only [nqb] at h)<;>simp (disch:=omega) only [go_sem,↓reduceIte,reduceCtorEq,b1,b2,h])|(refine hK _ _ ?_;clear hK K)|(refine PW.cond (t:=_) rfl (fun h=> ?_) (fun h=> ?_)<;>(try (cases h;done))<;>(try simp only [nqb] at h))))
  refine PW.ret ⟨.agg [.int .i64 q,.int .i64 0,.int .i64 0,.int .i64 0,.int .i64 va,.int .i64 vb,.int .i64 vc,.int .i64 vd],by simp (disch:=omega) only [go_sem,↓reduceIte,reduceCtorEq,zd,zg,List.mapM_cons,List.mapM_nil,Option.pure_def,Option.bind_eq_bind,Option.bind_some,Array.toList],?_⟩
  exact Fin.base (.id (hsc _))
 ·have b1:(k !=1)=true:=by simp [h1]
  have b2:(k !=2)=true:=by simp [h2]
  simp only [if_neg h1,if_neg h2] at hsc ⊢
  (repeat' (first|refine PW.seq ?_|refine PW.skip ?_|refine PW.block ?_|((first|refine PW.rg rfl fun K hK=> ?_|refine PW.draw mix (by kernel_rfl) fun K hK=> ?_);simp (disch:=omega) only [go_sem,↓reduceIte,reduceCtorEq,b1,b2])|((first|refine zk ?_ ?_|refine zn ?_ ?_|refine And.intro ?_ ?_)<;>intro h<;>(try simp only [nqb] at h)<;>simp (disch:=omega) only [go_sem,↓reduceIte,reduceCtorEq,b1,b2,h])|(refine hK _ _ ?_;clear hK K)|(refine PW.cond (t:=_) rfl (fun h=> ?_) (fun h=> ?_)<;>(try (cases h;done))<;>(try simp only [nqb] at h))))
  refine PW.ret ⟨.agg [.int .i64 q,.int .i64 0,.int .i64 0,.int .i64 0,.int .i64 0,.int .i64 0,.int .i64 0,.int .i64 0],by simp (disch:=omega) only [go_sem,↓reduceIte,reduceCtorEq,zd,zg,List.mapM_cons,List.mapM_nil,Option.pure_def,Option.bind_eq_bind,Option.bind_some,Array.toList],?_⟩
  exact Fin.base (.id (hsc _))
theorem zu0 (n:Nat) (H:za) (h:n<6):CallOk Tryz.prog 265 [.int .i64 (n:Int)] H (.int .i64 ((n - 3:Nat):Int)) H:=by
 refine CallOk.body (F0:=[(0,.int .i64 (n:Int))]) Tryz.func265 rfl Tryz.ntmps265 Tryz.results265 rfl (by kernel_rfl) rfl ?_
 have h6:n=0∨n=1∨n=2∨n=3∨n=4∨n=5:=by omega
 rcases h6 with rfl|rfl|rfl|rfl|rfl|rfl<;>(repeat' (first|refine PW.seq ?_|refine PW.skip ?_|refine PW.block ?_|((first|refine PW.rg rfl fun K hK=> ?_|refine PW.draw mix (by kernel_rfl) fun K hK=> ?_);simp (disch:=omega) only [go_sem,↓reduceIte,reduceCtorEq])|((first|refine zk ?_ ?_|refine zn ?_ ?_|refine And.intro ?_ ?_)<;>intro h<;>(try simp only [nqb] at h)<;>simp (disch:=omega) only [go_sem,↓reduceIte,reduceCtorEq,h])|(refine hK _ _ ?_;clear hK K)|(refine PW.cond (t:=_) rfl (fun h=> ?_) (fun h=> ?_)<;>(try (cases h;done))<;>(try simp only [nqb] at h))))
 all_goals ((refine PW.ret ⟨_,rfl,?_⟩;first|refine .inl ⟨?_,rfl⟩|refine Fin.base (.id' ?_ (.bool _))|refine Fin.base (.id' ?_ (.int _ _)));rfl)
theorem zqU (m:Mb) (i:Nat) (H:za) (hi:H[i]? =some (mB m)):CallOk Tryz.prog 261 [.ptr i 0 0] H (.int .i64 (if m.fp then 2 else 1)) H:=by
 refine CallOk.body (F0:=[(0,.ptr i 0 0)]) Tryz.func261 rfl Tryz.ntmps261 Tryz.results261 rfl (by kernel_rfl) rfl ?_
 (repeat' (first|refine PW.seq ?_|refine PW.skip ?_|refine PW.block ?_|((first|refine PW.rg rfl fun K hK=> ?_|refine PW.draw mix (by kernel_rfl) fun K hK=> ?_);simp (disch:=omega) only [go_sem,↓reduceIte,reduceCtorEq,hi,mB,mbc])|((first|refine zk ?_ ?_|refine zn ?_ ?_|refine And.intro ?_ ?_)<;>intro h<;>(try simp only [nqb] at h)<;>simp (disch:=omega) only [go_sem,↓reduceIte,reduceCtorEq,hi,mB,mbc,h])|(refine hK _ _ ?_;clear hK K)|(refine PW.cond (t:=_) rfl (fun h=> ?_) (fun h=> ?_)<;>(try (cases h;done))<;>(try simp only [nqb] at h))))
 all_goals ((refine PW.ret ⟨_,rfl,?_⟩;first|refine .inl ⟨?_,rfl⟩|refine Fin.base (.id' ?_ (.bool _))|refine Fin.base (.id' ?_ (.int _ _)));simp_all [slot,Nat.beq])
section
variable (H:za) (i j:Nat) (M:List Bool) (x0 x1 x3:Blk) (c:Cx) (m:Mb) (s:St)
end
end Go.Proofs.YtjgmdlcjbgiekaaGreatDoor.Sc
namespace Go.Proofs.YtjgmdlcjbgiekaaGreatDoor.Sc
set_option linter.all false
open Pm Ty Go.RowKit
def vXm (m:Mb) (d k:Nat):Int:=if d=0 then (if k=0 then m.va else m.vc) else (if k=0 then m.ve else m.vg)
def vYm (m:Mb) (d k:Nat):Int:=if d=0 then (if k=0 then m.vb else m.vd) else (if k=0 then m.vf else m.vh)
def usd (m:Mb) (d:Nat):Bool:=if d=0 then m.ua else m.ub
def sXs (s:St) (d:Nat):Int:=if d=0 then s.va else s.vc
def sYs (s:St) (d:Nat):Int:=if d=0 then s.vb else s.vd
def zbP (s:St) (d:Nat) (x y:Int):St:=if d=0 then ⟨s.q,s.da,s.db,s.dc,x,y,s.vc,s.vd⟩ else ⟨s.q,s.da,s.db,s.dc,s.va,s.vb,x,y⟩
def nvM (m:Mb):Nat:=if m.fp then 2 else 1
def vrM (m:Mb):Prop:=∀ d k,(-63≤vXm m d k∧vXm m d k≤63)∧(-63≤vYm m d k∧vYm m d k≤63)
def vrS (s:St):Prop:=∀ d,(-63≤sXs s d∧sXs s d≤63)∧(-63≤sYs s d∧sYs s d≤63)
theorem zwk (m:Mb):nvM m≤2∧1≤nvM m:=by unfold nvM;split<;>omega
section
variable (H:za) (i j:Nat) (M:List Bool) (x0 x1 x3:Blk) (c:Cx) (m:Mb) (s:St) (K:za)
end
end Go.Proofs.YtjgmdlcjbgiekaaGreatDoor.Sc
namespace Go.Proofs.YtjgmdlcjbgiekaaGreatDoor.Sc
set_option linter.all false
open Pm Ty Go.RowKit
def dcS (s:St) (k:Nat):Int:=if k=0 then s.da else if k=1 then s.db else s.dc
def zfE (s:St) (k:Nat) (x:Int):St:=if k=0 then ⟨s.q,x,s.db,s.dc,s.va,s.vb,s.vc,s.vd⟩ else if k=1 then ⟨s.q,s.da,x,s.dc,s.va,s.vb,s.vc,s.vd⟩ else ⟨s.q,s.da,s.db,x,s.va,s.vb,s.vc,s.vd⟩
def lrM (m:Mb):Prop:=∀ q,q<384→win (zh m.lv q) 4095=true
def dcR (s:St):Prop:=∀ k,-4095≤dcS s k∧dcS s k≤4095
theorem zsv {s:St} (h:dcR s) (k:Nat) {x:Int} (hx: -4095≤x∧x≤4095):dcR (zfE s k x):=fun e=>by
 have h0: -4095≤s.da∧s.da≤4095:=h 0
 have h1: -4095≤s.db∧s.db≤4095:=h 1
 have h2: -4095≤s.dc∧s.dc≤4095:=h 2
 unfold zfE
 split
 ·unfold dcS;dsimp only;split;exact hx;split;exact h1;exact h2
 ·split
  ·unfold dcS;dsimp only;split;exact h0;split;exact hx;exact h2
  ·unfold dcS;dsimp only;split;exact h0;split;exact h1;exact hx
def zSt:St:=⟨0,0,0,0,0,0,0,0⟩
theorem znJ {lv:List Int} {n j:Nat} (h:zbk lv n=true) (hj:j<64):zh lv (n * 64+j)=0:=by
 have e:=zlm lv n j hj
 have hz:(lv.drop (n * 64)).take 64=List.replicate 64 0:=by simpa [zbk] using h
 rw [hz] at e
 rw [←e]
 rw [zh,List.getD_eq_getElem?_getD,List.getElem?_replicate,if_pos hj]
 rfl
structure Fmd (c:Cx) (m:Mb):Prop where
 k:m.k=0∨m.k=1∨m.k=2
 v:vrM m
 l:lrM m
 d: -30≤m.dl∧m.dl≤30
 z:m.k=0→m.dl=0∧hlM m=false
 i:m.k=1→cdl m=[true,true,true,true,true,true]
 n:hlM m=false→m.dl=0
theorem zsY {x y:Int} (h:vrg x y=true):(-63≤x∧x≤63)∧(-63≤y∧y≤63):=by
 simp only [vrg,Bool.and_eq_true] at h
 exact ⟨zhr h.1,zhr h.2⟩
theorem zlt {s:St} (h:zi6 s=true):(1≤s.q∧s.q≤31)∧vrS s∧dcR s:=by
 simp only [zi6,Bool.and_eq_true,vqB,decide_eq_true_eq] at h
 obtain ⟨⟨h1,h2,h3⟩,h4,h5,h6⟩:=h
 refine ⟨h4,fun d=> ?_,fun k=> ?_⟩
 ·unfold sXs sYs
  split
  ·exact zsY h5
  ·exact zsY h6
 ·unfold dcS
  split
  ·exact zhr h1
  ·split
   ·exact zhr h2
   ·exact zhr h3
def SameQ (s t:St):Prop:=t.q=s.q∧t.da=s.da∧t.db=s.db∧t.dc=s.dc
theorem SameQ.trans {a b c:St} (h:SameQ a b) (k:SameQ b c):SameQ a c:=⟨k.1.trans h.1,k.2.1.trans h.2.1,k.2.2.1.trans h.2.2.1,k.2.2.2.trans h.2.2.2⟩
theorem zqj {s t:St} (h:SameQ s t) (k:dcR s):dcR t:=fun e=>by
 have:=k e
 unfold dcS at this ⊢
 rw [h.2.1,h.2.2.1,h.2.2.2];exact this
section
variable (H:za) (i j:Nat) (A B:Blk) (K:za)
end
theorem zay {n:Nat} {xs:List PV} (h:∀ x∈xs,Scoped n x):∀ (j:Nat) (x:PV),xs[j]? =some x→Scoped n x:=fun j x hx=>h x (List.mem_of_getElem? hx)
theorem zqk (c:Cx):(cxc c).all PV.cell=true:=rfl
theorem zoe (s:St):(stc s).all PV.cell=true:=rfl
theorem zeo (m:Mb):(mbc m).all PV.cell=true:=by
 have hall:=zW m.lv
 simp [mbc,PV.cell]
 exact fun x hx=>List.all_eq_true.1 hall x hx
end Go.Proofs.YtjgmdlcjbgiekaaGreatDoor.Sc
namespace Go.Proofs.YtjgmdlcjbgiekaaGreatDoor.Sc
set_option linter.all false
open Pm Ty Go.RowKit
def tkF (q:List UInt8) (n a:Nat):Rr Bool:=if a<n then .ok (decide (zbz q a=1)) (a+1) else .er 3 a
def tkD (q:List UInt8) (n:Nat) (pr:Int) (most:Nat) (a:Nat):Rr Int:=(tkS q n a).bind fun d a1=>if win (pr+d) most then .ok (pr+d) a1 else .er 2 a1
def zef (m:Mb) (d k:Nat) (x:Int):Mb:=if d=0 then (if k=0 then { m with sa:=x } else { m with sb:=x }) else (if k=0 then { m with sc:=x } else { m with sd:=x })
def zdJ (m:Mb) (d k:Nat) (x y:Int):Mb:=if d=0 then (if k=0 then { m with va:=x,vb:=y } else { m with vc:=x,vd:=y }) else (if k=0 then { m with ve:=x,vf:=y } else { m with vg:=x,vh:=y })
def zc1 (m:Mb) (n:Nat) (b:Bool):Mb:=if n=0 then { m with ca:=b } else if n=1 then { m with cb:=b } else if n=2 then { m with cc:=b } else if n=3 then { m with cd:=b } else if n=4 then { m with ce:=b } else { m with cf:=b }
def zaV (m:Mb) (n:Nat) (l:List Int):Mb:={ m with lv:=m.lv.take (n * 64)++l++m.lv.drop (n * 64+64) }
def zfG:Mb:=⟨1,false,false,false,false,0,0,0,0,0,0,0,0,0,0,0,0,0,true,true,true,true,true,true,zl384⟩
def zwh (v:Nat):Mb:=⟨2,decide (v≤2)||decide (5≤v),decide (3≤v),false,false,0,0,0,0,0,0,0,0,0,0,0,0,0,false,false,false,false,false,false,zl384⟩
def zdb (c:Cx) (q:List UInt8) (n a:Nat):Rr (Mb×Bool):=
 if c.t=1 then .ok (zfG,true) a else (tkU q n a).bind fun v a1=>if (if c.t=2 then 3 else 7)<v then .er 2 a1 else if v=(if c.t=2 then 3 else 7) then .ok (zfG,true) a1 else if v=0 then .ok (zMb,false) a1 else .ok (zwh v,decide (v%2=0)) a1
def zdQ (c:Cx) (q:List UInt8) (n:Nat) (m:Mb) (s:St) (d k a:Nat):Rr (Mb×St):=
 (if m.fp||fcx c then (tkF q n a).bind fun b a1=>.ok (zef m d k (b.toNat:Int)) a1 else .ok m a).bind fun m a1=>
 (tkD q n (sXs s d) 63 a1).bind fun x a2=>(tkD q n (sYs s d) 63 a2).bind fun y a3=>.ok (zdJ m d k x y,zbP s d x y) a3
def zbM (c:Cx) (q:List UInt8) (n d:Nat):Nat→Nat→Mb→St→Nat→Rr (Mb×St)
 | 0,_,m,s,a=>.ok (m,s) a
 | r+1,k,m,s,a=>(zdQ c q n m s d k a).bind fun x a1=>zbM c q n d r (k+1) x.1 x.2 a1
def zeO (c:Cx) (q:List UInt8) (n:Nat) (m:Mb) (s:St) (d a:Nat):Rr (Mb×St):=if usd m d then zbM c q n d (nvM m) 0 m s a else .ok (m,s) a
def zc8 (c:Cx) (q:List UInt8) (n:Nat):Nat→Nat→Mb→St→Nat→Rr (Mb×St)
 | 0,_,m,s,a=>.ok (m,s) a
 | r+1,d,m,s,a=>(zeO c q n m s d a).bind fun x a1=>zc8 c q n r (d+1) x.1 x.2 a1
def zeN (c:Cx) (q:List UInt8) (n:Nat) (m:Mb) (s:St) (a:Nat):Rr (Mb×St):=
 if m.k=2 then (if bcx c then (tkF q n a).bind fun b a1=>.ok { m with fp:=b } a1 else .ok m a).bind fun m a1=>zc8 c q n 2 0 m s a1 else .ok (m,s) a
def zfB (c:Cx) (q:List UInt8) (n:Nat) (hl:Bool) (m:Mb) (s:St) (a:Nat):Rr (Mb×St):=
 if hl then (if bcx c then (tkF q n a).bind fun b a1=>.ok { m with fd:=b } a1 else .ok m a).bind fun m a1=>
  (tkS q n a1).bind fun d a2=>if vqB (s.q+d) then .ok ({ m with dl:=d },{ s with q:=s.q+d }) a2 else .er 2 a2 else .ok (m,s) a
def zeb (q:List UInt8) (n:Nat):Nat→Mb→Nat→Rr Mb
 | 0,m,a=>if ziX m then .ok m a else .er 2 a
 | r+1,m,a=>(tkF q n a).bind fun b a1=>zeb q n r (zc1 m (5 - r) b) a1
def zea (q:List UInt8) (n:Nat) (hl:Bool) (m:Mb) (a:Nat):Rr Mb:=if decide (m.k=2)&&hl then zeb q n 6 m a else .ok m a
def zbN (q:List UInt8) (n:Nat):Nat→Mb→St→Nat→Rr (Mb×St)
 | 0,m,s,a=>.ok (m,s) a
 | r+1,m,s,a=>if zaB (cdl m) (5 - r) then
   (if m.k=2 then (zeP q n 0 a).bind fun l a1=>if l=z64 then .er 2 a1 else zbN q n r (zaV m (5 - r) l) s a1
    else (tkD q n (dcS s (5 - r - 3)) 4095 a).bind fun d a1=>(zeP q n 1 a1).bind fun l a2=>zbN q n r (zaV m (5 - r) (l.set 0 d)) (zfE s (5 - r - 3) d) a2) else zbN q n r m s a
def zko (c:Cx) (q:List UInt8) (n:Nat) (hl:Bool) (m:Mb) (s:St) (a:Nat):Rr (Mb×St):=
 (zeN c q n m s a).bind fun y a2=>(zfB c q n hl y.1 y.2 a2).bind fun z a3=>(zea q n hl z.1 a3).bind fun m a4=>(zbN q n 6 m z.2 a4).bind fun w a5=>.ok (w.1,aft w.2 w.1.k) a5
def mtk (c:Cx) (s:St) (q:List UInt8) (n a:Nat):Rr (Mb×St):=(zdb c q n a).bind fun x a1=>zko c q n x.2 x.1 s a1
theorem zfo {q:List UInt8} {n a a1:Nat} {b:Bool} (h:tkF q n a= .ok b a1):a1=a+1∧a<n∧b=decide (zbz q a=1):=by
 unfold tkF at h
 split at h
 ·injection h with h1 h2;exact ⟨h2.symm,by assumption,h1.symm⟩
 ·cases h
theorem zlz {q:List UInt8} {n a e a1:Nat} (h:tkF q n a= .er e a1):a1=a∧e=3∧n≤a:=by
 unfold tkF at h
 split at h
 ·cases h
 ·injection h with h1 h2;omega
theorem zht {q:List UInt8} {n a a1 most:Nat} {pr v:Int} (h:tkD q n pr most a= .ok v a1) (ha:a≤n):(-(most:Int)≤v∧v≤most)∧a≤a1∧a1≤n:=by
 unfold tkD at h
 cases hs:tkS q n a with
 | er e a2=>rw [hs] at h;cases h
 | ok d a2=>
  rw [hs,Rr.bind_ok] at h
  have b:=zd9 hs ha
  split at h
  ·rename_i hw
   injection h with h1 h2
   subst h1 h2
   exact ⟨zhr hw,by omega,b.2.2⟩
  ·cases h
theorem znZ {q:List UInt8} {n a a1 e most:Nat} {pr:Int} (h:tkD q n pr most a= .er e a1) (ha:a≤n):a≤a1∧a1≤n∧e≤3:=by
 unfold tkD at h
 cases hs:tkS q n a with
 | er e2 a2=>
  rw [hs] at h
  have:=zlx hs
  injection h with h1 h2
  omega
 | ok d a2=>
  rw [hs,Rr.bind_ok] at h
  have b:=zd9 hs ha
  split at h
  ·cases h
  ·injection h with h1 h2;omega
def tC (s:St) (w:Nat) (c:Cx) (mi:Nat) (hl:Bool):List PV:=[.int .i64 s.q,.int .i64 s.da,.int .i64 s.db,.int .i64 s.dc,.int .i64 s.va,.int .i64 s.vb,.int .i64 s.vc,.int .i64 s.vd,.ptr w 0 0,.int .i64 c.t,.int .i64 c.s,.bool c.i,.bool c.n,.ptr mi 0 0,.bool hl]
def tB (s:St) (w:Nat) (c:Cx) (mi:Nat) (hl:Bool):Blk:=⟨280,0,tC s w c mi hl⟩
theorem zG (s:St) (w:Nat) (c:Cx) (mi:Nat) (hl:Bool):(tB s w c mi hl).ver=0:=rfl
theorem zH (s:St) (w:Nat) (c:Cx) (mi:Nat) (hl:Bool):(tB s w c mi hl).cells=tC s w c mi hl:=rfl
theorem zdR (s:St) (w:Nat) (c:Cx) (mi:Nat) (hl:Bool):(tB s w c mi hl).e=280:=rfl
theorem zav (m:Mb):(mB m).ver=0:=rfl
theorem zaA (m:Mb):(mB m).cells=mbc m:=rfl
theorem zbT (m:Mb):(mB m).e=154:=rfl
def tG (H:za) (i:Nat) (p:List UInt8) (n a:Nat) (X:za) (B4 B5:Blk):za:=H.set i (rA p n a)++(X++[B4,B5])
section
variable (H:za) (i:Nat) (p:List UInt8) (n a:Nat) (X:za) (B4 B5:Blk)
theorem zkr (hi:i<H.length):(tG H i p n a X B4 B5)[i]? =some (rA p n a):=by
 unfold tG;rw [List.getElem?_append_left (by simpa using hi)];simp [hi]
theorem zgg (hi:i<H.length) (a':Nat):(tG H i p n a X B4 B5).set i (rA p n a')=tG H i p n a' X B4 B5:=by
 unfold tG;rw [List.set_append_left _ _ (by simpa using hi),List.set_set]
theorem zjd (hX:X.length=4):(tG H i p n a X B4 B5)[H.length+4]? =some B4:=by
 unfold tG
 rw [List.getElem?_append_right (by simp),List.length_set,show H.length+4 - H.length=4 by omega,List.getElem?_append_right (by omega),hX];rfl
theorem zhX (hX:X.length=4):(tG H i p n a X B4 B5)[H.length+5]? =some B5:=by
 unfold tG
 rw [List.getElem?_append_right (by simp),List.length_set,show H.length+5 - H.length=5 by omega,List.getElem?_append_right (by omega),hX];rfl
theorem zgi (hX:X.length=4) (B:Blk):(tG H i p n a X B4 B5).set (H.length+4) B=tG H i p n a X B B5:=by
 unfold tG
 rw [List.set_append_right _ _ (by simp),List.length_set,show H.length+4 - H.length=4 by omega,List.set_append_right _ _ (by omega),hX];rfl
theorem zgh (hX:X.length=4) (B:Blk):(tG H i p n a X B4 B5).set (H.length+5) B=tG H i p n a X B4 B:=by
 unfold tG
 rw [List.set_append_right _ _ (by simp),List.length_set,show H.length+5 - H.length=5 by omega,List.set_append_right _ _ (by omega),hX];rfl
end
def rvF:Rr Bool→PV
 | .ok b _=>.tup [.bool b,.int .i64 0]
 | .er e _=>.tup [.bool false,.int .i64 ((e:Int)+1)]
section
variable (H:za) (i:Nat) (p:List UInt8) (n a:Nat) (X:za) (B4:Blk) (c:Cx) (s:St) (hl:Bool) (hi:i<H.length) (hX:X.length=4) (ha:a≤n) (hn:n≤8 * p.length) (hp:p.length≤100000000)
include hi hX ha hn hp
theorem zgf (pr:Int) (most:Nat) (hm:most≤4095) (hpr: -4095≤pr∧pr≤4095):CallOk Tryz.prog 266 [.ptr (H.length+5) 0 0,.int .i64 pr,.int .i64 (most:Int)] (tG H i p n a X B4 (tB s i c (H.length+4) hl)) (rvS (tkD p n pr most a)) (tG H i p n (tkD p n pr most a).at X B4 (tB s i c (H.length+4) hl)):=by
 have g5:=fun a=>zhX H i p n a X B4 (tB s i c (H.length+4) hl) hX
 have gi:=zkr H i p n a X B4 (tB s i c (H.length+4) hl) hi
 have pc8:(tC s i c (H.length+4) hl)[8]? =some (.ptr i 0 0):=rfl
 have t:=zhW i p n a _ gi ha hn hp
 have wo:=fun x K=>zda x most K (by omega)
 rw [zgg _ _ _ _ _ _ _ _ hi] at t
 unfold tkD
 cases hs:tkS p n a with
 | er e a1=>
  rw [hs] at t
  simp only [Rr.bind,rvS,Rr.at] at t ⊢
  have he:=(zlx hs).2
  have d0:((e:Int)+1 !=0)=true:=by simp;omega
  generalize tG H i p n a1 X B4 (tB s i c (H.length+4) hl)=Hz at *
  refine CallOk.body (F0:=[(0,.ptr (H.length+5) 0 0),(1,.int .i64 pr),(2,.int .i64 (most:Int))]) Tryz.func266 rfl Tryz.ntmps266 Tryz.results266 rfl (by kernel_rfl) rfl ?_
  refine PW.e ?_
  refine PW.f (fun K k=>by simp (disch:=omega) only [go_sem,↓reduceIte,reduceCtorEq,g5,zG,zH,pc8];refine VCx.call (t) rfl ?_;simp (disch:=omega) only [go_sem,↓reduceIte,reduceCtorEq,g5,zG,zH,pc8];exact k) ?_
  refine PW.f (fun K k=>by simp (disch:=omega) only [go_sem,↓reduceIte,reduceCtorEq,d0];exact k) ?_
  (repeat refine PW.seq ?_);refine PW.cond (t:=_) rfl (fun h=> ?_) (fun h=> ?_)
  rotate_left
  ·cases h
  refine PW.e ?_
  exact PW.ret ⟨_,rfl,Fin.now⟩
 | ok d a1=>
  rw [hs] at t
  have b:=(zd9 hs ha).1
  simp only [Rr.bind,rvS,Rr.at] at t
  have wd:=fun K=>wo (pr+d) K
  refine CallOk.body (F0:=[(0,.ptr (H.length+5) 0 0),(1,.int .i64 pr),(2,.int .i64 (most:Int))]) Tryz.func266 rfl Tryz.ntmps266 Tryz.results266 rfl (by kernel_rfl) rfl ?_
  refine PW.e ?_
  refine PW.f (fun K k=>by simp (disch:=omega) only [go_sem,↓reduceIte,reduceCtorEq,g5,zG,zH,pc8];refine VCx.call (t) rfl ?_;simp (disch:=omega) only [go_sem,↓reduceIte,reduceCtorEq,g5,zG,zH,pc8];exact k) ?_
  refine PW.e ?_
  (repeat refine PW.seq ?_);refine PW.cond (t:=_) rfl (fun h=> ?_) (fun h=> ?_)
  ·cases h
  refine PW.skip ?_
  simp only [Rr.bind]
  cases hw:win (pr+d) most with
  | true=>
   rw [hw] at wd
   (repeat refine PW.seq ?_);refine PW.rg rfl fun K hK=> ?_;simp (disch:=omega) only [go_sem,↓reduceIte,reduceCtorEq]
   refine VCx.call (wd _) rfl ?_;simp (disch:=omega) only [go_sem,↓reduceIte,reduceCtorEq];refine hK _ _ ?_;clear hK K
   (repeat refine PW.seq ?_);refine PW.cond (t:=_) rfl (fun h=> ?_) (fun h=> ?_)
   ·cases h
   refine PW.skip ?_
   refine PW.e ?_
   exact PW.ret ⟨_,rfl,Fin.now⟩
  | false=>
   rw [hw] at wd
   (repeat refine PW.seq ?_);refine PW.rg rfl fun K hK=> ?_;simp (disch:=omega) only [go_sem,↓reduceIte,reduceCtorEq]
   refine VCx.call (wd _) rfl ?_;simp (disch:=omega) only [go_sem,↓reduceIte,reduceCtorEq];refine hK _ _ ?_;clear hK K
   (repeat refine PW.seq ?_);refine PW.cond (t:=_) rfl (fun h=> ?_) (fun h=> ?_)
   rotate_left
   ·cases h
   refine PW.e ?_
   exact PW.ret ⟨_,rfl,Fin.now⟩
end
end Go.Proofs.YtjgmdlcjbgiekaaGreatDoor.Sc
namespace Go.Proofs.YtjgmdlcjbgiekaaGreatDoor.Sc
set_option linter.all false
open Pm Ty Go.RowKit
theorem zpw (m:Mb) (x:Int):(mbc m).set 0 (.int .i64 x)=mbc { m with k:=x }:=rfl
theorem zuk (m:Mb) (x y:Bool):List.take 1 (mbc m)++ .bool x:: .bool y::List.drop 3 (mbc m)=mbc { m with ua:=x,ub:=y }:=rfl
theorem zrR (m:Mb) (b0 b1 b2 b3 b4 b5:Bool):List.take 18 (mbc m)++ .bool b0:: .bool b1:: .bool b2:: .bool b3:: .bool b4:: .bool b5::List.drop 24 (mbc m)=mbc { m with ca:=b0,cb:=b1,cc:=b2,cd:=b3,ce:=b4,cf:=b5 }:=rfl
theorem zaY (m:Mb):(⟨154,0,mbc m⟩:Blk)=mB m:=rfl
theorem zbZ (s:St) (w:Nat) (c:Cx) (mi:Nat) (hl:Bool):(⟨280,0,tC s w c mi hl⟩:Blk)=tB s w c mi hl:=rfl
theorem zs7 (s:St) (w:Nat) (c:Cx) (mi:Nat) (hl b:Bool):(tC s w c mi hl).set 14 (.bool b)=tC s w c mi b:=rfl
theorem zap (s:St) (w:Nat) (c:Cx) (mi:Nat) (hl:Bool):(tC s w c mi hl)[13]? =some (.ptr mi 0 0):=rfl
theorem zck (s:St) (w:Nat) (c:Cx) (mi:Nat) (hl:Bool):(tC s w c mi hl)[8]? =some (.ptr w 0 0):=rfl
theorem zq6 (s:St) (w:Nat) (c:Cx) (mi:Nat) (hl:Bool):(tC s w c mi hl)[9]? =some (.int .i64 c.t):=rfl
theorem zn8 (s:St) (w:Nat) (c:Cx) (mi:Nat) (hl:Bool):List.take 4 (List.drop 9 (tC s w c mi hl))=cxc c:=rfl
theorem zje (s:St) (w:Nat) (c:Cx) (mi:Nat) (hl:Bool):(tC s w c mi hl)[14]? =some (.bool hl):=rfl
theorem zae (s:St) (w:Nat) (c:Cx) (mi:Nat) (hl:Bool):(tC s w c mi hl).length=15:=rfl
theorem zsK (H:za):CallOk Tryz.prog 205 [] H (.agg [.bool true,.bool true,.bool true,.bool true,.bool true,.bool true]) H:=by
 refine CallOk.body (F0:=[]) Tryz.func205 rfl Tryz.ntmps205 Tryz.results205 rfl (by kernel_rfl) rfl ?_
 refine PW.e ?_
 refine PW.e ?_
 refine PW.ret ⟨.agg [.bool true,.bool true,.bool true,.bool true,.bool true,.bool true],by simp (disch:=omega) only [go_sem,↓reduceIte,reduceCtorEq,zd,zg,List.mapM_cons,List.mapM_nil,Option.pure_def,Option.bind_eq_bind,Option.bind_some,Array.toList],?_⟩
 exact Fin.base (.id (zB (zhI _ [true,true,true,true,true,true])))
section
variable (H:za) (i:Nat) (p:List UInt8) (n a:Nat) (X:za) (c:Cx) (s:St) (hl:Bool) (hX:X.length=4)
include hX
theorem zmN (m:Mb) (hml:m.lv.length=384):CallOk Tryz.prog 257 [.ptr (H.length+5) 0 0] (tG H i p n a X (mB m) (tB s i c (H.length+4) hl)) (.tup []) (tG H i p n a X (mB { m with k:=1,ca:=true,cb:=true,cc:=true,cd:=true,ce:=true,cf:=true }) (tB s i c (H.length+4) true)):=by
 have g5:=fun B4 B5=>zhX H i p n a X B4 B5 hX
 have g4:=fun B4 B5=>zjd H i p n a X B4 B5 hX
 have s5:=fun B4 B5 B=>zgh H i p n a X B4 B5 hX B
 have s4:=fun B4 B5 B=>zgi H i p n a X B4 B5 hX B
 have hlen:=zV m hml
 have al:=fun K=>zsK K
 refine CallOk.body (F0:=[(0,.ptr (H.length+5) 0 0)]) Tryz.func257 rfl Tryz.ntmps257 Tryz.results257 rfl (by kernel_rfl) rfl ?_
 refine PW.f (fun K k=>by simp (disch:=omega) only [go_sem,↓reduceIte,reduceCtorEq,g5,g4,s4,s5,zG,zH,zap,zav,zaA,zbT,zpw,zaY,hlen];exact k) ?_
 have hlen2:=zV { m with k:=1 } hml
 (repeat refine PW.seq ?_);refine PW.draw mix (by kernel_rfl) fun K hK=> ?_;simp (disch:=omega) only [go_sem,↓reduceIte,reduceCtorEq,g5,g4,s4,s5,zG,zH,zap,zav,zaA,zbT,zaY,hlen2]
 refine VCy.callP al rfl ?_;simp (disch:=omega) only [go_sem,↓reduceIte,reduceCtorEq,g5,g4,s4,s5,zG,zH,zap,zav,zaA,zbT,zaY,hlen2,zrR,Nat.reduceAdd];refine hK _ _ ?_;clear hK K
 refine PW.f (fun K k=>by simp (disch:=omega) only [go_sem,↓reduceIte,reduceCtorEq,g5,g4,s4,s5,zG,zH,zdR,zap,zs7,zae,zbZ];exact k) ?_
 exact Exists.intro _ (And.intro rfl Fin.now)
end
def ecd:Nat→PV:=fun e=>.int .i64 ((e:Int)+1)
theorem zaI:zl384.length=384:=by unfold zl384;exact List.length_replicate
section
variable (H:za) (i:Nat) (p:List UInt8) (n a:Nat) (X:za) (c:Cx) (s:St) (hi:i<H.length) (hX:X.length=4) (ha:a≤n) (hn:n≤8 * p.length) (hp:p.length≤100000000)
include hi hX ha hn hp
theorem znS:CallOk Tryz.prog 184 [.ptr (H.length+5) 0 0] (tG H i p n a X (mB zMb) (tB s i c (H.length+4) false))
  (match zdb c p n a with| .ok _ _=>.int .i64 0| .er e _=>ecd e)
  (match zdb c p n a with| .ok x a1=>tG H i p n a1 X (mB x.1) (tB s i c (H.length+4) x.2)| .er _ a1=>tG H i p n a1 X (mB zMb) (tB s i c (H.length+4) false)):=by
 have g5:=fun a B4 B5=>zhX H i p n a X B4 B5 hX
 have g4:=fun a B4 B5=>zjd H i p n a X B4 B5 hX
 have s5:=fun a B4 B5 B=>zgh H i p n a X B4 B5 hX B
 have s4:=fun a B4 B5 B=>zgi H i p n a X B4 B5 hX B
 have ti:=fun a=>zmN H i p n a X c s false hX zMb zaI
 have hzl:=zV zMb zaI
 refine CallOk.body (F0:=[(0,.ptr (H.length+5) 0 0)]) Tryz.func184 rfl Tryz.ntmps184 Tryz.results184 rfl (by kernel_rfl) rfl ?_
 refine PW.e ?_
 by_cases ht1:c.t=1
 ·have q1:(c.t==1)=true:=by simp [ht1]
  refine PW.f (fun K k=>by simp (disch:=omega) only [go_sem,↓reduceIte,reduceCtorEq,g5,zG,zH,zq6,q1];exact k) ?_
  (repeat refine PW.seq ?_);refine PW.cond (t:=_) rfl (fun h=> ?_) (fun h=> ?_)
  rotate_left
  ·cases h
  refine PW.f (fun K k=>by simp (disch:=omega) only [go_sem,↓reduceIte,reduceCtorEq];refine VCx.call (ti _) rfl ?_;simp (disch:=omega) only [go_sem,↓reduceIte,reduceCtorEq];exact k) ?_
  refine PW.e ?_
  refine PW.ret ⟨_,rfl,?_⟩
  have hk:zdb c p n a= .ok (zfG,true) a:=by unfold zdb;rw [if_pos ht1]
  rw [hk]
  exact Fin.now
 have q1:(c.t==1)=false:=by simp [ht1]
 have tu:=zhV i p n a _ (zkr H i p n a X (mB zMb) (tB s i c (H.length+4) false) hi) ha hn hp
 rw [zgg _ _ _ _ _ _ _ _ hi] at tu
 have hk:zdb c p n a=(tkU p n a).bind fun v a1=>if (if c.t=2 then 3 else 7)<v then .er 2 a1 else if v=(if c.t=2 then 3 else 7) then .ok (zfG,true) a1 else if v=0 then .ok (zMb,false) a1 else .ok (zwh v,decide (v%2=0)) a1:=by unfold zdb;rw [if_neg ht1]
 refine PW.f (fun K k=>by simp (disch:=omega) only [go_sem,↓reduceIte,reduceCtorEq,g5,zG,zH,zq6,q1];exact k) ?_
 (repeat refine PW.seq ?_);refine PW.cond (t:=_) rfl (fun h=> ?_) (fun h=> ?_)
 ·cases h
 refine PW.skip ?_
 cases hu:tkU p n a with
 | er e a1=>
  rw [hu] at tu hk
  rw [hk]
  simp only [rvU,Rr.at,Rr.bind] at tu ⊢
  have d0:((e:Int)+1 !=0)=true:=by simp;omega
  have he:=(zjb hu).2
  refine PW.f (fun K k=>by simp (disch:=omega) only [go_sem,↓reduceIte,reduceCtorEq,g5,zG,zH,zck];refine VCx.call (tu) rfl ?_;simp (disch:=omega) only [go_sem,↓reduceIte,reduceCtorEq,g5,zG,zH,zck];exact k) ?_
  refine PW.f (fun K k=>by simp (disch:=omega) only [go_sem,↓reduceIte,reduceCtorEq,d0];exact k) ?_
  (repeat refine PW.seq ?_);refine PW.cond (t:=_) rfl (fun h=> ?_) (fun h=> ?_)
  rotate_left
  ·cases h
  refine PW.e ?_
  exact PW.ret ⟨_,rfl,Fin.now⟩
 | ok v a1=>
  have hb:=zd8 hu ha
  rw [hu] at tu hk
  rw [hk]
  simp only [rvU,Rr.at,Rr.bind] at tu ⊢
  clear hk hu
  refine PW.f (fun K k=>by simp (disch:=omega) only [go_sem,↓reduceIte,reduceCtorEq,g5,zG,zH,zck];refine VCx.call (tu) rfl ?_;simp (disch:=omega) only [go_sem,↓reduceIte,reduceCtorEq,g5,zG,zH,zck];exact k) ?_
  refine PW.e ?_
  (repeat refine PW.seq ?_);refine PW.cond (t:=_) rfl (fun h=> ?_) (fun h=> ?_)
  ·cases h
  refine PW.skip ?_
  refine PW.e ?_
  refine PW.to [0,3,5] [(0,.ptr (H.length+5) 0 0),(3,.int .i64 (v:Int)),(5,.int .i64 ((if c.t=2 then 3 else 7:Nat):Int))] (tG H i p n a1 X (mB zMb) (tB s i c (H.length+4) false)) ?_ ?_
  ·by_cases ht2:c.t=2
   ·have q2:(c.t==2)=true:=by simp [ht2]
    rw [if_pos ht2]
    refine PW.f (fun K k=>by simp (disch:=omega) only [go_sem,↓reduceIte,reduceCtorEq,g5,zG,zH,zq6,q2];exact k) ?_
    (repeat refine PW.seq ?_);refine PW.cond (t:=_) rfl (fun h=> ?_) (fun h=> ?_)
    rotate_left
    ·cases h
    refine PW.e ?_
    exact ⟨rfl,rfl⟩
   ·have q2:(c.t==2)=false:=by simp [ht2]
    rw [if_neg ht2]
    refine PW.f (fun K k=>by simp (disch:=omega) only [go_sem,↓reduceIte,reduceCtorEq,g5,zG,zH,zq6,q2];exact k) ?_
    (repeat refine PW.seq ?_);refine PW.cond (t:=_) rfl (fun h=> ?_) (fun h=> ?_)
    ·cases h
    exact PW.skip ⟨rfl,rfl⟩
  have hL:(if c.t=2 then 3 else 7:Nat)≤7:=by split<;>omega
  have hL0:3≤(if c.t=2 then 3 else 7:Nat):=by split<;>omega
  generalize (if c.t=2 then 3 else 7:Nat)=last at *
  (repeat refine PW.seq ?_);refine PW.block ?_
  by_cases h1:last<v
  ·have d1:decide ((last:Int)<(v:Int))=true:=decide_eq_true (by omega)
   rw [if_pos h1]
   refine PW.f (fun K k=>by simp (disch:=omega) only [go_sem,↓reduceIte,reduceCtorEq,d1];exact k) ?_
   (repeat refine PW.seq ?_);refine PW.cond (t:=_) rfl (fun h=> ?_) (fun h=> ?_)
   rotate_left
   ·cases h
   refine PW.e ?_
   exact PW.ret ⟨_,rfl,Fin.now⟩
  have d1:decide ((last:Int)<(v:Int))=false:=decide_eq_false (by omega)
  rw [if_neg h1]
  refine PW.f (fun K k=>by simp (disch:=omega) only [go_sem,↓reduceIte,reduceCtorEq,d1];exact k) ?_
  (repeat refine PW.seq ?_);refine PW.cond (t:=_) rfl (fun h=> ?_) (fun h=> ?_)
  ·cases h
  by_cases h2:v=last
  ·have d2:((v:Int)==(last:Int))=true:=by simp [h2]
   rw [if_pos h2]
   refine PW.f (fun K k=>by simp (disch:=omega) only [go_sem,↓reduceIte,reduceCtorEq,d2];exact k) ?_
   (repeat refine PW.seq ?_);refine PW.cond (t:=_) rfl (fun h=> ?_) (fun h=> ?_)
   rotate_left
   ·cases h
   refine PW.f (fun K k=>by simp (disch:=omega) only [go_sem,↓reduceIte,reduceCtorEq];refine VCx.call (ti _) rfl ?_;simp (disch:=omega) only [go_sem,↓reduceIte,reduceCtorEq];exact k) ?_
   refine PW.e ?_
   exact PW.ret ⟨_,rfl,Fin.now⟩
  have d2:((v:Int)==(last:Int))=false:=by rw [beq_eq_false_iff_ne];omega
  rw [if_neg h2]
  refine PW.f (fun K k=>by simp (disch:=omega) only [go_sem,↓reduceIte,reduceCtorEq,d2];exact k) ?_
  (repeat refine PW.seq ?_);refine PW.cond (t:=_) rfl (fun h=> ?_) (fun h=> ?_)
  ·cases h
  by_cases h3:v=0
  ·have d3:decide ((0:Int)<(v:Int))=false:=decide_eq_false (by omega)
   rw [if_pos h3]
   refine PW.f (fun K k=>by simp (disch:=omega) only [go_sem,↓reduceIte,reduceCtorEq,d3];exact k) ?_
   (repeat refine PW.seq ?_);refine PW.cond (t:=_) rfl (fun h=> ?_) (fun h=> ?_)
   ·cases h
   refine PW.skip ?_
   refine PW.e ?_
   exact PW.ret ⟨_,rfl,Fin.now⟩
  have d3:decide ((0:Int)<(v:Int))=true:=decide_eq_true (by omega)
  rw [if_neg h3]
  refine PW.f (fun K k=>by simp (disch:=omega) only [go_sem,↓reduceIte,reduceCtorEq,d3];exact k) ?_
  (repeat refine PW.seq ?_);refine PW.cond (t:=_) rfl (fun h=> ?_) (fun h=> ?_)
  rotate_left
  ·cases h
  have hv7:v<7:=by omega
  have h6:v=1∨v=2∨v=3∨v=4∨v=5∨v=6:=by omega
  have hm6:mbc { zMb with k:=2 }=mbc { zMb with k:=2 }:=rfl
  have hzl2:=zV { zMb with k:=2 } zaI
  clear h1 h2 h3 d1 d2 d3 hb hL hL0 tu
  refine PW.f (fun K k=>by simp (disch:=omega) only [go_sem,↓reduceIte,reduceCtorEq,g5,g4,s4,s5,zG,zH,zap,zav,zaA,zbT,zpw,zaY,hzl];exact k) ?_
  rcases h6 with rfl|rfl|rfl|rfl|rfl|rfl
  all_goals
   refine PW.f (fun K k=>by simp (disch:=omega) only [go_sem,↓reduceIte,reduceCtorEq,g5,g4,s4,s5,zG,zH,zap,zav,zaA,zbT,zuk,zaY,hzl2,Nat.reduceAdd];exact k) ?_
   refine PW.f (fun K k=>by simp (disch:=omega) only [go_sem,↓reduceIte,reduceCtorEq,g5,s5,zG,zH,zdR,zs7,zae,zbZ];exact k) ?_
   refine PW.e ?_
   exact PW.ret ⟨_,rfl,Fin.now⟩
end
end Go.Proofs.YtjgmdlcjbgiekaaGreatDoor.Sc
