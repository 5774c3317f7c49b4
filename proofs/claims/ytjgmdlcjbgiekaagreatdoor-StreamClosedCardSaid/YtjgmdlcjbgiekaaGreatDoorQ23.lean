/-
  Parts of the proof, put together in one text. No condition.
-/
import Derived.Test.YtjgmdlcjbgiekaaGreatDoorQ22
import Derived.Defers
import Derived.Recover
namespace Go.Proofs.YtjgmdlcjbgiekaaGreatDoor.Sc
set_option linter.all false
open Pm Ty Go.RowKit
def tkB (q:List UInt8) (n:Nat):Nat→Nat→Nat→List Int→Rr (List Int)
 | 0,_,a,_=>.er 2 a
 | f+1,p,a,l=>(tkU q n a).bind fun v a1=>if v=0 then .ok l a1 else if 64<p+v then .er 2 a1 else
  (tkS q n a1).bind fun w a2=>if w=0 then .er 2 a2 else if win w 4095=false then .er 2 a2 else tkB q n f (p+v) a2 (l.set (p+v - 1) w)
def z64:List Int:=List.replicate 64 0
def zeO (q:List UInt8) (n fr a:Nat):Rr (List Int):=tkB q n 65 fr a z64
theorem zhr {q:List UInt8} {n:Nat}:∀ (f p a:Nat) (l:List Int) {l':List Int} {a':Nat},tkB q n f p a l= .ok l' a'→a≤n→a<a'∧a'≤n∧l'.length=l.length
 | 0,p,a,l,l',a',h,ha=>by simp [tkB] at h
 | f+1,p,a,l,l',a',h,ha=>by
  simp only [tkB] at h
  cases hu:tkU q n a with
  | er e a1=>rw [hu] at h;cases h
  | ok v a1=>
   have b1:=zeb hu ha
   rw [hu,Rr.bind_ok] at h
   split at h
   ·injection h with h1 h2;subst h1 h2;exact ⟨b1.2.1,b1.2.2,rfl⟩
   ·split at h
    ·cases h
    ·cases hv:tkS q n a1 with
     | er e a2=>rw [hv] at h;cases h
     | ok w a2=>
      have b2:=zec hv b1.2.2
      rw [hv,Rr.bind_ok] at h
      split at h
      ·cases h
      ·split at h
       ·cases h
       ·have:=zhr f (p+v) a2 _ h b2.2.2
        rw [List.length_set] at this
        exact ⟨by omega,this.2.1,this.2.2⟩
theorem zn5 {q:List UInt8} {n:Nat}:∀ (f p a:Nat) (l:List Int) {e a':Nat},tkB q n f p a l= .er e a'→a≤n→a≤a'∧a'≤n∧e≤3
 | 0,p,a,l,e,a',h,ha=>by
  simp only [tkB] at h
  injection h with h1 h2
  omega
 | f+1,p,a,l,e,a',h,ha=>by
  simp only [tkB] at h
  cases hu:tkU q n a with
  | er e1 a1=>
   rw [hu] at h
   have:=zjd hu
   injection h with h1 h2
   omega
  | ok v a1=>
   have b1:=zeb hu ha
   rw [hu,Rr.bind_ok] at h
   split at h
   ·cases h
   ·split at h
    ·injection h with h1 h2;omega
    ·cases hv:tkS q n a1 with
     | er e2 a2=>
      rw [hv] at h
      have:=zlE hv
      injection h with h1 h2
      omega
     | ok w a2=>
      have b2:=zec hv b1.2.2
      rw [hv,Rr.bind_ok] at h
      split at h
      ·injection h with h1 h2;omega
      ·split at h
       ·injection h with h1 h2;omega
       ·have:=zn5 f (p+v) a2 _ h b2.2.2
        omega
def bpn (e:Nat):List PanicEntry:=pnc 364 .i64 ((e:Int)+1)
theorem zl8 (v:Int) (H:za):CallOk Tryz.prog 315 [.int .i64 v,.int .i64 0] H (.int .i64 v) H:=by
 refine CallOk.body (F0:=[(0,.int .i64 v),(1,.int .i64 0)]) Tryz.func315 rfl Tryz.ntmps315 Tryz.results315 rfl (by kernel_rfl) rfl ?_
 (repeat' (first|refine PW.seq ?_|refine PW.skip ?_|refine PW.block ?_|((first|refine PW.rg rfl fun K hK=> ?_|refine PW.draw mix (by kernel_rfl) fun K hK=> ?_);simp (disch:=omega) only [go_sem,↓reduceIte,reduceCtorEq])|((first|refine zj ?_ ?_|refine zn ?_ ?_|refine And.intro ?_ ?_)<;>intro h<;>(try simp only [nqb] at h)<;>simp (disch:=omega) only [go_sem,↓reduceIte,reduceCtorEq,h])|(refine hK _ _ ?_;clear hK K)|(refine PW.cond (t:=_) rfl (fun h=> ?_) (fun h=> ?_)<;>(try (cases h;done))<;>(try simp only [nqb] at h))))
 all_goals exact PW.ret ⟨_,rfl,Fin.now⟩
theorem zjO (e:Nat) (H:za):CallPan Tryz.prog 315 [.int .i64 0,.int .i64 ((e:Int)+1)] H (bpn e) H:=by
 have d:((e:Int)+1 !=0)=true:=by simp;omega
 refine CallPan.body (F0:=[(0,.int .i64 0),(1,.int .i64 ((e:Int)+1))]) Tryz.func315 rfl Tryz.ntmps315 rfl (by kernel_rfl) rfl ?_
 refine PW.e ?_
 refine PW.f (fun K k=>by simp (disch:=omega) only [go_sem,↓reduceIte,reduceCtorEq,d];exact k) ?_
 refine PW.t ?_
 (repeat refine PW.seq ?_);refine PW.raiseV (k:=.i64) (e:=(e:Int)+1) 2 rfl ⟨_,_,_,rfl,rfl,rfl,rfl,rfl,rfl⟩ (Nat.le_of_ble_eq_true rfl) (by kernel_rfl) fun K hK=> ?_;simp (disch:=omega) only [go_sem,↓reduceIte,reduceCtorEq];refine hK _ _ rfl ?_;clear hK K
 exact ⟨rfl,.inl rfl⟩
def rdH (H:za) (i:Nat) (p:List UInt8) (n a:Nat) (l:List Int):za:=H.set i (rA p n a)++[⟨151,0,is z64⟩,⟨151,0,is l⟩]
section
variable (H:za) (i:Nat) (p:List UInt8) (n a:Nat) (l:List Int)
theorem zlX (hi:i<H.length):(rdH H i p n a l)[i]? =some (rA p n a):=by
 unfold rdH;rw [List.getElem?_append_left (by simpa using hi)];simp [hi]
theorem zeY (hi:i<H.length) (a':Nat):(rdH H i p n a l).set i (rA p n a')=rdH H i p n a' l:=by
 unfold rdH;rw [List.set_append_left _ _ (by simpa using hi),List.set_set]
theorem zv4:(rdH H i p n a l)[H.length]? =some ⟨151,0,is z64⟩:=by
 have:=hp0 (H.set i (rA p n a)) [⟨151,0,is l⟩] ⟨151,0,is z64⟩
 rwa [List.length_set] at this
theorem zgw:(rdH H i p n a l)[H.length+1]? =some ⟨151,0,is l⟩:=by
 have:=hp1 (H.set i (rA p n a)) [] ⟨151,0,is z64⟩ ⟨151,0,is l⟩
 rwa [List.length_set] at this
theorem zoP (l':List Int):(rdH H i p n a l).set (H.length+1) ⟨151,0,is l'⟩=rdH H i p n a l':=by
 have:=hs1 (H.set i (rA p n a)) [] ⟨151,0,is z64⟩ ⟨151,0,is l⟩ ⟨151,0,is l'⟩
 rwa [List.length_set] at this
theorem zt2 (l':List Int):(rdH H i p n a l).set H.length ⟨151,0,is l'⟩=H.set i (rA p n a)++[⟨151,0,is l'⟩,⟨151,0,is l⟩]:=by
 have:=hs0 (H.set i (rA p n a)) [⟨151,0,is l⟩] ⟨151,0,is z64⟩ ⟨151,0,is l'⟩
 rwa [List.length_set] at this
end
theorem zgv (H:za) (i:Nat) (p:List UInt8) (n a:Nat) (l:List Int):zwY H (H.set i (rA p n a)) (rdH H i p n a l):=
 .inr (.inr fun h=>⟨by simp,CutH.base (zds _ _ _ _ _ h)⟩)
set_option maxHeartbeats 1000000 in
theorem zoO (i:Nat) (p:List UInt8) (n a fr e a':Nat) (H:za) (hA:H[i]? =some (rA p n a)) (ha:a≤n) (hn:n≤8 * p.length) (hp:p.length≤100000000) (hfr:fr≤1) (hr:zeO p n fr a= .er e a'):
  CallPan Tryz.prog 304 [.ptr i 0 0,.int .i64 (fr:Int)] H (bpn e) (H.set i (rA p n a')):=by
 have hi:=(List.getElem?_eq_some_iff.1 hA).1
 have hself:=za9 hA
 have al:=fun x K=>zqJ x K
 have mo:=fun v K=>zl8 v K
 have mp:=fun e K=>zjO e K
 refine CallPan.body (F0:=[(0,.ptr i 0 0),(1,.int .i64 (fr:Int))]) Tryz.func304 rfl Tryz.ntmps304 rfl (by kernel_rfl) rfl ?_
 refine PW.e ?_
 refine PW.e ?_
 refine PW.e ?_
 (repeat refine PW.seq ?_);refine PW.block (PW.loop ?_)
 suffices hl:∀ (f at' a:Nat) (l:List Int),at'≤64→64 - at'<f→a≤n→l.length=64→tkB p n f at' a l= .er e a'→PL Tryz.prog _ _ [(0,.ptr i 0 0),(4,.ptr H.length 0 0),(5,.ptr (H.length+1) 0 0),(6,.int .i64 ((at':Int) - 1))] (rdH H i p n a l) _ by
  exact PL.at [0,4,5,6] (hl 65 fr a z64 (by omega) (by omega) ha (by simp [z64]) hr) rfl (by unfold rdH;rw [hself];rfl)
 clear hr hself hA ha
 intro f
 induction f with
 | zero=>intro at' a l h1 h2;omega
 | succ f ih=>
  intro at' a l h1 h2 ha hll hr
  have tu:=zhW i p n a (rdH H i p n a l) (zlX H i p n a l hi) ha hn hp
  simp only [tkB] at hr
  refine PL.round ?_;(repeat refine PW.seq ?_);refine PW.block ?_
  cases hu:tkU p n a with
  | er e1 a1=>
   rw [hu,Rr.bind_er] at hr
   injection hr with r1 r2
   subst r1 r2
   rw [hu] at tu
   simp only [rvU,Rr.at,zeY _ _ _ _ _ _ hi] at tu
   (repeat refine PW.seq ?_);refine PW.panV 4 rfl ⟨_,_,rfl,rfl,rfl⟩ fun K hK=> ?_;simp (disch:=omega) only [go_sem,↓reduceIte,reduceCtorEq]
   refine VCx.call (tu) rfl ?_;simp (disch:=omega) only [go_sem,↓reduceIte,reduceCtorEq]
   exact hK _ _ _ _ _ _ rfl (mp _ _) ⟨rfl,zgv ..⟩
  | ok v a1=>
   have b1:=zeb hu ha
   rw [hu,Rr.bind_ok] at hr
   rw [hu] at tu
   simp only [rvU,Rr.at,zeY _ _ _ _ _ _ hi] at tu
   have hv0:¬ v=0:=fun e0=>by rw [if_pos e0] at hr;cases hr
   rw [if_neg hv0] at hr
   have d1:((v:Int)==0)=false:=by rw [beq_eq_false_iff_ne];omega
   (repeat refine PW.seq ?_);refine PW.rg rfl fun K hK=> ?_;simp (disch:=omega) only [go_sem,↓reduceIte,reduceCtorEq]
   refine VCx.call (tu) rfl ?_;simp (disch:=omega) only [go_sem,↓reduceIte,reduceCtorEq]
   refine VCx.call (mo _ _) rfl ?_;simp (disch:=omega) only [go_sem,↓reduceIte,reduceCtorEq];refine hK _ _ ?_;clear hK K
   refine PW.f (fun K k=>by simp (disch:=omega) only [go_sem,↓reduceIte,reduceCtorEq,d1];exact k) ?_
   refine PW.us ?_
   refine PW.e ?_
   have e1:(at':Int) - 1+(v:Int)=((at'+v:Nat):Int) - 1:=by omega
   by_cases h64:64<at'+v
   ·rw [if_pos h64] at hr
    injection hr with r1 r2
    subst r1 r2
    have d2:decide ((64:Int)≤((at'+v:Nat):Int) - 1)=true:=decide_eq_true (by omega)
    refine PW.f (fun K k=>by simp (disch:=omega) only [go_sem,↓reduceIte,reduceCtorEq,e1,d2];exact k) ?_
    refine PW.t ?_
    (repeat refine PW.seq ?_);refine PW.raiseV (k:=.i64) (e:=3) 1 rfl ⟨_,_,_,rfl,rfl,rfl,rfl,rfl,rfl⟩ (Nat.le_of_ble_eq_true rfl) (by kernel_rfl) fun K hK=> ?_;simp (disch:=omega) only [go_sem,↓reduceIte,reduceCtorEq];refine hK _ _ rfl ?_;clear hK K
    exact ⟨rfl,zgv ..⟩
   rw [if_neg h64] at hr
   have d2:decide ((64:Int)≤((at'+v:Nat):Int) - 1)=false:=decide_eq_false (by omega)
   refine PW.f (fun K k=>by simp (disch:=omega) only [go_sem,↓reduceIte,reduceCtorEq,e1,d2];exact k) ?_
   refine PW.us ?_
   have ts:=zhX i p n a1 (rdH H i p n a1 l) (zlX H i p n a1 l hi) b1.2.2 hn hp
   cases hw:tkS p n a1 with
   | er e2 a2=>
    rw [hw,Rr.bind_er] at hr
    injection hr with r1 r2
    subst r1 r2
    rw [hw] at ts
    simp only [rvS,Rr.at,zeY _ _ _ _ _ _ hi] at ts
    (repeat refine PW.seq ?_);refine PW.panV 5 rfl ⟨_,_,rfl,rfl,rfl⟩ fun K hK=> ?_;simp (disch:=omega) only [go_sem,↓reduceIte,reduceCtorEq]
    refine VCx.call (ts) rfl ?_;simp (disch:=omega) only [go_sem,↓reduceIte,reduceCtorEq]
    exact hK _ _ _ _ _ _ rfl (mp _ _) ⟨rfl,zgv ..⟩
   | ok w a2=>
    have b2:=zec hw b1.2.2
    rw [hw,Rr.bind_ok] at hr
    rw [hw] at ts
    simp only [rvS,Rr.at,zeY _ _ _ _ _ _ hi] at ts
    have e3:((at'+v:Nat):Int) - 1=((at'+v - 1:Nat):Int):=by omega
    have hil:(is l).length=64:=by rw [zt,hll]
    (repeat refine PW.seq ?_);refine PW.rg rfl fun K hK=> ?_;simp (disch:=omega) only [go_sem,↓reduceIte,reduceCtorEq]
    refine VCx.call (ts) rfl ?_;simp (disch:=omega) only [go_sem,↓reduceIte,reduceCtorEq]
    refine VCx.call (mo _ _) rfl ?_;simp (disch:=omega) only [go_sem,↓reduceIte,reduceCtorEq,e1,e3,zgw,hil,zbO,zoP];refine hK _ _ ?_;clear hK K
    have hgl:(is (l.set (at'+v - 1) w))[at'+v - 1]? =some (.int .i64 w):=by
     rw [zbq _ _ (by rw [List.length_set];omega)]
     simp [zh,hll,show at'+v - 1<64 by omega]
    have hil2:(is (l.set (at'+v - 1) w)).length=64:=by rw [zt,List.length_set,hll]
    by_cases hw0:w=0
    ·rw [if_pos hw0] at hr
     injection hr with r1 r2
     subst r1 r2
     have d3:(w==0)=true:=by simp [hw0]
     refine PW.f (fun K k=>by simp (disch:=omega) only [go_sem,↓reduceIte,reduceCtorEq,e1,e3,zgw,hil2,hgl,d3];exact k) ?_
     refine PW.t ?_
     (repeat refine PW.seq ?_);refine PW.raiseV (k:=.i64) (e:=3) 1 rfl ⟨_,_,_,rfl,rfl,rfl,rfl,rfl,rfl⟩ (Nat.le_of_ble_eq_true rfl) (by kernel_rfl) fun K hK=> ?_;simp (disch:=omega) only [go_sem,↓reduceIte,reduceCtorEq];refine hK _ _ rfl ?_;clear hK K
     exact ⟨rfl,zgv ..⟩
    ·rw [if_neg hw0] at hr
     have d3:(w==0)=false:=by simp [hw0]
     have alw:=fun K=>al w K
     cases hwn:win w 4095 with
     | false=>
      rw [hwn,if_pos rfl] at hr
      rw [hwn] at alw
      injection hr with r1 r2
      subst r1 r2
      (repeat refine PW.seq ?_);refine PW.rg rfl fun K hK=> ?_;simp (disch:=omega) only [go_sem,↓reduceIte,reduceCtorEq,e1,e3,zgw,hil2,hgl,d3]
      refine VCx.call (alw _) rfl ?_;simp (disch:=omega) only [go_sem,↓reduceIte,reduceCtorEq];refine hK _ _ ?_;clear hK K
      refine PW.t ?_
      (repeat refine PW.seq ?_);refine PW.raiseV (k:=.i64) (e:=3) 1 rfl ⟨_,_,_,rfl,rfl,rfl,rfl,rfl,rfl⟩ (Nat.le_of_ble_eq_true rfl) (by kernel_rfl) fun K hK=> ?_;simp (disch:=omega) only [go_sem,↓reduceIte,reduceCtorEq];refine hK _ _ rfl ?_;clear hK K
      exact ⟨rfl,zgv ..⟩
     | true=>
      rw [hwn,if_neg (by decide)] at hr
      rw [hwn] at alw
      (repeat refine PW.seq ?_);refine PW.rg rfl fun K hK=> ?_;simp (disch:=omega) only [go_sem,↓reduceIte,reduceCtorEq,e1,e3,zgw,hil2,hgl,d3]
      refine VCx.call (alw _) rfl ?_;simp (disch:=omega) only [go_sem,↓reduceIte,reduceCtorEq];refine hK _ _ ?_;clear hK K
      refine PW.us ?_
      exact PL.at [0,4,5,6] (ih (at'+v) a2 _ (by omega) (by omega) b2.2.2 (by rw [List.length_set,hll]) hr) (by simp [kp,slot,Nat.beq];omega) rfl
set_option maxHeartbeats 1000000 in
theorem zrq (i:Nat) (p:List UInt8) (n a fr a':Nat) (l':List Int) (H:za) (hA:H[i]? =some (rA p n a)) (ha:a≤n) (hn:n≤8 * p.length) (hp:p.length≤100000000) (hfr:fr≤1) (hr:zeO p n fr a= .ok l' a'):
  CallOk Tryz.prog 304 [.ptr i 0 0,.int .i64 (fr:Int)] H (.agg (is l')) (H.set i (rA p n a')):=by
 have hi:=(List.getElem?_eq_some_iff.1 hA).1
 have hself:=za9 hA
 have al:=fun x K=>zqJ x K
 have mo:=fun v K=>zl8 v K
 have mp:=fun e K=>zjO e K
 refine CallOk.body (F0:=[(0,.ptr i 0 0),(1,.int .i64 (fr:Int))]) Tryz.func304 rfl Tryz.ntmps304 Tryz.results304 rfl (by kernel_rfl) rfl ?_
 refine PW.e ?_
 refine PW.e ?_
 refine PW.e ?_
 (repeat refine PW.seq ?_);refine PW.block (PW.loop ?_)
 suffices hl:∀ (f at' a:Nat) (l:List Int),at'≤64→64 - at'<f→a≤n→l.length=64→tkB p n f at' a l= .ok l' a'→PL Tryz.prog _ _ [(0,.ptr i 0 0),(4,.ptr H.length 0 0),(5,.ptr (H.length+1) 0 0),(6,.int .i64 ((at':Int) - 1))] (rdH H i p n a l) _ by
  exact PL.at [0,4,5,6] (hl 65 fr a z64 (by omega) (by omega) ha (by simp [z64]) hr) rfl (by unfold rdH;rw [hself];rfl)
 clear hr hself hA ha
 intro f
 induction f with
 | zero=>intro at' a l h1 h2;omega
 | succ f ih=>
  intro at' a l h1 h2 ha hll hr
  have tu:=zhW i p n a (rdH H i p n a l) (zlX H i p n a l hi) ha hn hp
  simp only [tkB] at hr
  refine PL.round ?_;(repeat refine PW.seq ?_);refine PW.block ?_
  cases hu:tkU p n a with
  | er e1 a1=>
   rw [hu,Rr.bind_er] at hr
   cases hr
  | ok v a1=>
   have b1:=zeb hu ha
   rw [hu,Rr.bind_ok] at hr
   rw [hu] at tu
   simp only [rvU,Rr.at,zeY _ _ _ _ _ _ hi] at tu
   by_cases hv0:v=0
   ·rw [if_pos hv0] at hr
    injection hr with r1 r2
    subst r1 r2
    have d1:((v:Int)==0)=true:=by simp [hv0]
    (repeat refine PW.seq ?_);refine PW.rg rfl fun K hK=> ?_;simp (disch:=omega) only [go_sem,↓reduceIte,reduceCtorEq]
    refine VCx.call (tu) rfl ?_;simp (disch:=omega) only [go_sem,↓reduceIte,reduceCtorEq]
    refine VCx.call (mo _ _) rfl ?_;simp (disch:=omega) only [go_sem,↓reduceIte,reduceCtorEq];refine hK _ _ ?_;clear hK K
    refine PW.f (fun K k=>by simp (disch:=omega) only [go_sem,↓reduceIte,reduceCtorEq,d1];exact k) ?_
    refine PW.t ?_
    have hil:(is l).length=64:=by rw [zt,hll]
    have hz:(is z64).length=64:=by rw [zt];simp [z64]
    have htk:List.take 64 (is l)=is l:=List.take_of_length_le (by omega)
    have hcel:=zU l
    have hdz:List.drop 64 (is z64)=[]:=List.drop_of_length_le (by omega)
    have hg0:(H.set i (rA p n a1)++[⟨151,0,is l⟩,⟨151,0,is l⟩])[H.length]? =some ⟨151,0,is l⟩:=by
     have:=hp0 (H.set i (rA p n a1)) [⟨151,0,is l⟩] ⟨151,0,is l⟩
     rwa [List.length_set] at this
    refine PW.f (fun K k=>by simp (disch:=omega) only [go_sem,↓reduceIte,reduceCtorEq,zgw,zv4,hil,hz,htk,hcel,hdz,zt2];exact k) ?_
    refine PW.ret ⟨.agg (is l),by simp (disch:=omega) only [go_sem,↓reduceIte,reduceCtorEq,zd,zg,List.mapM_cons,List.mapM_nil,Option.pure_def,Option.bind_eq_bind,Option.bind_some,Array.toList,hg0,hil,htk],?_⟩
    exact Fin.cut rfl (by simp) (zds _ _ _ _ _) (.id (zB (zar _ _)))
   rw [if_neg hv0] at hr
   have d1:((v:Int)==0)=false:=by rw [beq_eq_false_iff_ne];omega
   (repeat refine PW.seq ?_);refine PW.rg rfl fun K hK=> ?_;simp (disch:=omega) only [go_sem,↓reduceIte,reduceCtorEq]
   refine VCx.call (tu) rfl ?_;simp (disch:=omega) only [go_sem,↓reduceIte,reduceCtorEq]
   refine VCx.call (mo _ _) rfl ?_;simp (disch:=omega) only [go_sem,↓reduceIte,reduceCtorEq];refine hK _ _ ?_;clear hK K
   refine PW.f (fun K k=>by simp (disch:=omega) only [go_sem,↓reduceIte,reduceCtorEq,d1];exact k) ?_
   refine PW.us ?_
   refine PW.e ?_
   have e1:(at':Int) - 1+(v:Int)=((at'+v:Nat):Int) - 1:=by omega
   by_cases h64:64<at'+v
   ·rw [if_pos h64] at hr
    cases hr
   rw [if_neg h64] at hr
   have d2:decide ((64:Int)≤((at'+v:Nat):Int) - 1)=false:=decide_eq_false (by omega)
   refine PW.f (fun K k=>by simp (disch:=omega) only [go_sem,↓reduceIte,reduceCtorEq,e1,d2];exact k) ?_
   refine PW.us ?_
   have ts:=zhX i p n a1 (rdH H i p n a1 l) (zlX H i p n a1 l hi) b1.2.2 hn hp
   cases hw:tkS p n a1 with
   | er e2 a2=>
    rw [hw,Rr.bind_er] at hr
    cases hr
   | ok w a2=>
    have b2:=zec hw b1.2.2
    rw [hw,Rr.bind_ok] at hr
    rw [hw] at ts
    simp only [rvS,Rr.at,zeY _ _ _ _ _ _ hi] at ts
    have e3:((at'+v:Nat):Int) - 1=((at'+v - 1:Nat):Int):=by omega
    have hil:(is l).length=64:=by rw [zt,hll]
    (repeat refine PW.seq ?_);refine PW.rg rfl fun K hK=> ?_;simp (disch:=omega) only [go_sem,↓reduceIte,reduceCtorEq]
    refine VCx.call (ts) rfl ?_;simp (disch:=omega) only [go_sem,↓reduceIte,reduceCtorEq]
    refine VCx.call (mo _ _) rfl ?_;simp (disch:=omega) only [go_sem,↓reduceIte,reduceCtorEq,e1,e3,zgw,hil,zbO,zoP];refine hK _ _ ?_;clear hK K
    have hgl:(is (l.set (at'+v - 1) w))[at'+v - 1]? =some (.int .i64 w):=by
     rw [zbq _ _ (by rw [List.length_set];omega)]
     simp [zh,hll,show at'+v - 1<64 by omega]
    have hil2:(is (l.set (at'+v - 1) w)).length=64:=by rw [zt,List.length_set,hll]
    by_cases hw0:w=0
    ·rw [if_pos hw0] at hr
     cases hr
    ·rw [if_neg hw0] at hr
     have d3:(w==0)=false:=by simp [hw0]
     have alw:=fun K=>al w K
     cases hwn:win w 4095 with
     | false=>
      rw [hwn,if_pos rfl] at hr
      cases hr
     | true=>
      rw [hwn,if_neg (by decide)] at hr
      rw [hwn] at alw
      (repeat refine PW.seq ?_);refine PW.rg rfl fun K hK=> ?_;simp (disch:=omega) only [go_sem,↓reduceIte,reduceCtorEq,e1,e3,zgw,hil2,hgl,d3]
      refine VCx.call (alw _) rfl ?_;simp (disch:=omega) only [go_sem,↓reduceIte,reduceCtorEq];refine hK _ _ ?_;clear hK K
      refine PW.us ?_
      exact PL.at [0,4,5,6] (ih (at'+v) a2 _ (by omega) (by omega) b2.2.2 (by rw [List.length_set,hll]) hr) (by simp [kp,slot,Nat.beq];omega) rfl
end Go.Proofs.YtjgmdlcjbgiekaaGreatDoor.Sc
namespace Go.Proofs.YtjgmdlcjbgiekaaGreatDoor.Pm
set_option linter.all false
open Go.RowKit
variable {P:Program} {C:Ctx} {H:za} {w:World} {F:Fr} {a:Act} {N:Nat}
theorem zkk {all:Array Oper} {o:Oper} {rest:List Oper} {v:PV} {H':za} {Q:Exit→Act→World→Prop} (hw:WRel C H w) (hf:FRel C N (slot F) a) (hd:zR N o=true) (hg:o.guard=none) (hp:zr o.op (slot F)=none) (he:pop P o.op (slot F) H=some (v,H'))
  (hn:∀ C' u w',CLe C C'→WRel C' H' w'→Below C.B w w'→FRel C' N (slot (put F o.dst v)) (a.put o.dst u)→wpList P all Q rest (a.put o.dst u) w'):wpList P all Q (o::rest) a w:=by
 unfold wpList
 rw [if_pos (by simp [Region.wanted,hg])]
 left
 refine zbL hd hw hf (R:=fun v' H''=>v'=v∧H''=H') (by unfold zcp;rw [hp];exact ⟨v,H',he,rfl,rfl⟩) _ _ fun C' u w' v' H'' q0 q1 q2 q3 q4=> ?_
 obtain ⟨rfl,rfl⟩:=q0
 rw [←zX] at q4
 exact hn C' u w' q1 q2 q3 q4
theorem zhT {all:Array Oper} {o:Oper} {rest:List Oper} {u:Value} {Q:Exit→Act→World→Prop} (hg:o.guard=none) (he:(execOp a.eval o).run P w= .ok (.value u) w) (hn:wpList P all Q rest (a.put o.dst u) w):wpList P all Q (o::rest) a w:=by
 unfold wpList
 rw [if_pos (by simp [Region.wanted,hg])]
 left
 unfold Oper.wp
 rw [he,Oper.upon_value]
 exact hn
theorem znn {args:List PV} {us:List Value} (hargs:VRels C args us) (hn:args.length≤N):FRel C N (slot (zce args 0)) { tmps:=us.toArray++Array.replicate (N - us.toArray.size) Go.undef,defers:=[] }:=by
 refine ⟨by simp [hargs.1];omega,fun t=> ?_⟩
 rw [zcE]
 simp only [Nat.zero_le,if_true,Nat.sub_zero]
 by_cases ht:t<args.length
 ·have htu:t<us.length:=by rw [hargs.1];exact ht
  have e1:args.getD t .undef=args[t]:=by simp [List.getD,ht]
  have e2:(us.toArray++Array.replicate (N - us.toArray.size) Go.undef).getD t Go.undef=us[t]:=by
   rw [Array.getD_eq_getD_getElem?,Array.getElem?_append_left (by simpa using htu)]
   simp [htu]
  rw [e1,e2]
  exact hargs.2 t _ _ (List.getElem?_eq_getElem ht) (List.getElem?_eq_getElem htu)
 ·have e1:args.getD t .undef= .undef:=by simp [List.getD,List.getElem?_eq_none (by omega:args.length≤t)]
  rw [e1]
  exact .undef _
theorem WRel.drop {A K:za} {C0:Ctx} {w0:World} (h0:WRel C0 H w0) (hl:H.length=A.length) (hA:HSc A) (hle:CLe C0 C) (hw:WRel C (A++K) w):∃ C',CLe C0 C'∧WRel C' A w:=by
 obtain ⟨g1,g2⟩:=hw.cutN (CutH.base hA)
 exact ⟨_,((hle.toN _).trans (g1.less (m:=H.length) (by omega))).full h0.lenv,g2⟩
theorem zmT {all:Array Oper} {o:Oper} {rest:List Oper} {d:Deferred} {Q:Exit→Act→World→Prop} (hg:o.guard=none) (he:(execOp a.eval o).run P w= .ok (.defer d) w) (hn:wpList P all Q rest ({ a with defers:=d::a.defers }.put o.dst Go.undef) w):wpList P all Q (o::rest) a w:=by
 unfold wpList
 rw [if_pos (by simp [Region.wanted,hg])]
 left
 unfold Oper.wp
 rw [he,Oper.upon_defer]
 exact hn
theorem PW.hand {c:Code} {F1:Fr} {H1:za} {Q:Exit→Act→World→Prop} (ks:List Nat) (h:PW P ⟨N,H⟩ c F H (fun x F' H'=>x= .normal∧kp ks F'=F1∧H'=H1)) (hd:a.defers=[]) (hw:WRel C H w) (hf:FRel C N (slot F) a)
  (hn:∀ C' a' w',CLe C C'→a'.defers=[]→WRel C' H1 w'→Below C.B w w'→FRel C' N (slot F1) a'→Q .normal a' w'):c.wp P Q a w:=by
 refine wp_mono (h hw.hsc C a w hd hw hf) ?_
 rintro x a' w' ⟨C',F',H',y1,y2,y3,y4,y5,rfl,rfl,rfl⟩
 exact hn C' a' w' (y1.full hw.lenv) y2 y3 y4 (y5.keep ks)
theorem zdQ {id:Nat} {ops:Array Oper} {K:Fr→za→Prop} {Q:Exit→Act→World→Prop} (n:Nat) (hd:(ops.toList.take n).all (zR N)=true) (h:VO P (ops.toList.map (·.dst)) (ops.toList.take n) (some (F,H)) K) {D:List Deferred} (hD:a.defers=D) (hw:WRel C H w) (hf:FRel C N (slot F) a)
  (hn:∀ C' F' H' a' w',CLe C C'→a'.defers=D→WRel C' H' w'→Below C.B w w'→FRel C' N (slot F') a'→K F' H'→wpList P ops Q (ops.toList.drop n) a' w'):(Code.region id ops false).wp P Q a w:=by
 refine wp_region_list ?_
 have:=zcu (P:=P) (all:=ops.toList) (rest:=ops.toList.drop n) (ops.toList.take n) F H hd (zag _ _ _ h) C a w hD hw hf Q (fun C' F' H' a' w' p1 p2 p3 p4 p5 p6=>by
  simpa using hn C' F' H' a' w' p1 p2 p3 p4 p5 p6)
 rw [List.take_append_drop] at this
 simpa using this
theorem WRel.dropV {A K:za} {C0:Ctx} {w0:World} {v:PV} {u:Value} (h0:WRel C0 H w0) (hl:H.length=A.length) (hA:HSc A) (hle:CLe C0 C) (hw:WRel C (A++K) w) (hv:VRel C v u) (hs:Scoped A.length v):∃ C',CLe C0 C'∧WRel C' A w∧VRel C' v u:=by
 obtain ⟨g1,g2⟩:=hw.cutN (CutH.base hA)
 exact ⟨_,((hle.toN _).trans (g1.less (m:=H.length) (by omega))).full h0.lenv,g2,(Fz.id hs).sound hw hv⟩
end Go.Proofs.YtjgmdlcjbgiekaaGreatDoor.Pm
namespace Go.Proofs.YtjgmdlcjbgiekaaGreatDoor.Sc
set_option linter.all false
open Pm Ty Go.RowKit
theorem zlr (x y:Value) (w:World):CallsD Tryz.prog 303 #[x,y] .returning w fun e u' w'=>e= .returned (.tuple #[])∧u'= .returning∧w'=w:=by
 refine callsD_of_wpS Tryz.func303 rfl fun c₀ cs hu=> ?_
 apply wpS_seq
 apply wpS_region
 simp [wpOpsS,go_sem,recoverD,hu,Tryz.ntmps303,Exit.thenS]
 apply wpS_seq
 apply wpS_region
 simp [wpOpsS,go_sem,Exit.thenS]
 refine wpS_cond (t:=false) (by simp [Act.eval,Array.replicate]) ?_
 simp only [Bool.false_eq_true,if_false]
 refine wpS_of_wp (wp_skip ?_)
 cases c₀
 simp_all [bodyPostS,results,Tryz.results303]
def zsA (C:Ctx) (H':za) (w:World) (e:Nat):Ending→FrameMode→World→Prop:=fun x u' w'=>
 x= .returned (.tuple #[])∧u'= .panicking [{ v:=.iface 364 (.agg #[.int .i64 ((e:Int)+1)]),recovered:=true }]∧∃ C',CLe C C'∧WRel C' H' w'∧Below C.B w w'
set_option maxHeartbeats 1000000 in
theorem znv (i4 i5 e:Nat) (l:List Int) (z:Int) (H:za) (C:Ctx) (x y:Value) (w:World) (h4:H[i4]? =some ⟨151,0,is l⟩) (h5:H[i5]? =some ⟨44,0,[.int .i64 z]⟩) (hl:l.length=64) (hne:i4≠i5)
  (hw:WRel C H w) (hx:VRel C (.ptr i4 0 0) x) (hy:VRel C (.ptr i5 0 0) y):
  CallsD Tryz.prog 303 #[x,y] (.panicking (bpn e)) w (zsA C ((H.set i4 ⟨151,0,is z64⟩).set i5 ⟨44,0,[.int .i64 ((e:Int)+1)]⟩) w e):=by
 refine callsD_of_wpS Tryz.func303 rfl fun c₀ cs hu=> ?_
 unfold bpn pnc at hu
 apply wpS_seq
 apply wpS_region
 simp [wpOpsS,go_sem,recoverD,hu,Tryz.ntmps303,Exit.thenS]
 apply wpS_seq
 apply wpS_region
 simp [wpOpsS,go_sem,Exit.thenS]
 refine wpS_cond (t:=true) (by simp [Act.eval,Array.replicate]) ?_
 simp only [if_true]
 refine wpS_of_wp ?_
 have hp4:i4<H.length:=(List.getElem?_eq_some_iff.1 h4).1
 have hp5:i5<H.length:=(List.getElem?_eq_some_iff.1 h5).1
 have hfr:FRel C 17 (slot [(0,.ptr i4 0 0),(1,.ptr i5 0 0)]) { tmps:= #[x,y]++((((Array.replicate 15 undef).setIfInBounds 3 (Value.iface 364 (.agg #[.int .i64 ((e:Int)+1)]))).setIfInBounds 0 (Value.iface 364 (.agg #[.int .i64 ((e:Int)+1)]))).setIfInBounds 4 (Value.iface 364 (.agg #[.int .i64 ((e:Int)+1)]))).setIfInBounds 5 (Value.bool true),defers:=[] }:=by
  refine ⟨by simp,fun t=> ?_⟩
  match t with
  | 0=>exact hx
  | 1=>exact hy
  | t+2=>exact .undef _
 have hil:(is l).length=64:=by rw [zt,hl]
 have hz:(is z64).length=64:=by rw [zt];simp [z64]
 have hzc:(is z64).all PV.cell=true:=zU z64
 have hdl:List.drop 64 (is l)=[]:=List.drop_of_length_le (by omega)
 have hbz:∀ Q:List PV→Prop,Q (is z64)→Q (List.replicate 64 (.int .i64 0)):=fun Q h=>by simpa [is,z64] using h
 have h5':(H.set i4 ⟨151,0,is z64⟩)[i5]? =some ⟨44,0,[.int .i64 z]⟩:=by rw [List.getElem?_set_ne hne];exact h5
 generalize hPQ:bodyPostS Tryz.prog _ c₀ cs _=PQ
 refine wp_seq (wp_region_list ?_)
 refine zkk (v:=.agg (is z64)) (H':=H) hw hfr rfl rfl rfl (by kernel_rfl) fun C1 u1 w1 p1 p2 p3 p4=> ?_
 refine zkk (v:=.tup []) (H':=H.set i4 ⟨151,0,is z64⟩) p2 p4 rfl rfl rfl (by simp (disch:=omega) only [go_sem,↓reduceIte,reduceCtorEq,h4,hz,hil,hdl]) fun C2 u2 w2 r1 r2 r3 r4=> ?_
 refine zkk (v:=.tup []) (H':=(H.set i4 ⟨151,0,is z64⟩).set i5 ⟨44,0,[.int .i64 3]⟩) r2 r4 rfl rfl rfl (by simp (disch:=omega) only [go_sem,↓reduceIte,reduceCtorEq,h5']) fun C3 u3 w3 s1 s2 s3 s4=> ?_
 refine wp_seq (wp_region_list ?_)
 refine zhT (u:=.iface 364 (.agg #[.int .i64 ((e:Int)+1)])) rfl (by kernel_rfl) ?_
 have t1:=s4.put (some 10) (fun t ht=>by injection ht with ht;omega) (VRel.undef (C:=C3) (Value.iface 364 (.agg #[.int .i64 ((e:Int)+1)])))
 refine zhT (u:=.tuple #[.agg #[.int .i64 ((e:Int)+1)],.bool true]) rfl (by kernel_rfl) ?_
 have hvt:VRel C3 (.tup [.agg [.int .i64 ((e:Int)+1)],.bool true]) (.tuple #[.agg #[.int .i64 ((e:Int)+1)],.bool true]):=by
  refine .tup (us:=[.agg #[.int .i64 ((e:Int)+1)],.bool true]) rfl fun j x u hx hu=> ?_
  match j with
  | 0=>
   injection hx with hx;injection hu with hu
   subst hx hu
   refine .agg (us:=[.int .i64 ((e:Int)+1)]) rfl (by simp [PV.cell]) fun j x u hx hu=> ?_
   match j with
   | 0=>injection hx with hx;injection hu with hu;subst hx hu;exact .int _ _
   | j+1=>cases hx
  | 1=>injection hx with hx;injection hu with hu;subst hx hu;exact .bool _
  | j+2=>cases hx
 have t2:=t1.put (some 11) (fun t ht=>by injection ht with ht;omega) hvt
 rw [←zX,←zX] at t2
 have hl2:((H.set i4 ⟨151,0,is z64⟩).set i5 ⟨44,0,[.int .i64 3]⟩).length=H.length:=by simp
 have g5:((H.set i4 ⟨151,0,is z64⟩).set i5 ⟨44,0,[.int .i64 3]⟩)[i5]? =some ⟨44,0,[.int .i64 3]⟩:=by simp [hp5]
 have hss:((H.set i4 ⟨151,0,is z64⟩).set i5 ⟨44,0,[.int .i64 3]⟩).set i5 ⟨44,0,[.int .i64 ((e:Int)+1)]⟩=(H.set i4 ⟨151,0,is z64⟩).set i5 ⟨44,0,[.int .i64 ((e:Int)+1)]⟩:=List.set_set ..
 have hscF:HSc H→HSc ((H.set i4 ⟨151,0,is z64⟩).set i5 ⟨44,0,[.int .i64 ((e:Int)+1)]⟩):=fun h=>HSc.set (HSc.set h (zar _ _)) fun x hx=>by
  simp only [List.mem_cons,List.not_mem_nil,or_false] at hx
  subst hx;exact .int _ _
 have hlF:H.length=((H.set i4 ⟨151,0,is z64⟩).set i5 ⟨44,0,[.int .i64 ((e:Int)+1)]⟩).length:=by simp
 generalize (H.set i4 ⟨151,0,is z64⟩).set i5 ⟨44,0,[.int .i64 3]⟩=H2 at *
 generalize (H.set i4 ⟨151,0,is z64⟩).set i5 ⟨44,0,[.int .i64 ((e:Int)+1)]⟩=H3 at *
 refine zbm (N:=17) _ _ _ rfl (K:=fun F' H'=>kp [1,3,4] F'=[(1,.ptr i5 0 0),(3,.ptr H2.length 0 0),(4,.bool true)]∧H'=H2++[⟨364,0,[.int .i64 ((e:Int)+1)]⟩]) (zag _ _ _ ?_) C3 _ w3 rfl s2 t2 _ ?_
 ·simp (disch:=omega) only [go_sem,↓reduceIte,reduceCtorEq]
 intro C4 F4 H4 a4 w4 k1 k2 k3 k4 k5 ⟨k6,k7⟩
 subst k7
 have k5':=k5.keep [1,3,4]
 rw [k6] at k5'
 have g5x:=zY (K:=[(⟨364,0,[.int .i64 ((e:Int)+1)]⟩:Blk)]) g5
 have hsx:∀ B:Blk,(H2++[(⟨364,0,[.int .i64 ((e:Int)+1)]⟩:Blk)]).set i5 B=H2.set i5 B++[⟨364,0,[.int .i64 ((e:Int)+1)]⟩]:=fun B=>by
  exact List.set_append_left _ _ (by omega)
 have gF:=hp0 H2 [] ⟨364,0,[.int .i64 ((e:Int)+1)]⟩
 have pw:∀ {c:Code} {Q:Exit→Act→World→Prop},PW Tryz.prog ⟨17,H2++[⟨364,0,[.int .i64 ((e:Int)+1)]⟩]⟩ c [(1,.ptr i5 0 0),(3,.ptr H2.length 0 0),(4,.bool true)] (H2++[⟨364,0,[.int .i64 ((e:Int)+1)]⟩]) (fun x _ H'=>x= .normal∧H'=H3++[⟨364,0,[.int .i64 ((e:Int)+1)]⟩])→
   (∀ C' a' w',CLe C4 C'→a'.defers=[]→WRel C' (H3++[⟨364,0,[.int .i64 ((e:Int)+1)]⟩]) w'→Below C4.B w4 w'→a'.tmps.size=17→Q .normal a' w')→c.wp Tryz.prog Q a4 w4:=fun h hQ=>by
  refine wp_mono (h k3.hsc C4 a4 w4 k2 k3 k5') ?_
  rintro x a' w' ⟨C',F',H',y1,y2,y3,y4,y5,rfl,rfl⟩
  exact hQ C' a' w' (y1.full k3.lenv) y2 y3 y4 y5.1
 refine pw ?_ ?_
 ·refine PW.e ?_
  refine PW.t ?_
  refine PW.f (fun K k=>by simp (disch:=omega) only [go_sem,↓reduceIte,reduceCtorEq,gF,g5x,hsx,hss];exact k) ?_
  exact ⟨rfl,rfl⟩
 intro C5 a5 w5 y1 y2 y3 y4 y5
 show PQ _ _ _ _
 rw [←hPQ]
 have c1:=p1.trans r1
 have c2:=c1.trans s1
 have c3:=c2.trans k1
 have c4:=c3.trans y1
 have b1:=p3.trans (by rw [←p1.B];exact r3)
 have b2:=b1.trans (by rw [←c1.B];exact s3)
 have b3:=b2.trans (by rw [←c2.B];exact k4)
 have b4:=b3.trans (by rw [←c3.B];exact y4)
 obtain ⟨C',d1,d2⟩:=WRel.drop hw hlF (hscF hw.hsc) c4 y3
 exact ⟨y2,_,rfl,.tuple #[],by simp [results,Tryz.results303],rfl,rfl,C',d1,d2,b4⟩
def rvB:Rr (List Int)→PV
 | .ok l _=>.tup [.agg (is l),.int .i64 0]
 | .er e _=>.tup [.agg (is z64),.int .i64 ((e:Int)+1)]
theorem zoG (k:Nat) (x:Rr (List Int)):Scoped k (rvB x):=by
 cases x<;>refine .tup fun j x hx=> ?_
 all_goals
  have:=List.mem_of_getElem? hx
  simp only [List.mem_cons,List.not_mem_nil,or_false] at this
  rcases this with rfl|rfl
  ·exact zB (zar _ _)
  ·exact .int _ _
def tkH (H:za) (i:Nat) (p:List UInt8) (n a:Nat) (l:List Int) (e:Int):za:=H.set i (rA p n a)++[⟨151,0,is l⟩,⟨44,0,[.int .i64 e]⟩]
set_option maxHeartbeats 1000000 in
set_option maxRecDepth 100000 in
theorem zkb (i:Nat) (p:List UInt8) (n a fr:Nat) (H:za) (hA:H[i]? =some (rA p n a)) (ha:a≤n) (hn:n≤8 * p.length) (hp:p.length≤100000000) (hfr:fr≤1):
  CallOk Tryz.prog 264 [.ptr i 0 0,.int .i64 (fr:Int)] H (rvB (zeO p n fr a)) (H.set i (rA p n (zeO p n fr a).at)):=by
 have hi:=(List.getElem?_eq_some_iff.1 hA).1
 have hself:=za9 hA
 refine ⟨by kernel_rfl,fun C us w hw hargs=>calls_of_wp_defers Tryz.func264 rfl ?_⟩
 have hfr0:=znn (N:=18) hargs (Nat.le_of_ble_eq_true rfl)
 change FRel C 18 (slot [(0,.ptr i 0 0),(1,.int .i64 (fr:Int))]) _ at hfr0
 have vo:=fun K=>zty fr K hfr
 have hAx:=fun K=>zY (K:=K) hA
 refine wp_seq ?_
 refine PW.hand [0,1,4,5] (F1:=[(0,.ptr i 0 0),(1,.int .i64 (fr:Int)),(4,.ptr H.length 0 0),(5,.ptr (H.length+1) 0 0)]) (H1:=tkH H i p n a z64 0) ?_ rfl hw hfr0 ?_
 ·refine PW.e ?_
  refine ⟨rfl,rfl,?_⟩
  unfold tkH;rw [hself];rfl
 intro C1 a1 w1 p1 p2 p3 p4 p5
 refine wp_seq ?_
 have g0:(tkH H i p n a z64 0)[i]? =some (rA p n a):=by unfold tkH;rw [hself];exact hAx _
 refine PW.hand [0,1,4,5] (F1:=[(0,.ptr i 0 0),(1,.int .i64 (fr:Int)),(4,.ptr H.length 0 0),(5,.ptr (H.length+1) 0 0)]) (H1:=tkH H i p n a z64 0) ?_ p2 p3 p5 ?_
 ·(repeat refine PW.seq ?_);refine PW.rg rfl fun K hK=> ?_;simp (disch:=omega) only [go_sem,↓reduceIte,reduceCtorEq,g0,rA]
  refine VCx.call (vo _) rfl ?_;simp (disch:=omega) only [go_sem,↓reduceIte,reduceCtorEq];refine hK _ _ ?_;clear hK K
  refine PW.u ?_
  exact PW.skip ⟨rfl,rfl,rfl⟩
 intro C2 a2 w2 r1 r2 r3 r4 r5
 refine wp_seq (wp_region_list ?_)
 have hx:=r5.2 4
 have hy:=r5.2 5
 generalize hxv:a2.tmps.getD 4 Go.undef=x at hx
 generalize hyv:a2.tmps.getD 5 Go.undef=y at hy
 refine zhT (u:=.func (.func 303) #[] #[x,y]) rfl ?_ ?_
 ·subst hxv hyv
  simp [execOp,Instr.makeFunc,Act.eval]
 refine zmT (d:=⟨.fn (.func 303) #[x,y],#[]⟩) rfl ?_ ?_
 ·have e14:(a2.put (some 14) (Value.func (.func 303) #[] #[x,y])).eval (.tmp 14)=Value.func (.func 303) #[] #[x,y]:=by
   have:=r5.1
   simp [Act.put,Act.eval,this]
  simp [execOp,resolve,e14,Deferred.ofValue]
 have t1:=r5.put (some 14) (fun t ht=>by injection ht with ht;omega) (VRel.undef (C:=C2) (Value.func (.func 303) #[] #[x,y]))
 rw [←zX] at t1
 have t2:FRel C2 18 (slot [(14,.undef),(0,.ptr i 0 0),(1,.int .i64 (fr:Int)),(4,.ptr H.length 0 0),(5,.ptr (H.length+1) 0 0)]) ({ a2.put (some 14) (Value.func (.func 303) #[] #[x,y]) with defers:=⟨.fn (.func 303) #[x,y],#[]⟩::a2.defers }):=t1
 have hhsc:=fun a'=>zds H i p n a' hw.hsc
 have cB1:CLe C C2:=p1.trans r1
 have bB1:Below C.B w w2:=p4.trans (by rw [←p1.B];exact r4)
 have htk:∀ a' l z,(tkH H i p n a l z).set i (rA p n a')=tkH H i p n a' l z:=fun a' l z=>by
  unfold tkH;rw [List.set_append_left _ _ (by simpa using hi),List.set_set]
 have h4:∀ a' l z,(tkH H i p n a' l z)[H.length]? =some ⟨151,0,is l⟩:=fun a' l z=>by
  have:=hp0 (H.set i (rA p n a')) [⟨44,0,[.int .i64 z]⟩] ⟨151,0,is l⟩
  rwa [List.length_set] at this
 have h5:∀ a' l z,(tkH H i p n a' l z)[H.length+1]? =some ⟨44,0,[.int .i64 z]⟩:=fun a' l z=>by
  have:=hp1 (H.set i (rA p n a')) [] ⟨151,0,is l⟩ ⟨44,0,[.int .i64 z]⟩
  rwa [List.length_set] at this
 have s4:∀ a' l z l',(tkH H i p n a' l z).set H.length ⟨151,0,is l'⟩=tkH H i p n a' l' z:=fun a' l z l'=>by
  have:=hs0 (H.set i (rA p n a')) [⟨44,0,[.int .i64 z]⟩] ⟨151,0,is l⟩ ⟨151,0,is l'⟩
  rwa [List.length_set] at this
 have s5:∀ a' l z z',(tkH H i p n a' l z).set (H.length+1) ⟨44,0,[.int .i64 z']⟩=tkH H i p n a' l z':=fun a' l z z'=>by
  have:=hs1 (H.set i (rA p n a')) [] ⟨151,0,is l⟩ ⟨44,0,[.int .i64 z]⟩ ⟨44,0,[.int .i64 z']⟩
  rwa [List.length_set] at this
 have hz:(is z64).length=64:=by rw [zt];simp [z64]
 have hsl:∀ a',H.length=(H.set i (rA p n a')).length:=fun a'=>by simp
 refine wp_seq ?_
 cases hr:zeO p n fr a with
 | ok l a'=>
  have rd:=zrq i p n a fr a' l (tkH H i p n a z64 0) g0 ha hn hp hfr hr
  rw [htk] at rd
  have hll:l.length=64:=by
   have:=(zhr _ _ _ _ hr ha).2.2
   simpa [z64] using this
  have hil:(is l).length=64:=by rw [zt,hll]
  have htl:List.take 64 (is l)=is l:=List.take_of_length_le (by omega)
  have hcl:=zU l
  have hdz:List.drop 64 (is z64)=[]:=List.drop_of_length_le (by omega)
  refine zdQ 5 rfl (K:=fun F' H'=>kp [4,5] F'=[(4,.ptr H.length 0 0),(5,.ptr (H.length+1) 0 0)]∧H'=tkH H i p n a' l 0) ?_ (D:=[⟨.fn (.func 303) #[x,y],#[]⟩]) (by simp [Act.put,r2]) r3 t2 ?_
  ·simp (disch:=omega) only [go_sem,↓reduceIte,reduceCtorEq]
   refine VCx.call (rd) rfl ?_;simp (disch:=omega) only [go_sem,↓reduceIte,reduceCtorEq,h4,h5,s4,s5,hil,hz,hcl,hdz]
  intro C3 F3 H3 a3 w3 q1 q2 q3 q4 q5 ⟨q6,q7⟩
  subst q7
  have q5':=q5.keep [4,5]
  rw [q6] at q5'
  refine wp_ret ?_
  show Leaves _ _ _ _ _ _ _
  rw [q2]
  refine leaves_cons (by simp) (by kernel_rfl) ((zlr x y w3).mono ?_)
  rintro _ _ _ ⟨rfl,rfl,rfl⟩
  obtain ⟨u,u1,u2⟩:=zbb (P:=Tryz.prog) (fn:=Tryz.f264) (v:=.tup [.agg (is l),.int .i64 0]) q3 q5' (by simp (disch:=omega) only [go_sem,↓reduceIte,reduceCtorEq,zd,zg,List.mapM_cons,List.mapM_nil,Option.pure_def,Option.bind_eq_bind,Option.bind_some,Array.toList,Tryz.results264,h4,h5,hil,htl])
  obtain ⟨C',d1,d2,d3⟩:=WRel.dropV hw (hsl a') (hhsc a') (cB1.trans q1) q3 u1 (zoG _ (.ok l a'))
  exact ⟨u,u2,C',u,d1,d2,bB1.trans (by rw [←cB1.B];exact q4),rfl,d3⟩
 | er e a'=>
  have rd:=zoO i p n a fr e a' (tkH H i p n a z64 0) g0 ha hn hp hfr hr
  rw [htk] at rd
  refine zdQ 2 rfl (K:=fun F' H'=>kp [4,5,15,16] F'=[(4,.ptr H.length 0 0),(5,.ptr (H.length+1) 0 0),(15,.ptr i 0 0),(16,.int .i64 (fr:Int))]∧H'=tkH H i p n a z64 0) ?_ (D:=[⟨.fn (.func 303) #[x,y],#[]⟩]) (by simp [Act.put,r2]) r3 t2 ?_
  ·simp (disch:=omega) only [go_sem,↓reduceIte,reduceCtorEq]
  intro C3 F3 H3 a3 w3 q1 q2 q3 q4 q5 ⟨q6,q7⟩
  subst q7
  have q5':=q5.keep [4,5,15,16]
  rw [q6] at q5'
  show wpList _ _ _ (_::_) _ _
  unfold wpList
  rw [if_pos (by kernel_rfl)]
  left
  refine zdW q3 q5' (by simp (disch:=omega) only [go_sem,↓reduceIte,reduceCtorEq,zr]) rd _ _ fun C4 w4 y1 y2 y3 y4=> ?_
  show Leaves _ _ _ _ _ _ _
  rw [q2]
  have hx4:=hx.mono (q1.trans y1)
  have hy4:=hy.mono (q1.trans y1)
  have cp:=znv H.length (H.length+1) e z64 0 (tkH H i p n a' z64 0) C4 x y w4 (h4 _ _ _) (h5 _ _ _) (by simp [z64]) (by omega) y2 hx4 hy4
  rw [s4,s5] at cp
  refine leaves_cons (by simp) (by kernel_rfl) (cp.mono ?_)
  rintro _ _ w5 ⟨rfl,rfl,C5,v1,v2,v3⟩
  have htl:List.take 64 (is z64)=is z64:=List.take_of_length_le (by omega)
  obtain ⟨u,u1,u2⟩:=zbb (P:=Tryz.prog) (fn:=Tryz.f264) (v:=.tup [.agg (is z64),.int .i64 ((e:Int)+1)]) v2 (y4.mono v1) (by simp (disch:=omega) only [go_sem,↓reduceIte,reduceCtorEq,zd,zg,List.mapM_cons,List.mapM_nil,Option.pure_def,Option.bind_eq_bind,Option.bind_some,Array.toList,Tryz.results264,h4,h5,hz,htl])
  have c3:=(cB1.trans q1).trans y1
  obtain ⟨C',d1,d2,d3⟩:=WRel.dropV hw (hsl a') (hhsc a') (c3.trans v1) v2 u1 (zoG _ (.er e a'))
  have b2:=bB1.trans (by rw [←cB1.B];exact q4)
  have b3:=b2.trans (by rw [←(cB1.trans q1).B];exact y3)
  exact ⟨u,u2,C',u,d1,d2,b3.trans (by rw [←c3.B];exact v3),rfl,d3⟩
end Go.Proofs.YtjgmdlcjbgiekaaGreatDoor.Sc
