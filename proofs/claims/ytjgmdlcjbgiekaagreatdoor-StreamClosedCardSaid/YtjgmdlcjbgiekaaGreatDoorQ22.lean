/-
  Parts of the proof, put together in one text. No condition.
-/
import Derived.Test.YtjgmdlcjbgiekaaGreatDoorQ21
import Derived.WalkSmall
import Derived.Laws.Build
namespace Go.Proofs.YtjgmdlcjbgiekaaGreatDoor.Sc
set_option linter.all false
open Pm Ty Go.RowKit
theorem zv6 (p:List UInt8) (n a k:Nat):∀ x∈(rA p n a).cells,Scoped k x:=fun x hx=>by
 simp only [rA,List.mem_cons,List.not_mem_nil,or_false] at hx
 rcases hx with rfl|rfl|rfl
 ·exact zo (zq _ _)
 ·exact .int _ _
 ·exact .int _ _
theorem zds (H:za) (i:Nat) (p:List UInt8) (n a:Nat) (h:HSc H):HSc (H.set i (rA p n a)):=HSc.set h (zv6 _ _ _ _)
def rvU:Rr Nat→PV
 | .ok v _=>.tup [.int .i64 (v:Int),.int .i64 0]
 | .er e _=>.tup [.int .i64 0,.int .i64 ((e:Int)+1)]
def rvS:Rr Int→PV
 | .ok v _=>.tup [.int .i64 v,.int .i64 0]
 | .er e _=>.tup [.int .i64 0,.int .i64 ((e:Int)+1)]
theorem zfI (k:Nat) (x y:Int):Scoped k (.tup [.int .i64 x,.int .i64 y]):=.tup fun j x hx=>by
 have:=List.mem_of_getElem? hx
 simp only [List.mem_cons,List.not_mem_nil,or_false] at this
 rcases this with rfl|rfl<;>exact .int _ _
theorem zoU (k':IntKind) (s:Nat) (h:s≤40):zbc .shl .i64 1 k' (s:Int)=some (.int .i64 ((2^s:Nat):Int)):=by
 have h2:2^s≤2^40:=Nat.pow_le_pow_right (by omega) h
 simp only [zbc,IntKind.bits]
 rw [if_neg (by omega),show min (s:Int).toNat 64=s by omega,show (1:Int) * (2:Int)^s=((2^s:Nat):Int) by simp]
 generalize 2^s=N at *
 rw [w64 _ (by omega)]
theorem zhW (i:Nat) (p:List UInt8) (n a:Nat) (H:za) (hA:H[i]? =some (rA p n a)) (ha:a≤n) (hn:n≤8 * p.length) (hp:p.length≤100000000):
  CallOk Tryz.prog 258 [.ptr i 0 0] H (rvU (tkU p n a)) (H.set i (rA p n (tkU p n a).at)):=by
 have hi:=(List.getElem?_eq_some_iff.1 hA).1
 have hself:=za9 hA
 have hA':=fun K=>zY (K:=K) hA
 refine CallOk.body (F0:=[(0,.ptr i 0 0)]) Tryz.func258 rfl Tryz.ntmps258 Tryz.results258 rfl (by kernel_rfl) rfl ?_
 refine PW.e ?_
 refine PW.f (fun K k=>by simp (disch:=omega) only [go_sem,↓reduceIte,reduceCtorEq,hA];exact k) ?_
 refine PW.us ?_
 refine PW.f (fun K k=>by simp (disch:=omega) only [go_sem,↓reduceIte,reduceCtorEq,hA,rA];exact k) ?_
 refine PW.e ?_
 (repeat refine PW.seq ?_);refine PW.block (PW.loop ?_)
 suffices hl:∀ j,j≤15→zrs p n 16 a=j+zrs p n (16 - j) (a+j)→a+j≤n→PL Tryz.prog _ _ [(0,.ptr i 0 0),(4,.ptr H.length 0 0),(5,.int .i64 (j:Int))] (H++[rA p n (a+j)]) _ by
  exact PL.at [0,4,5] (hl 0 (by omega) (by simp) (by omega)) rfl rfl
 intro j hj hz hjn
 induction hd:16 - j using Nat.strongRecOn generalizing j with
 | _ d ih=>
  subst hd
  refine PL.round ?_;(repeat refine PW.seq ?_);refine PW.block ?_
  by_cases h0:n=a+j
  ·have t:=zbD H.length p n (a+j) 1 (H++[rA p n (a+j)]) (hp0 _ _ _) hjn (by omega) (by omega) (by omega)
   have hz0:zrs p n (16 - j) (a+j)=0:=zqS (by omega)
   have hr:tkU p n a= .er 3 a:=by
    unfold tkU;rw [if_neg (by omega),if_pos (by omega)]
   refine PW.f (fun K k=>by simp (disch:=omega) only [go_sem,↓reduceIte,reduceCtorEq];refine VCx.call (t) rfl ?_;simp (disch:=omega) only [go_sem,↓reduceIte,reduceCtorEq];exact k) ?_
   refine PW.e ?_
   refine PW.t ?_
   refine PW.e ?_
   refine PW.ret ⟨.tup [.int .i64 0,.int .i64 4],by simp (disch:=omega) only [go_sem,↓reduceIte,reduceCtorEq,zd,zg,List.mapM_cons,List.mapM_nil,Option.pure_def,Option.bind_eq_bind,Option.bind_some,Array.toList],?_⟩
   rw [hr]
   exact Fin.cut (show _=H.set i (rA p n a)++[_] by rw [hself]) (by simp) (zds _ _ _ _ _) (.id (zfI _ _ _))
  have t:=zdh H.length p n (a+j) 1 (H++[rA p n (a+j)]) (hp0 _ _ _) (by omega) hn hp (by omega)
  have hv1:vl p (a+j) 1=zbA p (a+j):=by simp [vl]
  rw [hv1,hs0,show a+j+1=a+(j+1) by omega] at t
  have hub:=zfH p (a+j)
  refine PW.f (fun K k=>by simp (disch:=omega) only [go_sem,↓reduceIte,reduceCtorEq];refine VCx.call (t) rfl ?_;simp (disch:=omega) only [go_sem,↓reduceIte,reduceCtorEq];exact k) ?_
  refine PW.e ?_
  refine PW.us ?_
  by_cases h1:zbA p (a+j)=1
  ·have hz1:zrs p n (16 - j) (a+j)=0:=zqR h1
   rw [hz1,Nat.add_zero] at hz
   rw [h1]
   refine PW.e ?_
   refine PW.t ?_
   refine PW.exit ?_
   by_cases h2:n - (a+(j+1))<j
   ·have t2:=zbD H.length p n (a+(j+1)) j (H++[rA p n (a+(j+1))]) (hp0 _ _ _) (by omega) (by omega) (by omega) h2
    have hr:tkU p n a= .er 3 a:=by
     unfold tkU;rw [if_neg (by omega),if_pos (by omega)]
    refine PW.f (fun K k=>by simp (disch:=omega) only [go_sem,↓reduceIte,reduceCtorEq];refine VCx.call (t2) rfl ?_;simp (disch:=omega) only [go_sem,↓reduceIte,reduceCtorEq];exact k) ?_
    refine PW.e ?_
    refine PW.t ?_
    refine PW.e ?_
    refine PW.ret ⟨.tup [.int .i64 0,.int .i64 4],by simp (disch:=omega) only [go_sem,↓reduceIte,reduceCtorEq,zd,zg,List.mapM_cons,List.mapM_nil,Option.pure_def,Option.bind_eq_bind,Option.bind_some,Array.toList],?_⟩
    rw [hr]
    exact Fin.cut (show _=H.set i (rA p n a)++[_] by rw [hself]) (by simp) (zds _ _ _ _ _) (.id (zfI _ _ _))
   ·have t2:=zdh H.length p n (a+(j+1)) j (H++[rA p n (a+(j+1))]) (hp0 _ _ _) (by omega) hn hp (by omega)
    rw [hs0] at t2
    have hr:tkU p n a= .ok (2^j+vl p (a+(j+1)) j - 1) (a+(2 * j+1)):=by
     unfold tkU;rw [if_neg (by omega),if_neg (by omega),hz,show a+j+1=a+(j+1) by omega]
    have hvl:=zjb p (a+(j+1)) j
    have hpw:2^j≤2^15:=Nat.pow_le_pow_right (by omega) hj
    have hsum:((2^j:Nat):Int)+(vl p (a+(j+1)) j:Int) - 1=((2^j+vl p (a+(j+1)) j - 1:Nat):Int):=by
     have:0<2^j:=Nat.pow_pos (by omega)
     omega
    rw [hr]
    simp only [Rr.at,rvU]
    rw [show a+(j+1)+j=a+(2 * j+1) by omega] at t2
    generalize vl p (a+(j+1)) j=w at *
    refine PW.f (fun K k=>by simp (disch:=omega) only [go_sem,↓reduceIte,reduceCtorEq];refine VCx.call (t2) rfl ?_;simp (disch:=omega) only [go_sem,↓reduceIte,reduceCtorEq];exact k) ?_
    refine PW.e ?_
    refine PW.us ?_
    refine PW.f (fun K k=>by simp (disch:=omega) only [go_sem,↓reduceIte,reduceCtorEq,hA',rA];exact k) ?_
    have hpw2:2^j=2^j:=rfl
    have hsh:=fun k'=>zoU k' j (by omega)
    generalize 2^j=m at *
    refine PW.f (fun K k=>by simp (disch:=omega) only [go_sem,↓reduceIte,reduceCtorEq,hsh,hsum];exact k) ?_
    refine PW.ret ⟨.tup [.int .i64 ((m+w - 1:Nat):Int),.int .i64 0],by simp (disch:=omega) only [go_sem,↓reduceIte,reduceCtorEq,zd,zg,List.mapM_cons,List.mapM_nil,Option.pure_def,Option.bind_eq_bind,Option.bind_some,Array.toList],?_⟩
    refine Fin.cut (K:=[rA p n (a+(2 * j+1))]) ?_ (by simp) (zds _ _ _ _ _) (.id (zfI _ _ _))
    rw [List.set_append_left _ _ hi];rfl
  ·have h00:zbA p (a+j)=0:=by omega
   rw [h00]
   refine PW.e ?_
   refine PW.us ?_
   have hzs:zrs p n (16 - j) (a+j)=zrs p n (16 - (j+1)) (a+(j+1))+1:=by
    rw [show 16 - j=(16 - (j+1))+1 by omega,znB (by omega) h00];rfl
   by_cases h15:j=15
   ·have hr:tkU p n a= .er 2 a:=by
     subst h15
     unfold tkU;rw [if_pos (by rw [hz,hzs];rfl)]
    have d:((j:Int)==15)=true:=by simp [h15]
    refine PW.f (fun K k=>by simp (disch:=omega) only [go_sem,↓reduceIte,reduceCtorEq,d];exact k) ?_
    refine PW.t ?_
    refine PW.e ?_
    refine PW.ret ⟨.tup [.int .i64 0,.int .i64 3],by simp (disch:=omega) only [go_sem,↓reduceIte,reduceCtorEq,zd,zg,List.mapM_cons,List.mapM_nil,Option.pure_def,Option.bind_eq_bind,Option.bind_some,Array.toList],?_⟩
    rw [hr]
    exact Fin.cut (show _=H.set i (rA p n a)++[_] by rw [hself]) (by simp) (zds _ _ _ _ _) (.id (zfI _ _ _))
   ·have d:((j:Int)==15)=false:=by
     rw [beq_eq_false_iff_ne];omega
    refine PW.f (fun K k=>by simp (disch:=omega) only [go_sem,↓reduceIte,reduceCtorEq,d];exact k) ?_
    refine PW.us ?_
    refine PW.e ?_
    exact PL.at [0,4,5] (ih (16 - (j+1)) (by omega) (j+1) (by omega) (by omega) (by omega) rfl) rfl rfl
theorem zhX (i:Nat) (p:List UInt8) (n a:Nat) (H:za) (hA:H[i]? =some (rA p n a)) (ha:a≤n) (hn:n≤8 * p.length) (hp:p.length≤100000000):
  CallOk Tryz.prog 263 [.ptr i 0 0] H (rvS (tkS p n a)) (H.set i (rA p n (tkS p n a).at)):=by
 have t:=zhW i p n a H hA ha hn hp
 unfold tkS
 cases hu:tkU p n a with
 | er e a1=>
  rw [hu] at t
  have he:=(zjd hu).2
  have d:((e:Int)+1 !=0)=true:=by simp;omega
  simp only [Rr.bind,rvU,rvS,Rr.at] at t ⊢
  generalize H.set i (rA p n a1)=Hz at *
  refine CallOk.body (F0:=[(0,.ptr i 0 0)]) Tryz.func263 rfl Tryz.ntmps263 Tryz.results263 rfl (by kernel_rfl) rfl ?_
  refine PW.e ?_
  refine PW.f (fun K k=>by simp (disch:=omega) only [go_sem,↓reduceIte,reduceCtorEq];refine VCx.call (t) rfl ?_;simp (disch:=omega) only [go_sem,↓reduceIte,reduceCtorEq];exact k) ?_
  refine PW.f (fun K k=>by simp (disch:=omega) only [go_sem,↓reduceIte,reduceCtorEq,d];exact k) ?_
  refine PW.t ?_
  refine PW.e ?_
  exact PW.ret ⟨_,rfl,Fin.now⟩
 | ok w a1=>
  rw [hu] at t
  have hb:=(zeb hu ha).1
  simp only [Rr.bind,rvU,rvS,Rr.at] at t ⊢
  generalize H.set i (rA p n a1)=Hz at *
  have hm:(w:Int).tmod 2=((w%2:Nat):Int):=zlC w 2
  refine CallOk.body (F0:=[(0,.ptr i 0 0)]) Tryz.func263 rfl Tryz.ntmps263 Tryz.results263 rfl (by kernel_rfl) rfl ?_
  refine PW.e ?_
  refine PW.f (fun K k=>by simp (disch:=omega) only [go_sem,↓reduceIte,reduceCtorEq];refine VCx.call (t) rfl ?_;simp (disch:=omega) only [go_sem,↓reduceIte,reduceCtorEq];exact k) ?_
  refine PW.e ?_
  refine PW.us ?_
  by_cases h2:w%2=1
  ·have hus:usg w=(((w+1) / 2:Nat):Int):=by unfold usg;rw [if_pos h2]
   rw [hus]
   have e1:(w:Int)+1=((w+1:Nat):Int):=by omega
   have e2:(((w+1:Nat):Int)).tdiv 2=(((w+1) / 2:Nat):Int):=zs1 _ 2
   refine PW.f (fun K k=>by simp (disch:=omega) only [go_sem,↓reduceIte,reduceCtorEq,hm,h2];exact k) ?_
   refine PW.t ?_
   refine PW.f (fun K k=>by simp (disch:=omega) only [go_sem,↓reduceIte,reduceCtorEq,e1,e2];exact k) ?_
   exact PW.ret ⟨_,rfl,Fin.now⟩
  ·have h3:w%2=0:=by omega
   have hus:usg w= -((w / 2:Nat):Int):=by unfold usg;rw [if_neg h2]
   rw [hus]
   have e2:(-(w:Int)).tdiv 2= -((w / 2:Nat):Int):=by rw [Int.neg_tdiv];rfl
   refine PW.f (fun K k=>by simp (disch:=omega) only [go_sem,↓reduceIte,reduceCtorEq,hm,h3];exact k) ?_
   refine PW.us ?_
   refine PW.f (fun K k=>by simp (disch:=omega) only [go_sem,↓reduceIte,reduceCtorEq,Int.zero_sub,e2];exact k) ?_
   exact PW.ret ⟨_,rfl,Fin.now⟩
theorem zho {x n:Int} (h:win x n=true): -n≤x∧x≤n:=by simpa [win] using h
theorem zqJ (x:Int) (H:za):CallOk Tryz.prog 316 [.int .i64 x] H (.bool (win x 4095)) H:=by
 refine CallOk.body (F0:=[(0,.int .i64 x)]) Tryz.func316 rfl Tryz.ntmps316 Tryz.results316 rfl (by kernel_rfl) rfl ?_
 (repeat' (first|refine PW.seq ?_|refine PW.skip ?_|refine PW.block ?_|((first|refine PW.rg rfl fun K hK=> ?_|refine PW.draw mix (by kernel_rfl) fun K hK=> ?_);simp (disch:=omega) only [go_sem,↓reduceIte,reduceCtorEq])|((first|refine zj ?_ ?_|refine zn ?_ ?_|refine And.intro ?_ ?_)<;>intro h<;>(try simp only [nqb] at h)<;>simp (disch:=omega) only [go_sem,↓reduceIte,reduceCtorEq,h])|(refine hK _ _ ?_;clear hK K)|(refine PW.cond (t:=_) rfl (fun h=> ?_) (fun h=> ?_)<;>(try (cases h;done))<;>(try simp only [nqb] at h))))
 all_goals ((refine PW.ret ⟨_,rfl,?_⟩;first|refine .inl ⟨?_,rfl⟩|refine Fin.base (.id' ?_ (.bool _))|refine Fin.base (.id' ?_ (.int _ _)));(simp_all [win,slot,Nat.beq]<;>first|rfl|omega|(rw [Bool.eq_iff_iff];simp;done)|(rw [Bool.eq_iff_iff];simp;omega)))
theorem zty (fr:Nat) (H:za) (h:fr≤1):CallOk Tryz.prog 302 [.int .i64 (fr:Int)] H (.bool true) H:=by
 refine CallOk.body (F0:=[(0,.int .i64 (fr:Int))]) Tryz.func302 rfl Tryz.ntmps302 Tryz.results302 rfl (by kernel_rfl) rfl ?_
 have h2:fr=0∨fr=1:=by omega
 rcases h2 with rfl|rfl<;>(repeat' (first|refine PW.seq ?_|refine PW.skip ?_|refine PW.block ?_|((first|refine PW.rg rfl fun K hK=> ?_|refine PW.draw mix (by kernel_rfl) fun K hK=> ?_);simp (disch:=omega) only [go_sem,↓reduceIte,reduceCtorEq])|((first|refine zj ?_ ?_|refine zn ?_ ?_|refine And.intro ?_ ?_)<;>intro h<;>(try simp only [nqb] at h)<;>simp (disch:=omega) only [go_sem,↓reduceIte,reduceCtorEq,h])|(refine hK _ _ ?_;clear hK K)|(refine PW.cond (t:=_) rfl (fun h=> ?_) (fun h=> ?_)<;>(try (cases h;done))<;>(try simp only [nqb] at h))))
 all_goals ((refine PW.ret ⟨_,rfl,?_⟩;first|refine .inl ⟨?_,rfl⟩|refine Fin.base (.id' ?_ (.bool _))|refine Fin.base (.id' ?_ (.int _ _)));rfl)
end Go.Proofs.YtjgmdlcjbgiekaaGreatDoor.Sc
namespace Go.Proofs.YtjgmdlcjbgiekaaGreatDoor.Pm
set_option linter.all false
open Go.RowKit
variable {P:Program} {C:Ctx} {H K:za} {w:World} {F:Fr} {a:Act} {N:Nat}
def zip (rs:List (Nat×Nat)) (o:Oper):Bool:=match zkE rs o with|some _=>false|none=> !zJ o.op&& !eff o.op
def zfX (ds:List (Option Nat)) (rs:List (Nat×Nat)) (x o:Oper):Bool:=clear ds x o&&clear ds o x&&zip rs x&&zip rs o
def ExT (P:Program) (all:List Oper) (ids:List Nat) (rs:List (Nat×Nat)) (o:Oper) (f:Nat→PV) (H:za) (v:PV) (H':za):Prop:=
 (za7 all f o=some false∧v= .tup []∧H'=H)∨(za7 all f o=some true∧StI P ids rs o f H v H')
theorem ExT.congr {all:List Oper} {ids:List Nat} {rs:List (Nat×Nat)} {o:Oper} {f g:Nat→PV} {v:PV} {H':za} (h:∀ t∈zhA (all.map (·.dst)) o,f t=g t) (he:ExT P all ids rs o f H v H'):ExT P all ids rs o g H v H':=by
 have e1:za7 all f o=za7 all g o:=zcL fun t ht=>h t (List.mem_append.2 (.inr ht))
 have e2:∀ x∈o.op.operands.toList,ev f x=ev g x:=fun x hx=>zeB fun t ht=>h t (List.mem_append.2 (.inl (zeq (ht▸hx))))
 unfold ExT StI at he ⊢
 simp only [←e1,←zbv e2,←zgA e2]
 exact he
theorem ExT.same {all:List Oper} {ids:List Nat} {rs:List (Nat×Nat)} {o:Oper} {f:Nat→PV} {v:PV} {H':za} (hn:zip rs o=true) (he:ExT P all ids rs o f H v H'):H'=H:=by
 rcases he with ⟨_,_,e⟩|⟨_,h⟩
 ·exact e
 unfold zip at hn
 cases hr:zkE rs o with
 | some p=>rw [hr] at hn;cases hn
 | none=>
  rw [hr] at hn
  simp only [Bool.and_eq_true,Bool.not_eq_true'] at hn
  unfold StI at h
  rw [zc3 hn.1] at h
  dsimp only at h
  unfold zd2 at h
  rw [hr] at h
  exact zcz hn.2 h
theorem zvM {all:List Oper} {ids:List Nat} {rs:List (Nat×Nat)}:zmP (ExT P all ids rs) (zfX (all.map (·.dst)) rs):=by
 intro x o f H vx Hx v H1 hc hx ho
 unfold zfX at hc
 simp only [Bool.and_eq_true] at hc
 obtain ⟨⟨⟨c1,c2⟩,c3⟩,c4⟩:=hc
 obtain rfl:=hx.same c3
 obtain rfl:=ho.same c4
 exact ⟨H1,ho.congr fun t ht=>zb0 (za4 c1 t ht),hx.congr fun t ht=>(zb0 (za4 c2 t ht)).symm,zgd (f:=f) (u:=vx) (v:=v) (zfj c1)⟩
theorem zvP {ops:Array Oper} {ids:List Nat} {rs:List (Nat×Nat)}:zqN P N ops (ExT P ops.toList ids rs):=by
 intro o f H v H' C a w hd hw hf he
 rcases he with ⟨h1,h2,h3⟩|⟨h1,h2⟩
 ·have hwant:=zP hf h1
  rw [Array.toArray_toList] at hwant
  exact .inl ⟨hwant,h2,h3⟩
 ·have hwant:=zP hf h1
  rw [Array.toArray_toList] at hwant
  exact .inr ⟨hwant,fun next Q hn=>zeR hd hw hf h2 _ _ hn⟩
theorem zkg {all:List Oper} {ids:List Nat} {rs:List (Nat×Nat)} {K:Fr→za→Prop}:∀ (l:List Oper) (F:Fr) (H:za),VOi P false ids [] rs [] (all.map (·.dst)) l (some (F,H)) K→RunG (ExT P all ids rs) l (slot F) H (fun f H'=>∃ F',f=slot F'∧K F' H')
 | [],F,H,h=>⟨F,rfl,h⟩
 | o::r,F,H,h=>by
  simp only [VOi] at h
  have go:∀ v H',ExT P all ids rs o (slot F) H v H'→VOi P false ids [] rs [] (all.map (·.dst)) r (some (put F o.dst v,H')) K→RunG (ExT P all ids rs) (o::r) (slot F) H (fun f H'=>∃ F',f=slot F'∧K F' H'):=fun v H' he hr=>by
   refine ⟨v,H',he,?_⟩
   rw [←zX]
   exact zkg r _ _ hr
  cases hc:zJ o.op with
  | false=>
   simp only [hc] at h
   unfold zmW at h
   split at h
   ·rw [zcf] at h;exact h.elim
   ·rename_i b hb
    cases b with
    | false=>exact go _ _ (.inl ⟨zu all F o hb,rfl,rfl⟩) h
    | true=>
     simp only [cond_true,Bool.not_false,Bool.true_or] at h
     split at h
     ·rename_i v H' hp
      exact go v H' (.inr ⟨zu all F o hb,by unfold StI;rw [zc3 hc];exact hp⟩) h
     ·rw [zcf] at h;exact h.elim
  | true=>
   simp only [hc] at h
   unfold VCi at h
   split at h
   ·exact h.elim
   ·rename_i b hb
    cases b with
    | false=>exact go _ _ (.inl ⟨zu all F o hb,rfl,rfl⟩) (h.2 rfl)
    | true=>
     have h:=h.1 rfl
     unfold VCj at h
     split at h
     ·rename_i fn args hp
      obtain ⟨v,H',h1,h2⟩:=h
      exact go v H' (.inr ⟨zu all F o hb,by unfold StI;rw [hp];exact h1⟩) h2
     ·exact h.elim
theorem PW.drawt {E:Env} {Q:Exit→Fr→za→Prop} {id:Nat} {ops:Array Oper} (ids:List Nat) (rs:List (Nat×Nat)) (hm:P.follows .mixedOrders=true) (hd:ziG (zfX (ops.toList.map (·.dst)) rs) E.N ops.toList=true)
  (h:∀ K:Fr→za→Prop,(∀ F' H',Q .normal F' H'→K F' H')→VOi P false ids [] rs [] (ops.toList.map (·.dst)) ops.toList (some (F,H)) K):PW P E (.region id ops true) F H Q:=fun hs C a w hdf hw hf=>by
 refine wp_region_any hm ?_
 have hr:=zkg (P:=P) _ _ _ (h (fun F' H'=>Q .normal F' H') fun _ _ h=>h)
 have hall:∀ i,i<ops.toList.length→zg2 (zfX (ops.toList.map (·.dst)) rs) (zfw ops.toList) E.N ops.toList i=true:=by
  intro i hi
  unfold ziG at hd
  exact List.all_eq_true.1 hd i (List.mem_range.2 hi)
 refine zmJ (P:=P) hall zvM zvP ops.size (Array.replicate ops.size false) (slot F) H C a w.drew (by simp) ?_ (by rw [zbJ];simp) (by rw [zbJ,zf6];exact hr) hdf hw.drew hf ?_
 ·intro i o ho hl j hj
  have hi:i<ops.size:=(Array.getElem?_eq_some_iff.1 ho).1
  simp [Array.getD,hi] at hl
 ·rintro C' f' H' a' w' p1 p2 p3 p4 p5 ⟨F',rfl,p6⟩
  exact ⟨C',F',H',p1.toN _,p2,p3,((Below.refl C.B w).drew).trans p4,p5,p6⟩
theorem VCj.now {ids:List Nat} {fp:Fp} {rs:List (Nat×Nat)} {o:Oper} {K:Fr→za→Prop} {g:FuncId} {args:List PV} {v:PV} {H':za} (h:CallOk P g args H v H') (hc:zr o.op (slot F)=some (g,args)) (hk:K (put F o.dst v) H'):VCj P false ids fp rs o F H K:=by
 unfold VCj
 simp only [hc]
 exact ⟨v,H',h,hk⟩
end Go.Proofs.YtjgmdlcjbgiekaaGreatDoor.Pm
namespace Go.Proofs.YtjgmdlcjbgiekaaGreatDoor.Pm
set_option linter.all false
open Go.RowKit
variable {P:Program} {C:Ctx} {H:za} {w:World} {F:Fr} {a:Act} {N:Nat}
def CallPan (P:Program) (f:FuncId) (args:List PV) (H:za) (ch:List PanicEntry) (H':za):Prop:=
 zaE P f=true∧∀ (C:Ctx) (us:List Value) (w:World),WRel C H w→VRels C args us→
  Calls P f us.toArray w fun e w'=>∃ C',CLe C C'∧WRel C' H' w'∧Below C.B w w'∧e= .panicked ch
theorem zcu {all:List Oper} {K:Fr→za→Prop} {D:List Deferred} {rest:List Oper}:∀ (l:List Oper) (F:Fr) (H:za),l.all (zR N)=true→zbj P all l K F H→∀ (C:Ctx) (a:Act) (w:World),a.defers=D→WRel C H w→FRel C N (slot F) a→
  ∀ Q:Exit→Act→World→Prop,(∀ C' F' H' a' w',CLe C C'→a'.defers=D→WRel C' H' w'→Below C.B w w'→FRel C' N (slot F') a'→K F' H'→wpList P all.toArray Q rest a' w')→wpList P all.toArray Q (l++rest) a w
 | [],F,H,_,h,C,a,w,hd,hw,hf,Q,hQ=>hQ C F H a w (.refl _) hd hw (.refl _ _) hf h
 | o::r,F,H,hall,h,C,a,w,hd,hw,hf,Q,hQ=>by
  simp only [List.all_cons,Bool.and_eq_true] at hall
  simp only [zbj] at h
  rw [List.cons_append]
  split at h
  ·rename_i b hb
   have hwant:=zP hf hb
   unfold wpList
   cases b with
   | true=>
    rw [if_pos hwant]
    left
    have h1:=h.1 rfl
    have step:∀ R,zcp P o (slot F) H R→(∀ v H',R v H'→zbj P all r K (put F o.dst v) H')→o.wp P a w (wpList P all.toArray Q (r++rest)) Q:=fun R he hr=>by
     refine zbL hall.1 hw hf he _ _ fun C' u w' v H' q0 q1 q2 q3 q4=> ?_
     rw [←zX] at q4
     refine zcu (D:=D) (rest:=rest) r _ _ hall.2 (hr v H' q0) C' _ w' (by cases ho:o.dst<;>simp [Act.put,hd]) q2 q4 Q ?_
     intro C'' F'' H'' a'' w'' p1 p2 p3 p4 p5 p6
     exact hQ C'' F'' H'' a'' w'' (q1.trans p1) p2 p3 (q3.trans (by rw [←q1.B];exact p4)) p5 p6
    split at h1
    ·rename_i g args hc
     obtain ⟨R,hcall,hr⟩:=h1
     exact step R (by unfold zcp;rw [hc];exact hcall) hr
    ·rename_i hc
     split at h1
     ·rename_i v H' hp
      exact step (fun v' H''=>v'=v∧H''=H') (by unfold zcp;rw [hc];exact ⟨v,H',hp,rfl,rfl⟩) (fun v' H'' e=>by rw [e.1,e.2];exact h1)
     ·exact h1.elim
   | false=>
    rw [if_neg (by rw [hwant];simp)]
    have h2:=h.2 rfl
    have q4:=hf.put o.dst (zas hall.1) (VRel.undefV (C:=C))
    rw [←zX] at q4
    exact zcu (D:=D) (rest:=rest) r _ _ hall.2 h2 C _ w (by cases ho:o.dst<;>simp [Act.put,hd]) hw q4 Q hQ
  ·exact h.elim
theorem zdW {o:Oper} {f:Nat→PV} {g:FuncId} {args:List PV} {ch:List PanicEntry} {H':za} (hw:WRel C H w) (hf:FRel C N f a) (hc:zr o.op f=some (g,args)) (h:CallPan P g args H ch H')
  (next:Act→World→Prop) (Q:Exit→Act→World→Prop) (hn:∀ C' w',CLe C C'→WRel C' H' w'→Below C.B w w'→FRel C' N f a→Q (.panic ch) a w'):o.wp P a w next Q:=by
 unfold zr at hc
 split at hc
 ·rename_i x xs ts ho
  split at hc
  ·rename_i f' first captured hfv
   simp only [Option.some.injEq,Prod.mk.injEq] at hc
   obtain ⟨rfl,rfl⟩:=hc
   have hv:=zw hf x
   rw [hfv] at hv
   obtain ⟨us,ws,hl,hl',hR,hR',he⟩:∃ us ws,us.length=first.length∧ws.length=captured.length∧Rel C first us∧Rel C captured ws∧a.eval x= .func (.func f') us.toArray ws.toArray:=by
    generalize a.eval x=q at hv
    cases hv with
    | func hl hl' hR hR'=>exact ⟨_,_,hl,hl',hR,hR',rfl⟩
   obtain ⟨hal,har⟩:=zdL hf xs.toList
   have hrun:(execOp a.eval o).run P w= .ok (.enter f' (us++xs.toList.map a.eval++ws).toArray) w:=by
    have e1:us.toArray++xs.map a.eval++ws.toArray=(us++xs.toList.map a.eval++ws).toArray:=by
     apply Array.ext';simp
    simp only [execOp,ho,resolve,he,Deferred.ofValue,invoke,Sem.run_bind,Sem.run_pure,Result.andThen_ok,zcN h.1,e1]
   unfold Oper.wp
   rw [hrun,Oper.upon_enter]
   refine (h.2 C _ w hw ⟨by simp [hl,hl'],Rel.append (by simp [hl]) (Rel.append hl hR har) hR'⟩).mono ?_
   rintro e w' ⟨C',q1,q2,q3,rfl⟩
   exact hn C' w' q1 q2 q3 (hf.mono q1)
  ·cases hc
 ·cases hc
section rules
variable {E:Env} {Q:Exit→Fr→za→Prop}
theorem PW.region_pan {id:Nat} {ops:Array Oper} (n:Nat) (hd:(ops.toList.take n).all (zR E.N)=true)
  (h:zbj P ops.toList (ops.toList.take n) (fun F' H'=>∃ o r g args ch H'',ops.toList.drop n=o::r∧za7 ops.toList (slot F') o=some true∧zr o.op (slot F')=some (g,args)∧CallPan P g args H' ch H''∧Q (.panic ch) F' H'') F H):
  PW P E (.region id ops false) F H Q:=fun hs C a w hdf hw hf=>by
 refine wp_region_list ?_
 have:=zcu (P:=P) (all:=ops.toList) (rest:=ops.toList.drop n) (ops.toList.take n) F H hd h C a w hdf hw hf (Post E C w Q) (fun C' F' H' a' w' p1 p2 p3 p4 p5 p6=>by
  obtain ⟨o,r,g,args,ch,H'',e1,e2,e3,e4,e5⟩:=p6
  rw [e1]
  unfold wpList
  rw [if_pos (zP p5 e2)]
  left
  exact zdW p3 p5 e3 e4 _ _ fun C'' w'' r1 r2 r3 r4=>⟨C'',F',H'',(p1.trans r1).toN _,p2,r2,p4.trans (by rw [←p1.B];exact r3),r4,e5⟩)
 rw [List.take_append_drop] at this
 simpa using this
end rules
def zwY (H:za) (Hout:za) (H':za):Prop:=H'=Hout∨(∃ K,H'=H++K∧Hout=H)∨(HSc H→H.length≤Hout.length∧CutH H' Hout)
def zwf (ch:List PanicEntry) (H Hout:za):Exit→Fr→za→Prop
 | .panic ch',_,H'=>ch'=ch∧zwY H Hout H'
 | _,_,_=>False
theorem CallPan.intro {f:FuncId} {fn:Func} {c:Code} {args:List PV} {ch:List PanicEntry} {Hout:za} (hf:P.funcs[f]? =some fn) (hb:fn.body=some c) (hcall:zaE P f=true) (hn:args.length≤fn.ntmps)
  (h:PW P ⟨fn.ntmps,H⟩ c (zce args 0) H (zwf ch H Hout)):CallPan P f args H ch Hout:=by
 refine ⟨hcall,fun C us w hw hargs=>calls_of_wp hf hb ?_⟩
 have hfr:FRel C fn.ntmps (slot (zce args 0)) { tmps:=us.toArray++Array.replicate (fn.ntmps - us.toArray.size) Go.undef,defers:=[] }:=by
  refine ⟨by simp [hargs.1];omega,fun t=> ?_⟩
  rw [zcE]
  simp only [Nat.zero_le,if_true,Nat.sub_zero]
  by_cases ht:t<args.length
  ·have htu:t<us.length:=by rw [hargs.1];exact ht
   have e1:args.getD t .undef=args[t]:=by simp [List.getD,ht]
   have e2:(us.toArray++Array.replicate (fn.ntmps - us.toArray.size) Go.undef).getD t Go.undef=us[t]:=by
    rw [Array.getD_eq_getD_getElem?,Array.getElem?_append_left (by simpa using htu)]
    simp [htu]
   rw [e1,e2]
   exact hargs.2 t _ _ (List.getElem?_eq_getElem ht) (List.getElem?_eq_getElem htu)
  ·have e1:args.getD t .undef= .undef:=by simp [List.getD,List.getElem?_eq_none (by omega:args.length≤t)]
   rw [e1]
   exact .undef _
 refine wp_mono (h hw.hsc C _ w rfl hw hfr) ?_
 rintro e a' w' ⟨C',F',H',q1,q2,q3,q4,q5,q6⟩
 have q1':=q1.full hw.lenv
 cases e with
 | panic ch'=>
  obtain ⟨rfl,hp⟩:=q6
  refine ⟨q2,?_⟩
  rcases hp with rfl|⟨K,rfl,rfl⟩|hp
  ·exact ⟨C',q1',q3,q4,rfl⟩
  ·obtain ⟨g1,g2⟩:=WRel.give hw q1' q3
   exact ⟨_,g1,g2,q4,rfl⟩
  ·obtain ⟨hlen,hcut⟩:=hp hw.hsc
   obtain ⟨g1,g2⟩:=q3.cutN hcut
   exact ⟨_,(q1.trans (g1.less hlen)).full hw.lenv,g2,q4,rfl⟩
 | _=>exact q6.elim
theorem CallPan.body {f:FuncId} {fn:Func} {c:Code} {F0:Fr} {args:List PV} {ch:List PanicEntry} {Hout:za} (hf:P.funcs[f]? =some fn) (hb:fn.body=some c) (hN:fn.ntmps=N) (hF:zce args 0=F0)
  (hcall:zaE P f=true) (hn:Nat.ble args.length N=true) (h:PW P ⟨N,H⟩ c F0 H (zwf ch H Hout)):CallPan P f args H ch Hout:=by
 subst hN hF
 exact CallPan.intro hf hb hcall (Nat.le_of_ble_eq_true hn) h
end Go.Proofs.YtjgmdlcjbgiekaaGreatDoor.Pm
namespace Go.Proofs.YtjgmdlcjbgiekaaGreatDoor.Pm
set_option linter.all false
open Go.RowKit
variable {P:Program} {C:Ctx} {H:za} {w:World} {F:Fr} {a:Act} {N:Nat}
def pnc (ty:TypeId) (k:IntKind) (e:Int):List PanicEntry:=[{ v:=.iface ty (.agg #[.int k e]),recovered:=false }]
theorem zqK {C:Ctx} {k:IntKind} {e:Int} {u:Value} (h:VRel C (.agg [.int k e]) u):u= .agg #[.int k e]:=by
 cases h with
 | agg hl hc hR=>
  rename_i us
  match us,hl with
  | [y],_=>
   have:=hR 0 _ _ rfl rfl
   cases this
   rfl
section rules
variable {E:Env} {Q:Exit→Fr→za→Prop}
theorem PW.raise {id:Nat} {ops:Array Oper} (n:Nat) {s d:Nat} {ty:TypeId} {k:IntKind} {e:Int} (hd:(ops.toList.take n).all (zR E.N)=true) (hdN:d<E.N) (hty:P.concrete ty=true)
  (h:zbj P ops.toList (ops.toList.take n) (fun F' H'=>∃ o1 o2 r,ops.toList.drop n=o1::o2::r∧o1.guard=none∧o2.guard=none∧o1.op= .makeInterface ty (.tmp s)∧o1.dst=some d∧o2.op= .panic (.tmp d)∧slot F' s= .agg [.int k e]∧Q (.panic (pnc ty k e)) (put F' (some d) .undef) H') F H):
  PW P E (.region id ops false) F H Q:=fun hs C a w hdf hw hf=>by
 refine wp_region_list ?_
 have:=zcu (P:=P) (all:=ops.toList) (rest:=ops.toList.drop n) (ops.toList.take n) F H hd h C a w hdf hw hf (Post E C w Q) (fun C' F' H' a' w' p1 p2 p3 p4 p5 p6=>by
  obtain ⟨o1,o2,r,e1,g1,g2,x1,d1,x2,hsl,hq⟩:=p6
  rw [e1]
  have hv:=p5.2 s
  rw [hsl] at hv
  have hu:=zqK hv
  have hsz:=p5.1
  have w1:∀ a0:Act,Region.wanted o1 (yielded ops.toList.toArray a0.tmps)=true:=fun a0=>by simp [Region.wanted,g1]
  have w2:∀ a0:Act,Region.wanted o2 (yielded ops.toList.toArray a0.tmps)=true:=fun a0=>by simp [Region.wanted,g2]
  have r1:(execOp a'.eval o1).run P w'= .ok (.value (.iface ty (.agg #[.int k e]))) w':=by
   simp only [execOp,x1]
   have:a'.eval (.tmp s)= .agg #[.int k e]:=hu
   rw [this]
   simp only [Sem.run_bind,run_makeInterface _ _ _ hty,Result.andThen_ok,Sem.run_pure]
  unfold wpList
  rw [if_pos (w1 _)]
  left
  unfold Oper.wp
  rw [r1,Oper.upon_value]
  unfold wpList
  rw [if_pos (w2 _)]
  left
  have hlt:d<a'.tmps.size:=by omega
  have r2:(execOp (a'.put o1.dst (.iface ty (.agg #[.int k e]))).eval o2).run P w'= .halt (.panic (.iface ty (.agg #[.int k e]))) w':=by
   simp only [execOp,x2]
   have:(a'.put o1.dst (.iface ty (.agg #[.int k e]))).eval (.tmp d)= .iface ty (.agg #[.int k e]):=by
    rw [d1]
    simp [Act.put,Act.eval,hlt]
   rw [this]
   simp only [Sem.run_bind,run_panic_iface,Result.andThen_halt]
  unfold Oper.wp
  rw [r2,Oper.upon_panic]
  have q4:=p5.put (some d) (fun t ht=>by injection ht with ht;omega) (VRel.undef (C:=C') (.iface ty (.agg #[.int k e])))
  rw [←zX] at q4
  exact ⟨C',_,H',p1.toN _,by rw [d1];simpa [Act.put] using p2,p3,p4,by rw [d1];exact q4,hq⟩)
 rw [List.take_append_drop] at this
 simpa using this
theorem PW.raiseV {id:Nat} {ops:Array Oper} (n:Nat) {s d:Nat} {ty:TypeId} {k:IntKind} {e:Int} (hd:(ops.toList.take n).all (zR E.N)=true)
  (hs:∃ o1 o2 r,ops.toList.drop n=o1::o2::r∧o1.guard=none∧o2.guard=none∧o1.op= .makeInterface ty (.tmp s)∧o1.dst=some d∧o2.op= .panic (.tmp d)) (hdN:d<E.N) (hty:P.concrete ty=true)
  (h:∀ K:Fr→za→Prop,(∀ F' H',slot F' s= .agg [.int k e]→Q (.panic (pnc ty k e)) (put F' (some d) .undef) H'→K F' H')→VO P (ops.toList.map (·.dst)) (ops.toList.take n) (some (F,H)) K):PW P E (.region id ops false) F H Q:=by
 obtain ⟨o1,o2,r,e1,e2,e3,e4,e5,e6⟩:=hs
 exact PW.raise n hd hdN hty (zag _ _ _ (h _ fun F' H' h1 h2=>⟨o1,o2,r,e1,e2,e3,e4,e5,e6,h1,h2⟩))
theorem PW.panV {id:Nat} {ops:Array Oper} (n:Nat) {o:Oper} (hd:(ops.toList.take n).all (zR E.N)=true) (hs:∃ o' r,ops.toList.drop n=o'::r∧(o'=o∧o'.guard=none))
  (h:∀ K:Fr→za→Prop,(∀ F' H' g args ch H'',zr o.op (slot F')=some (g,args)→CallPan P g args H' ch H''→Q (.panic ch) F' H''→K F' H')→VO P (ops.toList.map (·.dst)) (ops.toList.take n) (some (F,H)) K):PW P E (.region id ops false) F H Q:=by
 obtain ⟨o',r,e1,rfl,e2⟩:=hs
 exact PW.region_pan n hd (zag _ _ _ (h _ fun F' H' g args ch H'' h1 h2 h3=>⟨o',r,g,args,ch,H'',e1,by unfold za7;rw [e2],h1,h2,h3⟩))
end rules
end Go.Proofs.YtjgmdlcjbgiekaaGreatDoor.Pm
