/-
  Parts of the proof, put together in one text. No condition.
-/
import Derived.Test.YtjgmdlcjbgiekaaGreatDoorQ15
import Derived.Test.YtjgmdlcjbgiekaaGreatDoorRows
import Derived.Test.YtjgmdlcjbgiekaaGreatDoorQ09
namespace Go.Proofs.YtjgmdlcjbgiekaaGreatDoor.Sc
set_option linter.all false
open Pm Ty Go.RowKit
def mbs (n most:Int):Bool:=decide (16≤n)&&decide (n≤most)&&(n.tmod 16==0)
theorem zgO (n most:Int) (H:za):CallOk Tryz.prog 201 [.int .i64 n,.int .i64 most] H (.bool (mbs n most)) H:=by
 refine CallOk.body (F0:=[(0,.int .i64 n),(1,.int .i64 most)]) Tryz.func201 rfl Tryz.ntmps201 Tryz.results201 rfl (by kernel_rfl) rfl ?_
 refine PW.e ?_
 (repeat refine PW.seq ?_);refine PW.rg rfl fun K hK=> ?_;simp (disch:=omega) only [go_sem,↓reduceIte,reduceCtorEq];(repeat' ((first|refine zj ?_ ?_|refine zn ?_ ?_|refine zN ?_ ?_|refine VOh_cond ?_ ?_|refine zM ?_ ?_|refine And.intro ?_ ?_)<;>intro h<;>(try simp only [nqb] at h)<;>simp (disch:=omega) only [go_sem,↓reduceIte,reduceCtorEq,h]))
 all_goals (refine hK _ _ ?_;clear hK K)
 all_goals (refine PW.ret ⟨_,rfl,.inl ⟨?_,rfl⟩⟩;simp_all [mbs,slot,Nat.beq];try omega)
theorem zuE (x y:Nat) (H:za):CallOk Tryz.prog 282 [.int .u64 (x:Int),.int .u64 (y:Int)] H (.int .u64 (Nat.gcd x y:Int)) H:=by
 generalize hr:Nat.gcd x y=r
 refine CallOk.body (F0:=[(0,.int .u64 (x:Int)),(1,.int .u64 (y:Int))]) Tryz.func282 rfl Tryz.ntmps282 Tryz.results282 rfl (by kernel_rfl) rfl ?_
 refine PW.e ?_
 (repeat refine PW.seq ?_);refine PW.block (PW.loop ?_)
 refine PL.at [0,1] (?_:PL _ _ _ [(0,.int .u64 (x:Int)),(1,.int .u64 (y:Int))] H _) rfl rfl
 induction hm:y using Nat.strongRecOn generalizing x y with
 | _ n ih=>
  subst hm
  refine PL.round ?_;refine PW.e ?_
  (repeat refine PW.seq ?_);refine PW.cond (t:=_) rfl (fun h=> ?_) (fun h=> ?_)
  ·have hy:y≠0:=by intro e;subst e;simp at h
   refine PW.skip ?_;(repeat refine PW.seq ?_);refine PW.block ?_;(repeat refine PW.seq ?_);refine PW.draw mix (by kernel_rfl) fun K hK=> ?_;simp (disch:=omega) only [go_sem,↓reduceIte,reduceCtorEq,zlC];refine hK _ _ ?_;clear hK K
   exact PL.at [0,1] (ih (x%y) (Nat.mod_lt _ (by omega)) y (x%y) (by rw [←hr,Nat.gcd_comm x y,Nat.gcd_rec y x,Nat.gcd_comm]) rfl) rfl rfl
  ·have hy:y=0:=by simpa using h
   subst hy
   refine PW.exit ?_
   refine PW.e ?_
   exact PW.ret ⟨_,rfl,.inl ⟨by rw [←hr,Nat.gcd_zero_right];rfl,rfl⟩⟩
theorem zr7 (x y:Nat) (H:za):CallOk Tryz.prog 93 [.int .u64 (x:Int),.int .u64 (y:Int)] H (.int .u64 (Nat.gcd x y:Int)) H:=by
 generalize hr:Nat.gcd x y=r
 refine CallOk.body (F0:=[(0,.int .u64 (x:Int)),(1,.int .u64 (y:Int))]) Tryz.func93 rfl Tryz.ntmps93 Tryz.results93 rfl (by kernel_rfl) rfl ?_
 refine PW.e ?_
 (repeat refine PW.seq ?_);refine PW.block (PW.loop ?_)
 refine PL.at [0,1] (?_:PL _ _ _ [(0,.int .u64 (x:Int)),(1,.int .u64 (y:Int))] H _) rfl rfl
 induction hm:y using Nat.strongRecOn generalizing x y with
 | _ n ih=>
  subst hm
  refine PL.round ?_;refine PW.e ?_
  (repeat refine PW.seq ?_);refine PW.cond (t:=_) rfl (fun h=> ?_) (fun h=> ?_)
  ·have hy:y≠0:=by intro e;subst e;simp at h
   refine PW.skip ?_;(repeat refine PW.seq ?_);refine PW.block ?_;(repeat refine PW.seq ?_);refine PW.draw mix (by kernel_rfl) fun K hK=> ?_;simp (disch:=omega) only [go_sem,↓reduceIte,reduceCtorEq,zlC];refine hK _ _ ?_;clear hK K
   exact PL.at [0,1] (ih (x%y) (Nat.mod_lt _ (by omega)) y (x%y) (by rw [←hr,Nat.gcd_comm x y,Nat.gcd_rec y x,Nat.gcd_comm]) rfl) rfl rfl
  ·have hy:y=0:=by simpa using h
   subst hy
   refine PW.exit ?_
   refine PW.e ?_
   exact PW.ret ⟨_,rfl,.inl ⟨by rw [←hr,Nat.gcd_zero_right];rfl,rfl⟩⟩
theorem zrW (n:Int) (H:za) (hn: -9223372036854775808≤n∧n≤9223372036854775807):CallOk Tryz.prog 283 [.int .i64 n] H (.int .u64 (n.natAbs:Int)) H:=by
 refine CallOk.body (F0:=[(0,.int .i64 n)]) Tryz.func283 rfl Tryz.ntmps283 Tryz.results283 rfl (by kernel_rfl) rfl ?_
 refine PW.e ?_
 refine PW.e ?_
 (repeat refine PW.seq ?_);refine PW.cond (t:=_) rfl (fun h=> ?_) (fun h=> ?_)
 ·have h1:=of_decide_eq_true h
  refine PW.f (fun K k=>by simp (disch:=omega) only [go_sem,↓reduceIte,reduceCtorEq,zvq];exact k) ?_
  refine PW.ret ⟨_,rfl,.inl ⟨?_,rfl⟩⟩
  have e:(n.natAbs:Int)=0 - (n+18446744073709551616)+18446744073709551616:=by omega
  rw [e];rfl
 ·have h1:=of_decide_eq_false h
  refine PW.skip ?_
  refine PW.f (fun K k=>by simp (disch:=omega) only [go_sem,↓reduceIte,reduceCtorEq,zhS];exact k) ?_
  refine PW.ret ⟨_,rfl,.inl ⟨?_,rfl⟩⟩
  have e:(n.natAbs:Int)=n:=by omega
  rw [e];rfl
theorem zpD (n:Int) (H:za) (hn: -9223372036854775808≤n∧n≤9223372036854775807):CallOk Tryz.prog 94 [.int .i64 n] H (.int .u64 (n.natAbs:Int)) H:=by
 refine CallOk.body (F0:=[(0,.int .i64 n)]) Tryz.func94 rfl Tryz.ntmps94 Tryz.results94 rfl (by kernel_rfl) rfl ?_
 refine PW.e ?_
 refine PW.e ?_
 (repeat refine PW.seq ?_);refine PW.cond (t:=_) rfl (fun h=> ?_) (fun h=> ?_)
 ·have h1:=of_decide_eq_true h
  refine PW.f (fun K k=>by simp (disch:=omega) only [go_sem,↓reduceIte,reduceCtorEq,zhS];exact k) ?_
  refine PW.ret ⟨_,rfl,.inl ⟨?_,rfl⟩⟩
  have e:(n.natAbs:Int)=0 - (n+1)+1:=by omega
  rw [e];rfl
 ·have h1:=of_decide_eq_false h
  refine PW.skip ?_
  refine PW.f (fun K k=>by simp (disch:=omega) only [go_sem,↓reduceIte,reduceCtorEq,zhS];exact k) ?_
  refine PW.ret ⟨_,rfl,.inl ⟨?_,rfl⟩⟩
  have e:(n.natAbs:Int)=n:=by omega
  rw [e];rfl
def zc5 (num den:Int):Bool:=decide (1≤den)&&decide (-9223372036854775808<num)&&(Nat.gcd num.natAbs den.natAbs==1)
theorem zgx (num den:Int) (H:za) (hn: -9223372036854775808≤num∧num≤9223372036854775807) (hd: -9223372036854775808≤den∧den≤9223372036854775807):
  CallOk Tryz.prog 202 [.agg [.int .i64 num,.int .i64 den]] H (.bool (zc5 num den)) H:=by
 generalize hr:zc5 num den=r
 refine CallOk.body (F0:=[(0,.agg [.int .i64 num,.int .i64 den])]) Tryz.func202 rfl Tryz.ntmps202 Tryz.results202 rfl (by kernel_rfl) rfl ?_
 refine PW.e ?_
 (repeat refine PW.seq ?_);refine PW.draw mix (by kernel_rfl) fun K hK=> ?_;simp (disch:=omega) only [go_sem,↓reduceIte,reduceCtorEq,zhS];(repeat' ((first|refine zj ?_ ?_|refine zn ?_ ?_|refine zN ?_ ?_|refine VOh_cond ?_ ?_|refine zM ?_ ?_|refine And.intro ?_ ?_)<;>intro h<;>(try simp only [nqb] at h)<;>simp (disch:=omega) only [go_sem,↓reduceIte,reduceCtorEq,zhS,h]))
 ·rename_i h1
  have e:den=((den.natAbs:Nat):Int):=by omega
  have hg:=zuE num.natAbs den.natAbs (H++[⟨26,0,[.int .i64 num,.int .i64 den]⟩])
  rw [←e] at hg
  refine VCy.call (zrW _ _ hn) rfl ?_;simp (disch:=omega) only [go_sem,↓reduceIte,reduceCtorEq,zhS];refine VCy.call (hg) rfl ?_;simp (disch:=omega) only [go_sem,↓reduceIte,reduceCtorEq]
  refine hK _ _ ?_;clear hK K
  refine PW.ret ⟨_,rfl,Fin.base (.id' ?_ (.bool _))⟩
  rw [←hr]
  simp [zc5,slot,Nat.beq,h,h1]
  rw [Bool.eq_iff_iff];simp;omega
 all_goals (refine hK _ _ ?_;clear hK K)
 all_goals (refine PW.ret ⟨_,rfl,Fin.base (.id' ?_ (.bool _))⟩;rw [←hr];simp_all [zc5,slot,Nat.beq];try omega)
theorem zej (num den:Int) (H:za) (hn: -9223372036854775808≤num∧num≤9223372036854775807) (hd: -9223372036854775808≤den∧den≤9223372036854775807):
  CallOk Tryz.prog 47 [.agg [.int .i64 num,.int .i64 den]] H (.bool (zc5 num den)) H:=by
 generalize hr:zc5 num den=r
 refine CallOk.body (F0:=[(0,.agg [.int .i64 num,.int .i64 den])]) Tryz.func47 rfl Tryz.ntmps47 Tryz.results47 rfl (by kernel_rfl) rfl ?_
 refine PW.e ?_
 (repeat refine PW.seq ?_);refine PW.draw mix (by kernel_rfl) fun K hK=> ?_;simp (disch:=omega) only [go_sem,↓reduceIte,reduceCtorEq,zhS];(repeat' ((first|refine zj ?_ ?_|refine zn ?_ ?_|refine zN ?_ ?_|refine VOh_cond ?_ ?_|refine zM ?_ ?_|refine And.intro ?_ ?_)<;>intro h<;>(try simp only [nqb] at h)<;>simp (disch:=omega) only [go_sem,↓reduceIte,reduceCtorEq,zhS,h]))
 ·rename_i h1
  have e:den=((den.natAbs:Nat):Int):=by omega
  have hg:=zr7 num.natAbs den.natAbs (H++[⟨26,0,[.int .i64 num,.int .i64 den]⟩])
  rw [←e] at hg
  refine VCy.call (zpD _ _ hn) rfl ?_;simp (disch:=omega) only [go_sem,↓reduceIte,reduceCtorEq,zhS];refine VCy.call (hg) rfl ?_;simp (disch:=omega) only [go_sem,↓reduceIte,reduceCtorEq]
  refine hK _ _ ?_;clear hK K
  refine PW.ret ⟨_,rfl,Fin.base (.id' ?_ (.bool _))⟩
  rw [←hr]
  have h2: -9223372036854775808<num:=by omega
  simp [zc5,slot,Nat.beq,h,h1,h2]
  rw [Bool.eq_iff_iff];simp;omega
 all_goals (refine hK _ _ ?_;clear hK K)
 all_goals (refine PW.ret ⟨_,rfl,Fin.base (.id' ?_ (.bool _))⟩;rw [←hr];clear hr)
 ·have h2:¬ -9223372036854775808<num:=by omega
  simp [zc5,slot,Nat.beq,h2]
 ·simp_all [zc5,slot,Nat.beq];try omega
structure Sq where
 w:Int
 h:Int
 num:Int
 den:Int
 il:Bool
 br:Int
 bf:Int
 ia:List UInt8
 ie:List UInt8
def sqc (s:Sq):List PV:=.int .i64 s.w:: .int .i64 s.h:: .int .i64 s.num:: .int .i64 s.den:: .bool s.il:: .int .i64 s.br:: .int .i64 s.bf::(bs s.ia++bs s.ie)
def zhl (n:Int):Prop:= -9223372036854775808≤n∧n≤9223372036854775807
structure SqOk (s:Sq):Prop where
 w: -9223372036854775808≤s.w∧s.w≤9223372036854775807
 h: -9223372036854775808≤s.h∧s.h≤9223372036854775807
 num: -9223372036854775808≤s.num∧s.num≤9223372036854775807
 den: -9223372036854775808≤s.den∧s.den≤9223372036854775807
 br: -9223372036854775808≤s.br∧s.br≤9223372036854775807
 bf: -9223372036854775808≤s.bf∧s.bf≤9223372036854775807
 ia:s.ia.length=64
 ie:s.ie.length=64
theorem zbn (n:Nat) (s:Sq):∀ x∈sqc s,Scoped n x:=fun x hx=>by
 simp only [sqc,List.mem_cons,List.mem_append] at hx
 rcases hx with rfl|rfl|rfl|rfl|rfl|rfl|rfl|hx|hx
 all_goals first|exact .int _ _|exact .bool _|exact zq n _ x hx
theorem zfo (p q:List UInt8) (h:p.length=64):(bs p++bs q).take 64=bs p:=by
 rw [List.take_append_of_le_length (by rw [ze];omega),List.take_of_length_le (by rw [ze];omega)]
theorem zfn (p q:List UInt8) (h:p.length=64):(bs p++bs q).drop 64=bs q:=by
 rw [List.drop_append_of_le_length (by rw [ze];omega),List.drop_of_length_le (by rw [ze];omega),List.nil_append]
theorem zeg (q:List UInt8) (h:q.length=64):(bs q).take 64=bs q:=List.take_of_length_le (by rw [ze];omega)
theorem zoj (p q:List UInt8) (h:p.length=64) (h':q.length=64):(bs p++bs q).take 128=bs p++bs q:=List.take_of_length_le (by rw [List.length_append,ze,ze];omega)
def zbH (m:List UInt8):Bool:=m.all fun b=>decide (8≤b.toNat)
theorem zl7 (m:List UInt8) (k:Nat) (hk:k≤m.length):(m.drop k).all (fun b=>decide (8≤b.toNat))=if k<m.length then decide (8≤byt m k)&&(m.drop (k+1)).all (fun b=>decide (8≤b.toNat)) else true:=by
 split
 ·rename_i h
  rw [List.drop_eq_getElem_cons h,List.all_cons]
  congr 1
  simp [byt,h]
  omega
 ·rw [List.drop_of_length_le (by omega)];rfl
theorem zjN (m:List UInt8) (H:za) (hl:m.length=64):CallOk Tryz.prog 133 [.agg (bs m)] H (.bool (zbH m)) H:=by
 refine CallOk.body (F0:=[(0,.agg (bs m))]) Tryz.func133 rfl Tryz.ntmps133 Tryz.results133 rfl (by kernel_rfl) rfl ?_
 have hall:(bs m).all PV.cell=true:=by simp [bs,PV.cell]
 refine PW.f (fun K k=>by simp (disch:=omega) only [go_sem,↓reduceIte,reduceCtorEq,hall];exact k) ?_
 refine PW.f (fun K k=>by simp (disch:=omega) only [go_sem,↓reduceIte,reduceCtorEq,ze,zeg];exact k) ?_
 (repeat refine PW.seq ?_);refine PW.block (PW.loop ?_)
 suffices hloop:∀ (k:Nat),k≤64→zbH m=(m.drop k).all (fun b=>decide (8≤b.toNat))→PL Tryz.prog _ _ [(5,.agg (bs m)),(6,.int .i64 (k:Int))] (H++[⟨27,0,bs m⟩]) _ by
  exact PL.at [5,6] (hloop 0 (by omega) (by simp [zbH])) rfl rfl
 intro k hk heq
 induction hm:64 - k using Nat.strongRecOn generalizing k with
 | _ n ih=>
  rw [zl7 m k (by omega)] at heq
  refine PL.round ?_;refine PW.e ?_
  (repeat refine PW.seq ?_);refine PW.cond (t:=_) rfl (fun h=> ?_) (fun h=> ?_)
  ·have h4:k<64:=by have:=of_decide_eq_true h;omega
   rw [if_pos (by omega)] at heq
   refine PW.skip ?_;(repeat refine PW.seq ?_);refine PW.block ?_
   refine PW.f (fun K k=>by simp (disch:=omega) only [go_sem,↓reduceIte,reduceCtorEq,zbr];exact k) ?_
   refine PW.e ?_
   (repeat refine PW.seq ?_);refine PW.cond (t:=_) rfl (fun h=> ?_) (fun h=> ?_)
   ·have h5:=of_decide_eq_true h
    refine PW.e ?_
    refine PW.ret ⟨_,rfl,Fin.base (.id' ?_ (.bool _))⟩
    rw [heq]
    simp [slot,Nat.beq];omega
   ·have h5:=of_decide_eq_false h
    refine PW.skip ?_
    refine PW.e ?_
    refine PL.at [5,6] (ih (64 - (k+1)) (by omega) (k+1) (by omega) ?_ rfl) rfl rfl
    rw [heq];simp;omega
  ·have h4:¬ k<64:=by have:=of_decide_eq_false h;omega
   rw [if_neg (by omega)] at heq
   refine PW.exit ?_
   refine PW.e ?_
   refine PW.ret ⟨_,rfl,Fin.base (.id' ?_ (.bool _))⟩
   rw [heq];rfl
theorem zpp (m:List UInt8) (H:za) (hl:m.length=64):CallOk Tryz.prog 48 [.agg (bs m)] H (.bool (zbH m)) H:=by
 refine CallOk.body (F0:=[(0,.agg (bs m))]) Tryz.func48 rfl Tryz.ntmps48 Tryz.results48 rfl (by kernel_rfl) rfl ?_
 have hall:(bs m).all PV.cell=true:=by simp [bs,PV.cell]
 refine PW.f (fun K k=>by simp (disch:=omega) only [go_sem,↓reduceIte,reduceCtorEq,hall];exact k) ?_
 refine PW.e ?_
 (repeat refine PW.seq ?_);refine PW.block (PW.loop ?_)
 suffices hloop:∀ (k:Nat),k≤64→zbH m=(m.drop k).all (fun b=>decide (8≤b.toNat))→PL Tryz.prog _ _ [(1,.ptr H.length 0 0),(3,.int .i64 (k:Int))] (H++[⟨27,0,bs m⟩]) _ by
  exact PL.at [1,3] (hloop 0 (by omega) (by simp [zbH])) rfl rfl
 intro k hk heq
 induction hm:64 - k using Nat.strongRecOn generalizing k with
 | _ n ih=>
  rw [zl7 m k (by omega)] at heq
  refine PL.round ?_;refine PW.e ?_
  (repeat refine PW.seq ?_);refine PW.cond (t:=_) rfl (fun h=> ?_) (fun h=> ?_)
  ·have h4:k<64:=by have:=of_decide_eq_true h;omega
   rw [if_pos (by omega)] at heq
   refine PW.skip ?_;(repeat refine PW.seq ?_);refine PW.block ?_;refine PW.f (fun K k=>by simp (disch:=omega) only [go_sem,↓reduceIte,reduceCtorEq,zbr];exact k) ?_
   (repeat refine PW.seq ?_);refine PW.cond (t:=_) rfl (fun h=> ?_) (fun h=> ?_)
   ·have h5:=of_decide_eq_true h
    refine PW.e ?_
    refine PW.ret ⟨_,rfl,Fin.base (.id' ?_ (.bool _))⟩
    rw [heq]
    simp [slot,Nat.beq];omega
   ·have h5:=of_decide_eq_false h
    refine PW.skip ?_
    refine PW.e ?_
    refine PL.at [1,3] (ih (64 - (k+1)) (by omega) (k+1) (by omega) ?_ rfl) rfl rfl
    rw [heq];simp;omega
  ·have h4:¬ k<64:=by have:=of_decide_eq_false h;omega
   rw [if_neg (by omega)] at heq
   refine PW.exit ?_
   refine PW.e ?_
   refine PW.ret ⟨_,rfl,Fin.base (.id' ?_ (.bool _))⟩
   rw [heq];rfl
def vsz (s:Sq):Bool:=mbs s.w 64&&mbs s.h 64&&(!s.il||(s.h.tmod 32==0))
def vrt (s:Sq):Bool:=zc5 s.num s.den&&decide (1≤s.num)&&decide (s.num≤1048576)&&decide (s.den≤65536)
def vbr (s:Sq):Bool:=decide (1≤s.br)&&decide (s.br≤16777216)&&decide (1≤s.bf)&&decide (s.bf≤8388608)
def vbu (s:Sq):Bool:=decide (3 * s.den * s.br+32 * s.num≤2 * s.num * s.bf)
def zbM (s:Sq):Bool:=vsz s&&(vrt s&&(vbr s&&(vbu s&&(zbH s.ia&&zbH s.ie))))
theorem zhB {num den:Int} (h:zc5 num den=true):1≤den:=by simp [zc5] at h;exact h.1.1
theorem zfN {a b:Int} {A B:Int} (ha:0≤a) (hA:a≤A) (hb:0≤b) (hB:b≤B):0≤a * b∧a * b≤A * B:=
 ⟨Int.mul_nonneg ha hb,Int.mul_le_mul hA hB hb (Int.le_trans ha hA)⟩
theorem zhU (s:Sq) (H:za) (hs:SqOk s):CallOk Tryz.prog 126 [.agg (sqc s)] H (.bool (zbM s)) H:=by
 obtain ⟨hw,hh,hnum,hden,hbr,hbf,hia,hie⟩:=hs
 have hall:(bs s.ia++bs s.ie).all PV.cell=true:=by simp [bs,PV.cell]
 refine CallOk.body (F0:=[(0,.agg (sqc s))]) Tryz.func126 rfl Tryz.ntmps126 Tryz.results126 rfl (by kernel_rfl) rfl ?_
 refine PW.f (fun K k=>by simp (disch:=omega) only [go_sem,↓reduceIte,reduceCtorEq,sqc,hall];exact k) ?_
 refine PW.seq (PW.seq (PW.rgv [1] 22 (.bool (!vsz s)) rfl ?_ ?_))
 ·simp (disch:=omega) only [go_sem,↓reduceIte,reduceCtorEq];(repeat' (first|((first|refine zj ?_ ?_|refine zn ?_ ?_|refine zN ?_ ?_|refine VOh_cond ?_ ?_|refine zM ?_ ?_|refine And.intro ?_ ?_)<;>intro h<;>(try simp only [nqb] at h)<;>simp (disch:=omega) only [go_sem,↓reduceIte,reduceCtorEq,h])|((first|refine VCx.call (zgO _ _ _) rfl ?_|refine VCy.call (zgO _ _ _) rfl ?_|refine VCz.call (fun _=>zgO _ _ _) rfl ?_|refine VCk.call (fun _ _=>zgO _ _ _) rfl ?_|refine VCj.now (zgO _ _ _) rfl ?_);simp (disch:=omega) only [go_sem,↓reduceIte,reduceCtorEq])))
  all_goals (simp_all [vsz,slot,Nat.beq]<;>first|rfl|omega|(rw [Bool.eq_iff_iff];simp;done)|(rw [Bool.eq_iff_iff];simp;omega))
 (repeat refine PW.seq ?_);refine PW.cond (t:=_) rfl (fun h=> ?_) (fun h=> ?_)
 ·have h1:vsz s=false:=by simpa using h
  refine PW.e ?_
  exact PW.ret ⟨_,rfl,Fin.base (.id' (by simp [zbM,h1,slot,Nat.beq]) (.bool _))⟩
 have h1:vsz s=true:=by simpa using h
 refine PW.skip (PW.seq (PW.seq (PW.rgv [1] 44 (.bool (!vrt s)) rfl ?_ ?_)))
 ·simp (disch:=omega) only [go_sem,↓reduceIte,reduceCtorEq];(repeat' (first|((first|refine zj ?_ ?_|refine zn ?_ ?_|refine zN ?_ ?_|refine VOh_cond ?_ ?_|refine zM ?_ ?_|refine And.intro ?_ ?_)<;>intro h<;>(try simp only [nqb] at h)<;>simp (disch:=omega) only [go_sem,↓reduceIte,reduceCtorEq,h])|((first|refine VCx.call (zgx _ _ _ hnum hden) rfl ?_|refine VCy.call (zgx _ _ _ hnum hden) rfl ?_|refine VCz.call (fun _=>zgx _ _ _ hnum hden) rfl ?_|refine VCk.call (fun _ _=>zgx _ _ _ hnum hden) rfl ?_|refine VCj.now (zgx _ _ _ hnum hden) rfl ?_);simp (disch:=omega) only [go_sem,↓reduceIte,reduceCtorEq])))
  all_goals (simp_all [vrt,slot,Nat.beq]<;>first|rfl|omega|(rw [Bool.eq_iff_iff];simp;done)|(rw [Bool.eq_iff_iff];simp;omega))
 (repeat refine PW.seq ?_);refine PW.cond (t:=_) rfl (fun h=> ?_) (fun h=> ?_)
 ·have h2:vrt s=false:=by simpa using h
  refine PW.e ?_
  exact PW.ret ⟨_,rfl,Fin.base (.id' (by simp [zbM,h1,h2,slot,Nat.beq]) (.bool _))⟩
 have h2:vrt s=true:=by simpa using h
 refine PW.skip (PW.seq (PW.seq (PW.rgv [1] 62 (.bool (!vbr s)) rfl ?_ ?_)))
 ·simp (disch:=omega) only [go_sem,↓reduceIte,reduceCtorEq];(repeat' ((first|refine zj ?_ ?_|refine zn ?_ ?_|refine zN ?_ ?_|refine VOh_cond ?_ ?_|refine zM ?_ ?_|refine And.intro ?_ ?_)<;>intro h<;>(try simp only [nqb] at h)<;>simp (disch:=omega) only [go_sem,↓reduceIte,reduceCtorEq,h]))
  all_goals (simp_all [vbr,slot,Nat.beq]<;>first|rfl|omega|(rw [Bool.eq_iff_iff];simp;done)|(rw [Bool.eq_iff_iff];simp;omega))
 (repeat refine PW.seq ?_);refine PW.cond (t:=_) rfl (fun h=> ?_) (fun h=> ?_)
 ·have h3:vbr s=false:=by simpa using h
  refine PW.e ?_
  exact PW.ret ⟨_,rfl,Fin.base (.id' (by simp [zbM,h1,h2,h3,slot,Nat.beq]) (.bool _))⟩
 have h3:vbr s=true:=by simpa using h
 have h2':=h2
 have h3':=h3
 simp only [vrt,vbr,Bool.and_eq_true,decide_eq_true_eq] at h2' h3'
 have hdp:=zhB h2'.1.1.1
 have hb1:=zfN (a:=2 * s.num) (b:=s.bf) (A:=2097152) (B:=8388608) (by omega) (by omega) (by omega) (by omega)
 have hb2:=zfN (a:=3 * s.den) (b:=s.br) (A:=196608) (B:=16777216) (by omega) (by omega) (by omega) (by omega)
 refine PW.skip ?_
 refine PW.e ?_
 (repeat refine PW.seq ?_);refine PW.cond (t:=_) rfl (fun h=> ?_) (fun h=> ?_)
 ·have h4:vbu s=false:=by have:=of_decide_eq_true h;simp [vbu];omega
  refine PW.e ?_
  exact PW.ret ⟨_,rfl,Fin.base (.id' (by simp [zbM,h1,h2,h3,h4,slot,Nat.beq]) (.bool _))⟩
 have h4:vbu s=true:=by have:=of_decide_eq_false h;simp [vbu];omega
 refine PW.skip ?_
 (repeat refine PW.seq ?_);refine PW.rg rfl fun K hK=> ?_;simp (disch:=omega) only [go_sem,↓reduceIte,reduceCtorEq,zfo,zfn,zeg,List.length_append,ze];(repeat' (first|((first|refine zj ?_ ?_|refine And.intro ?_ ?_)<;>intro h<;>(try simp only [nqb] at h)<;>simp (disch:=omega) only [go_sem,↓reduceIte,reduceCtorEq,zfo,zfn,zeg,List.length_append,ze,h])|((first|refine VCx.call (zjN _ _ hia) rfl ?_|refine VCx.call (zjN _ _ hie) rfl ?_);simp (disch:=omega) only [go_sem,↓reduceIte,reduceCtorEq,zfo,zfn,zeg,List.length_append,ze])))
 all_goals (refine hK _ _ ?_;clear hK K)
 all_goals exact PW.ret ⟨_,rfl,Fin.base (.id' (by simp_all [zbM,slot,Nat.beq]) (.bool _))⟩
theorem znM (s:Sq) (H:za) (hs:SqOk s):CallOk Tryz.prog 20 [.agg (sqc s)] H (.bool (zbM s)) H:=by
 obtain ⟨hw,hh,hnum,hden,hbr,hbf,hia,hie⟩:=hs
 have hall:(bs s.ia++bs s.ie).all PV.cell=true:=by simp [bs,PV.cell]
 refine CallOk.body (F0:=[(0,.agg (sqc s))]) Tryz.func20 rfl Tryz.ntmps20 Tryz.results20 rfl (by kernel_rfl) rfl ?_
 refine PW.f (fun K k=>by simp (disch:=omega) only [go_sem,↓reduceIte,reduceCtorEq,sqc,hall];exact k) ?_
 refine PW.seq (PW.seq (PW.rgv [1] 42 (.bool (!vsz s)) rfl ?_ ?_))
 ·simp (disch:=omega) only [go_sem,↓reduceIte,reduceCtorEq];(repeat' ((first|refine zj ?_ ?_|refine zn ?_ ?_|refine zN ?_ ?_|refine VOh_cond ?_ ?_|refine zM ?_ ?_|refine And.intro ?_ ?_)<;>intro h<;>(try simp only [nqb] at h)<;>simp (disch:=omega) only [go_sem,↓reduceIte,reduceCtorEq,h]))
  all_goals (simp_all [vsz,mbs,slot,Nat.beq]<;>first|rfl|omega|(rw [Bool.eq_iff_iff];simp;done)|(rw [Bool.eq_iff_iff];simp;omega))
 (repeat refine PW.seq ?_);refine PW.cond (t:=_) rfl (fun h=> ?_) (fun h=> ?_)
 ·have h1:vsz s=false:=by simpa using h
  refine PW.e ?_
  exact PW.ret ⟨_,rfl,Fin.base (.id' (by simp [zbM,h1,slot,Nat.beq]) (.bool _))⟩
 have h1:vsz s=true:=by simpa using h
 refine PW.skip (PW.seq (PW.seq (PW.rgv [1] 64 (.bool (!vrt s)) rfl ?_ ?_)))
 ·simp (disch:=omega) only [go_sem,↓reduceIte,reduceCtorEq];(repeat' (first|((first|refine zj ?_ ?_|refine zn ?_ ?_|refine zN ?_ ?_|refine VOh_cond ?_ ?_|refine zM ?_ ?_|refine And.intro ?_ ?_)<;>intro h<;>(try simp only [nqb] at h)<;>simp (disch:=omega) only [go_sem,↓reduceIte,reduceCtorEq,h])|((first|refine VCx.call (zej _ _ _ hnum hden) rfl ?_|refine VCy.call (zej _ _ _ hnum hden) rfl ?_|refine VCz.call (fun _=>zej _ _ _ hnum hden) rfl ?_|refine VCk.call (fun _ _=>zej _ _ _ hnum hden) rfl ?_|refine VCj.now (zej _ _ _ hnum hden) rfl ?_);simp (disch:=omega) only [go_sem,↓reduceIte,reduceCtorEq])))
  all_goals (simp_all [vrt,slot,Nat.beq]<;>first|rfl|omega|(rw [Bool.eq_iff_iff];simp;done)|(rw [Bool.eq_iff_iff];simp;omega))
 (repeat refine PW.seq ?_);refine PW.cond (t:=_) rfl (fun h=> ?_) (fun h=> ?_)
 ·have h2:vrt s=false:=by simpa using h
  refine PW.e ?_
  exact PW.ret ⟨_,rfl,Fin.base (.id' (by simp [zbM,h1,h2,slot,Nat.beq]) (.bool _))⟩
 have h2:vrt s=true:=by simpa using h
 refine PW.skip (PW.seq (PW.seq (PW.rgv [1] 82 (.bool (!vbr s)) rfl ?_ ?_)))
 ·simp (disch:=omega) only [go_sem,↓reduceIte,reduceCtorEq];(repeat' ((first|refine zj ?_ ?_|refine zn ?_ ?_|refine zN ?_ ?_|refine VOh_cond ?_ ?_|refine zM ?_ ?_|refine And.intro ?_ ?_)<;>intro h<;>(try simp only [nqb] at h)<;>simp (disch:=omega) only [go_sem,↓reduceIte,reduceCtorEq,h]))
  all_goals (simp_all [vbr,slot,Nat.beq]<;>first|rfl|omega|(rw [Bool.eq_iff_iff];simp;done)|(rw [Bool.eq_iff_iff];simp;omega))
 (repeat refine PW.seq ?_);refine PW.cond (t:=_) rfl (fun h=> ?_) (fun h=> ?_)
 ·have h3:vbr s=false:=by simpa using h
  refine PW.e ?_
  exact PW.ret ⟨_,rfl,Fin.base (.id' (by simp [zbM,h1,h2,h3,slot,Nat.beq]) (.bool _))⟩
 have h3:vbr s=true:=by simpa using h
 have h2':=h2
 have h3':=h3
 simp only [vrt,vbr,Bool.and_eq_true,decide_eq_true_eq] at h2' h3'
 have hdp:=zhB h2'.1.1.1
 have hb1:=zfN (a:=2 * s.num) (b:=s.bf) (A:=2097152) (B:=8388608) (by omega) (by omega) (by omega) (by omega)
 have hb2:=zfN (a:=3 * s.den) (b:=s.br) (A:=196608) (B:=16777216) (by omega) (by omega) (by omega) (by omega)
 refine PW.skip ?_
 refine PW.e ?_
 (repeat refine PW.seq ?_);refine PW.cond (t:=_) rfl (fun h=> ?_) (fun h=> ?_)
 ·have h4:vbu s=false:=by have:=of_decide_eq_true h;simp [vbu];omega
  refine PW.e ?_
  exact PW.ret ⟨_,rfl,Fin.base (.id' (by simp [zbM,h1,h2,h3,h4,slot,Nat.beq]) (.bool _))⟩
 have h4:vbu s=true:=by have:=of_decide_eq_false h;simp [vbu];omega
 refine PW.skip ?_
 (repeat refine PW.seq ?_);refine PW.rg rfl fun K hK=> ?_;simp (disch:=omega) only [go_sem,↓reduceIte,reduceCtorEq,zfo,zfn,zeg,List.length_append,ze];(repeat' (first|((first|refine zj ?_ ?_|refine And.intro ?_ ?_)<;>intro h<;>(try simp only [nqb] at h)<;>simp (disch:=omega) only [go_sem,↓reduceIte,reduceCtorEq,zfo,zfn,zeg,List.length_append,ze,h])|((first|refine VCx.call (zpp _ _ hia) rfl ?_|refine VCx.call (zpp _ _ hie) rfl ?_);simp (disch:=omega) only [go_sem,↓reduceIte,reduceCtorEq,zfo,zfn,zeg,List.length_append,ze])))
 all_goals (refine hK _ _ ?_;clear hK K)
 all_goals exact PW.ret ⟨_,rfl,Fin.base (.id' (by simp_all [zbM,slot,Nat.beq]) (.bool _))⟩
structure Pi where
 ty:Int
 st:Int
 od:Int
 tf:Bool
 rp:Bool
 al:Bool
def pic (h:Pi):List PV:=[.int .i64 h.ty,.int .i64 h.st,.int .i64 h.od,.bool h.tf,.bool h.rp,.bool h.al]
def zsw (h:Pi):Bool:=decide (0≤h.od)&&decide (h.od≤1023)&&decide (1≤h.ty)&&decide (h.ty≤3)&&decide (1≤h.st)&&decide (h.st≤3)
theorem zmD (h:Pi) (H:za):CallOk Tryz.prog 127 [.agg (pic h)] H (.bool (zsw h)) H:=by
 obtain ⟨ty,st,od,tf,rp,al⟩:=h
 refine CallOk.body (F0:=[(0,.agg (pic ⟨ty,st,od,tf,rp,al⟩))]) Tryz.func127 rfl Tryz.ntmps127 Tryz.results127 rfl (by kernel_rfl) rfl ?_
 (repeat' (first|refine PW.seq ?_|refine PW.skip ?_|refine PW.block ?_|((first|refine PW.rg rfl fun K hK=> ?_|refine PW.draw mix (by kernel_rfl) fun K hK=> ?_);simp (disch:=omega) only [go_sem,↓reduceIte,reduceCtorEq,pic])|((first|refine zj ?_ ?_|refine zn ?_ ?_|refine And.intro ?_ ?_)<;>intro h<;>(try simp only [nqb] at h)<;>simp (disch:=omega) only [go_sem,↓reduceIte,reduceCtorEq,pic,h])|(refine hK _ _ ?_;clear hK K)|(refine PW.cond (t:=_) rfl (fun h=> ?_) (fun h=> ?_)<;>(try (cases h;done))<;>(try simp only [nqb] at h))))
 all_goals ((refine PW.ret ⟨_,rfl,?_⟩;first|refine .inl ⟨?_,rfl⟩|refine Fin.base (.id' ?_ (.bool _))|refine Fin.base (.id' ?_ (.int _ _)));(simp_all [zsw,slot,Nat.beq]<;>first|rfl|omega|(rw [Bool.eq_iff_iff];simp;done)|(rw [Bool.eq_iff_iff];simp;omega)))
def zL (s:Sq) (p:Pi):Bool:=zbM s&&zsw p&&(s.il||((p.st==3)&&p.tf&& !p.rp))
theorem zcy (s:Sq) (p:Pi) (H:za) (hs:SqOk s):CallOk Tryz.prog 67 [.agg (sqc s),.agg (pic p)] H (.bool (zL s p)) H:=by
 have hall:(bs s.ia++bs s.ie).all PV.cell=true:=by simp [bs,PV.cell]
 have hlen:(bs s.ia++bs s.ie).length=128:=by simp [ze,hs.ia,hs.ie]
 have htk:=zoj s.ia s.ie hs.ia hs.ie
 refine CallOk.body (F0:=[(0,.agg (sqc s)),(1,.agg (pic p))]) Tryz.func67 rfl Tryz.ntmps67 Tryz.results67 rfl (by kernel_rfl) rfl ?_
 (repeat' (first|refine PW.seq ?_|refine PW.skip ?_|refine PW.block ?_|((first|refine PW.rg rfl fun K hK=> ?_|refine PW.draw mix (by kernel_rfl) fun K hK=> ?_);simp (disch:=omega) only [go_sem,↓reduceIte,reduceCtorEq,sqc,pic,hall,hlen,htk])|((first|refine zj ?_ ?_|refine zn ?_ ?_|refine And.intro ?_ ?_)<;>intro h<;>(try simp only [nqb] at h)<;>simp (disch:=omega) only [go_sem,↓reduceIte,reduceCtorEq,sqc,pic,hall,hlen,htk,h])|((first|refine VCx.call (zhU s _ hs) rfl ?_|refine VCx.call (zmD p _) rfl ?_|refine VCy.call (zhU s _ hs) rfl ?_|refine VCy.call (zmD p _) rfl ?_);simp (disch:=omega) only [go_sem,↓reduceIte,reduceCtorEq,sqc,pic,hall,hlen,htk])|(refine hK _ _ ?_;clear hK K)|(refine PW.cond (t:=_) rfl (fun h=> ?_) (fun h=> ?_)<;>(try (cases h;done))<;>(try simp only [nqb] at h))))
 all_goals ((refine PW.ret ⟨_,rfl,?_⟩;first|refine .inl ⟨?_,rfl⟩|refine Fin.base (.id' ?_ (.bool _))|refine Fin.base (.id' ?_ (.int _ _)));(simp_all [zL,slot,Nat.beq]<;>first|rfl|omega|(rw [Bool.eq_iff_iff];simp;done)|(rw [Bool.eq_iff_iff];simp;omega)))
theorem ztz {s:Sq} (h:zbM s=true):16≤s.h∧s.h≤64∧16≤s.w∧s.w≤64:=by
 simp [zbM,vsz,mbs] at h
 omega
theorem zba {s:Sq} {p:Pi} (hv:zL s p=true):16≤s.h∧s.h≤64∧16≤s.w∧s.w≤64:=by
 simp only [zL,Bool.and_eq_true] at hv
 exact ztz hv.1.1
def hgt (s:Sq) (p:Pi):Int:=if p.st=3 then s.h else s.h.tdiv 2
theorem zk8 (s:Sq) (p:Pi) (H:za) (hs:SqOk s) (hv:0≤s.h):CallOk Tryz.prog 112 [.agg (sqc s),.agg (pic p)] H (.int .i64 (hgt s p)) H:=by
 have hall:(bs s.ia++bs s.ie).all PV.cell=true:=by simp [bs,PV.cell]
 have hlen:(bs s.ia++bs s.ie).length=128:=by simp [ze,hs.ia,hs.ie]
 have hh:=hs.h
 refine CallOk.body (F0:=[(0,.agg (sqc s)),(1,.agg (pic p))]) Tryz.func112 rfl Tryz.ntmps112 Tryz.results112 rfl (by kernel_rfl) rfl ?_
 (repeat' (first|refine PW.seq ?_|refine PW.skip ?_|refine PW.block ?_|((first|refine PW.rg rfl fun K hK=> ?_|refine PW.draw mix (by kernel_rfl) fun K hK=> ?_);simp (disch:=omega) only [go_sem,↓reduceIte,reduceCtorEq,sqc,pic,hall,hlen,zkj])|((first|refine zj ?_ ?_|refine zn ?_ ?_|refine And.intro ?_ ?_)<;>intro h<;>(try simp only [nqb] at h)<;>simp (disch:=omega) only [go_sem,↓reduceIte,reduceCtorEq,sqc,pic,hall,hlen,zkj,h])|(refine hK _ _ ?_;clear hK K)|(refine PW.cond (t:=_) rfl (fun h=> ?_) (fun h=> ?_)<;>(try (cases h;done))<;>(try simp only [nqb] at h))))
 all_goals ((refine PW.ret ⟨_,rfl,?_⟩;first|refine .inl ⟨?_,rfl⟩|refine Fin.base (.id' ?_ (.bool _))|refine Fin.base (.id' ?_ (.int _ _)));(simp_all [hgt,slot,Nat.beq]<;>first|rfl|omega|(rw [Bool.eq_iff_iff];simp;done)|(rw [Bool.eq_iff_iff];simp;omega)))
def za2 (s:Sq) (p:Pi):Int:=if zL s p then (if p.st=3 then s.h.tdiv 16 else s.h.tdiv 32) else 0
theorem zjr (s:Sq) (p:Pi) (H:za) (hs:SqOk s):CallOk Tryz.prog 58 [.agg (sqc s),.agg (pic p)] H (.int .i64 (za2 s p)) H:=by
 have hall:(bs s.ia++bs s.ie).all PV.cell=true:=by simp [bs,PV.cell]
 have hlen:(bs s.ia++bs s.ie).length=128:=by simp [ze,hs.ia,hs.ie]
 have htk:=zoj s.ia s.ie hs.ia hs.ie
 refine CallOk.body (F0:=[(0,.agg (sqc s)),(1,.agg (pic p))]) Tryz.func58 rfl Tryz.ntmps58 Tryz.results58 rfl (by kernel_rfl) rfl ?_
 cases hp:zL s p with
 | false=>
  have hpv:=fun H=>zcy s p H hs
  rw [hp] at hpv
  (repeat' (first|refine PW.seq ?_|refine PW.skip ?_|refine PW.block ?_|((first|refine PW.rg rfl fun K hK=> ?_|refine PW.draw mix (by kernel_rfl) fun K hK=> ?_);simp (disch:=omega) only [go_sem,↓reduceIte,reduceCtorEq,sqc,pic,hall,hlen,htk])|((first|refine zj ?_ ?_|refine zn ?_ ?_|refine And.intro ?_ ?_)<;>intro h<;>(try simp only [nqb] at h)<;>simp (disch:=omega) only [go_sem,↓reduceIte,reduceCtorEq,sqc,pic,hall,hlen,htk,h])|((first|refine VCx.call (hpv _) rfl ?_|refine VCy.call (hpv _) rfl ?_);simp (disch:=omega) only [go_sem,↓reduceIte,reduceCtorEq,sqc,pic,hall,hlen,htk])|(refine hK _ _ ?_;clear hK K)|(refine PW.cond (t:=_) rfl (fun h=> ?_) (fun h=> ?_)<;>(try (cases h;done))<;>(try simp only [nqb] at h))))
  all_goals ((refine PW.ret ⟨_,rfl,?_⟩;first|refine .inl ⟨?_,rfl⟩|refine Fin.base (.id' ?_ (.bool _))|refine Fin.base (.id' ?_ (.int _ _)));simp [za2,hp,slot,Nat.beq])
 | true=>
  have hpv:=fun H=>zcy s p H hs
  rw [hp] at hpv
  have hh:=zba hp
  have hg:0≤hgt s p∧hgt s p≤64:=by
   unfold hgt;rw [zx _ _ (by omega)];split<;>omega
  (repeat' (first|refine PW.seq ?_|refine PW.skip ?_|refine PW.block ?_|((first|refine PW.rg rfl fun K hK=> ?_|refine PW.draw mix (by kernel_rfl) fun K hK=> ?_);simp (disch:=omega) only [go_sem,↓reduceIte,reduceCtorEq,sqc,pic,hall,hlen,htk,zkj])|((first|refine zj ?_ ?_|refine zn ?_ ?_|refine And.intro ?_ ?_)<;>intro h<;>(try simp only [nqb] at h)<;>simp (disch:=omega) only [go_sem,↓reduceIte,reduceCtorEq,sqc,pic,hall,hlen,htk,zkj,h])|((first|refine VCx.call (hpv _) rfl ?_|refine VCx.call (zk8 s p _ hs (by omega)) rfl ?_|refine VCy.call (hpv _) rfl ?_|refine VCy.call (zk8 s p _ hs (by omega)) rfl ?_);simp (disch:=omega) only [go_sem,↓reduceIte,reduceCtorEq,sqc,pic,hall,hlen,htk,zkj])|(refine hK _ _ ?_;clear hK K)|(refine PW.cond (t:=_) rfl (fun h=> ?_) (fun h=> ?_)<;>(try (cases h;done))<;>(try simp only [nqb] at h))))
  all_goals ((refine PW.ret ⟨_,rfl,?_⟩;first|refine .inl ⟨?_,rfl⟩|refine Fin.base (.id' ?_ (.bool _))|refine Fin.base (.id' ?_ (.int _ _)));simp [za2,hp,slot,Nat.beq])
  simp only [hgt,zx _ _ (show 0≤s.h by omega)]
  rw [zx _ _ (by split<;>omega)]
  split<;>omega
end Go.Proofs.YtjgmdlcjbgiekaaGreatDoor.Sc
namespace Go.Proofs.YtjgmdlcjbgiekaaGreatDoor.Lp
set_option linter.all false
open Go.ChangeShapes Go.WideShapes Go.ChangeAt Go.RowKit Pm Sc
theorem own:ownKnob Tryz.prog.godebug=none:=by kernel_rfl
theorem zrY:laidOutB Tryz.prog=true:=by kernel_rfl
theorem zka {zs:List Int} (hw:∀ z∈zs,(Lit.int .u8 z).wf=true):∃ p:List UInt8,zs.map (PV.int .u8)=bs p∧p.length=zs.length:=by
 refine ⟨zs.map fun z=>UInt8.ofNat z.toNat,?_,by simp⟩
 simp only [bs,List.map_map]
 refine List.map_congr_left fun z hz=> ?_
 have h1:=hw z hz
 simp [Lit.wf,IntKind.min,IntKind.max,IntKind.signed,IntKind.bits] at h1
 simp only [Function.comp,UInt8.toNat_ofNat']
 congr 1
 omega
theorem zhv {ps:List PV} (h:Shp Tryz.prog 31 ps):∃ p:List UInt8,ps=[.slice (bs p) p.length false]:=by
 obtain ⟨zs,rfl,_,hw⟩:=h.of_ints Tryz.underlying31 Tryz.underlying5
 obtain ⟨p,e,hl⟩:=zka hw
 exact ⟨p,by rw [e,hl]⟩
theorem zot {ps:List PV} (h:Shp Tryz.prog 27 ps):∃ p:List UInt8,ps=bs p∧p.length=64:=by
 obtain ⟨zs,rfl,hl,hw⟩:=h.arr_ints Tryz.underlying27 Tryz.underlying5
 obtain ⟨p,e,hl'⟩:=zka hw
 exact ⟨p,e,by omega⟩
theorem za1 {ps:List PV} (h:Shp Tryz.prog 3 ps):∃ n:Int,ps=[.int .i64 n]∧(-9223372036854775808≤n∧n≤9223372036854775807):=by
 obtain ⟨n,rfl,hw⟩:=h.of_int Tryz.underlying3
 simp [Lit.wf,IntKind.min,IntKind.max,IntKind.signed,IntKind.bits] at hw
 exact ⟨n,rfl,hw⟩
theorem zhu {ps:List PV} (h:Shp Tryz.prog 2 ps):∃ n:Int,ps=[.int .i64 n]∧(-9223372036854775808≤n∧n≤9223372036854775807):=by
 obtain ⟨n,rfl,hw⟩:=h.of_int Tryz.underlying2
 simp [Lit.wf,IntKind.min,IntKind.max,IntKind.signed,IntKind.bits] at hw
 exact ⟨n,rfl,hw⟩
theorem zcv {ps:List PV} (h:Shp Tryz.prog 4 ps):∃ b,ps=[.bool b]:=h.of_bool Tryz.underlying4
theorem zrf {ps:List PV} (h:Shp Tryz.prog 26 ps):∃ a b:Int,ps=[.int .i64 a,.int .i64 b]∧(-9223372036854775808≤a∧a≤9223372036854775807)∧(-9223372036854775808≤b∧b≤9223372036854775807):=by
 obtain ⟨pss,rfl,hf⟩:=h.fields Tryz.underlying26
 match pss,hf with
 | [a,b],⟨ha,hb,_⟩=>
  obtain ⟨a,rfl,h1⟩:=zhu ha
  obtain ⟨b,rfl,h2⟩:=zhu hb
  exact ⟨a,b,rfl,h1,h2⟩
theorem zlM {ps:List PV} (h:Shp Tryz.prog 29 ps):∃ s:Sq,ps=sqc s∧SqOk s:=by
 obtain ⟨pss,rfl,hf⟩:=h.fields Tryz.underlying29
 match pss,hf with
 | [a,b,c,d,e,f,g,k],⟨ha,hb,hc,hd,he,hf,hg,hk,_⟩=>
  obtain ⟨a,rfl,h1⟩:=za1 ha
  obtain ⟨b,rfl,h2⟩:=za1 hb
  obtain ⟨n,m,rfl,h3,h4⟩:=zrf hc
  obtain ⟨d,rfl⟩:=zcv hd
  obtain ⟨e,rfl,h5⟩:=za1 he
  obtain ⟨f,rfl,h6⟩:=za1 hf
  obtain ⟨p,rfl,h7⟩:=zot hg
  obtain ⟨q,rfl,h8⟩:=zot hk
  exact ⟨⟨a,b,n,m,d,e,f,p,q⟩,by simp [sqc],⟨h1,h2,h3,h4,h5,h6,h7,h8⟩⟩
theorem zrg {ps:List PV} (h:Shp Tryz.prog 35 ps):∃ p:Pi,ps=pic p∧(-9223372036854775808≤p.ty∧p.ty≤9223372036854775807)∧(-9223372036854775808≤p.st∧p.st≤9223372036854775807)∧(-9223372036854775808≤p.od∧p.od≤9223372036854775807):=by
 obtain ⟨pss,rfl,hf⟩:=h.fields Tryz.underlying35
 match pss,hf with
 | [a,b,c,d,e,f],⟨ha,hb,hc,hd,he,hf,_⟩=>
  obtain ⟨a,rfl,h1⟩:=za1 ha
  obtain ⟨b,rfl,h2⟩:=za1 hb
  obtain ⟨c,rfl,h3⟩:=za1 hc
  obtain ⟨d,rfl⟩:=zcv hd
  obtain ⟨e,rfl⟩:=zcv he
  obtain ⟨f,rfl⟩:=zcv hf
  exact ⟨⟨a,b,c,d,e,f⟩,rfl,h1,h2,h3⟩
theorem zos {ps:List PV} (h:Shp Tryz.prog 61 ps):∃ (t:Int) (p:List UInt8),ps=[.int .i64 t,.slice (bs p) p.length false]∧(-9223372036854775808≤t∧t≤9223372036854775807):=by
 obtain ⟨pss,rfl,hf⟩:=h.fields Tryz.underlying61
 match pss,hf with
 | [a,b],⟨ha,hb,_⟩=>
  obtain ⟨a,rfl,h1⟩:=za1 ha
  obtain ⟨p,rfl⟩:=zhv hb
  exact ⟨a,p,rfl,h1⟩
end Go.Proofs.YtjgmdlcjbgiekaaGreatDoor.Lp
namespace Go.Proofs.YtjgmdlcjbgiekaaGreatDoor.Sc
set_option linter.all false
open Pm Ty Go.RowKit
def zsW (V n:Nat):List Bool:=(List.range n).map fun i=>decide (V / 2^(n - 1 - i)%2=1)
def two (H:za) (i j:Nat) (A B:Blk):za:=(H.set i A).set j B
theorem za9 {H:za} {i:Nat} {A:Blk} (h:H[i]? =some A):H.set i A=H:=by
 apply List.ext_getElem?
 intro j
 rw [List.getElem?_set]
 split
 ·rename_i e;subst e
  split
  ·exact h.symm
  ·rename_i hn;exact absurd (List.getElem?_eq_some_iff.1 h).1 hn
 ·rfl
theorem zvy (x:Nat):(x:Int).tmod 8=((x%8:Nat):Int):=zlC x 8
theorem zvA (x:Nat):(x:Int).tdiv 8=((x / 8:Nat):Int):=zs1 x 8
end Go.Proofs.YtjgmdlcjbgiekaaGreatDoor.Sc
