/-
  Parts of the proof, put together in one text. No condition.
-/
import Derived.Test.YtjgmdlcjbgiekaaGreatDoorQ08
namespace Go.Proofs.YtjgmdlcjbgiekaaGreatDoor.Pm
set_option linter.all false
open Go.RowKit
variable {P:Program} {C:Ctx} {H:za} {w:World} {F:Fr} {a:Act} {N:Nat}
def zac (ds:List (Option Nat)) (F:Fr) (o:Oper):Option Bool:=
 match o.guard with
 | none=>some true
 | some (j,b)=>match ds[j]? with
  | some (some d)=>match slot F d with
   | .bool x=>some (x==b)
   | .tup []=>some false
   | _=>none
  | _=>none
theorem zu (all:List Oper) (F:Fr) (o:Oper) {b:Bool} (h:zac (all.map (·.dst)) F o=some b):za7 all (slot F) o=some b:=by
 unfold zac at h
 unfold za7
 split at h
 ·rename_i hg;rw [hg];exact h
 ·rename_i j t hg
  rw [hg]
  simp only
  split at h
  ·rename_i d hd
   have:(all[j]?).bind (·.dst)=some d:=by
    rw [List.getElem?_map] at hd
    cases hj:all[j]? with
    | none=>rw [hj] at hd;cases hd
    | some o'=>rw [hj] at hd;simpa using hd
   rw [this]
   exact h
  ·cases h
def stp (P:Program) (ds:List (Option Nat)) (o:Oper) (F:Fr) (H:za):Option (Fr×za):=
 match zac ds F o with
 | some true=>match pop P o.op (slot F) H with
  | some (v,H')=>some (put F o.dst v,H')
  | none=>none
 | some false=>some (put F o.dst (.tup []),H)
 | none=>none
def zJ:Op→Bool
 | .call { callee:=.value _,.. }=>true
 | _=>false
def VC (P:Program) (ds:List (Option Nat)) (o:Oper) (F:Fr) (H:za) (K:Fr→za→Prop):Prop:=
 match zac ds F o with
 | some true=>match zr o.op (slot F) with
  | some (g,args)=>∃ R,CallEx P g args H R∧∀ v H',R v H'→K (put F o.dst v) H'
  | none=>False
 | some false=>K (put F o.dst (.tup [])) H
 | none=>False
def VO (P:Program) (ds:List (Option Nat)):List Oper→Option (Fr×za)→(Fr→za→Prop)→Prop
 | _,none,_=>False
 | [],some (F,H),K=>K F H
 | o::r,some (F,H),K=>match zJ o.op with
  | false=>VO P ds r (stp P ds o F H) K
  | true=>VC P ds o F H fun F' H'=>VO P ds r (some (F',H')) K
def VR (P:Program) (ds:List (Option Nat)) (r:List Oper) (K:Fr→za→Prop) (F:Fr) (H:za):Prop:=VO P ds r (some (F,H)) K
theorem zvg (ds:List (Option Nat)) (K:Fr→za→Prop) (F:Fr) (H:za):VO P ds [] (some (F,H)) K=K F H:=rfl
theorem zi2 (ds:List (Option Nat)) (l:List Oper) (K:Fr→za→Prop):VO P ds l none K=False:=by cases l<;>rfl
theorem zmO {ds:List (Option Nat)} {o:Oper} {r:List Oper} {K:Fr→za→Prop} {F:Fr} {H:za} (h:zJ o.op=false):VO P ds (o::r) (some (F,H)) K=VO P ds r (stp P ds o F H) K:=by
 simp only [VO,h]
theorem zeJ {ds:List (Option Nat)} {o:Oper} {r:List Oper} {K:Fr→za→Prop} {F:Fr} {H:za} (h:zJ o.op=true):VO P ds (o::r) (some (F,H)) K=VC P ds o F H (VR P ds r K):=by
 simp only [VO,h]
 rfl
theorem zsR (ds:List (Option Nat)) (o:Oper) (r:List Oper) (K:Fr→za→Prop) (F:Fr) (H:za):
  VO P ds (o::r) (some (F,H)) K=match zJ o.op with|false=>VO P ds r (stp P ds o F H) K|true=>VC P ds o F H (VR P ds r K):=by
 cases h:zJ o.op with
 | false=>exact zmO h
 | true=>exact zeJ h
theorem VC.call {ds:List (Option Nat)} {o:Oper} {K:Fr→za→Prop} {g:FuncId} {args:List PV} {v:PV} {H':za} (h:CallOk P g args H v H') (hw:zac ds F o=some true) (hc:zr o.op (slot F)=some (g,args))
  (hk:K (put F o.dst v) H'):VC P ds o F H K:=by
 unfold VC
 rw [hw]
 simp only [hc]
 exact ⟨_,h.toEx,fun v' H'' e=>by rw [e.1,e.2];exact hk⟩
theorem VC.callR {ds:List (Option Nat)} {o:Oper} {K:Fr→za→Prop} {g:FuncId} {args:List PV} {R:PV→za→Prop} (h:CallEx P g args H R) (hw:zac ds F o=some true) (hc:zr o.op (slot F)=some (g,args))
  (hk:∀ v H',R v H'→K (put F o.dst v) H'):VC P ds o F H K:=by
 unfold VC
 rw [hw]
 simp only [hc]
 exact ⟨R,h,hk⟩
theorem zag {all:List Oper} {K:Fr→za→Prop}:∀ (l:List Oper) (F:Fr) (H:za),VO P (all.map (·.dst)) l (some (F,H)) K→zbj P all l K F H
 | [],F,H,h=>h
 | o::r,F,H,h=>by
  have hcl:zJ o.op=false→zr o.op (slot F)=none:=fun hc=>by
   unfold zr
   split
   ·rename_i f args ts ho;rw [ho] at hc;simp [zJ] at hc
   ·rfl
  cases hc:zJ o.op with
  | false=>
   rw [zmO hc] at h
   unfold stp at h
   split at h
   ·rename_i hb
    simp only [zbj,zu all F o hb,true_implies,reduceCtorEq,false_implies,and_true,hcl hc]
    split at h
    ·rename_i v H' hp
     simp only [hp]
     exact zag r _ _ h
    ·rw [zi2] at h;exact h.elim
   ·rename_i hb
    simp only [zbj,zu all F o hb,true_implies,reduceCtorEq,false_implies,true_and]
    exact zag r _ _ h
   ·rw [zi2] at h;exact h.elim
  | true=>
   rw [zeJ hc] at h
   unfold VC at h
   split at h
   ·rename_i hb
    simp only [zbj,zu all F o hb,true_implies,reduceCtorEq,false_implies,and_true]
    split at h
    ·rename_i g args hp
     obtain ⟨R,h1,h2⟩:=h
     simp only [hp]
     exact ⟨R,h1,fun v H' hR=>zag r _ _ (h2 v H' hR)⟩
    ·exact h.elim
   ·rename_i hb
    simp only [zbj,zu all F o hb,true_implies,reduceCtorEq,false_implies,true_and]
    exact zag r _ _ h
   ·exact h.elim
section rules
variable {E:Env} {Q:Exit→Fr→za→Prop}
theorem PW.rg {id:Nat} {ops:Array Oper} (hd:ops.toList.all (zR E.N)=true) (h:∀ K:Fr→za→Prop,(∀ F' H',Q .normal F' H'→K F' H')→VO P (ops.toList.map (·.dst)) ops.toList (some (F,H)) K):
  PW P E (.region id ops false) F H Q:=PW.region hd (zag _ _ _ (h _ fun _ _ h=>h))
theorem PW.rg1 {id:Nat} {ops:Array Oper} (ks:List Nat) (F1:Fr) (H1:za) (hd:ops.toList.all (zR E.N)=true) (h:VO P (ops.toList.map (·.dst)) ops.toList (some (F,H)) (fun F' H'=>kp ks F'=F1∧H'=H1)) (hq:Q .normal F1 H1):
  PW P E (.region id ops false) F H Q:=PW.region_to ks F1 H1 hd (zag _ _ _ h) hq
end rules
theorem PW.join {E:Env} {Q:Exit→Fr→za→Prop} {x y:Code} (ks:List Nat) (J:Fr→za→Prop) (h:PW P E x F H (zgf (fun F' H'=>J (kp ks F') H') Q)) (hj:∀ F' H',J F' H'→PW P E y F' H' Q):PW P E (.seq x y) F H Q:=
 PW.seq (h.mono fun e F' H' hq=>by
  cases e with
  | normal=>exact (hj _ _ hq).keep ks
  | _=>exact hq)
theorem hp0 (H K:za) (b:Blk):(H++b::K)[H.length]? =some b:=by simp
theorem hp1 (H K:za) (a b:Blk):(H++a::b::K)[H.length+1]? =some b:=by rw [List.getElem?_append_right (by omega)];simp
theorem hp2 (H K:za) (a b c:Blk):(H++a::b::c::K)[H.length+2]? =some c:=by rw [List.getElem?_append_right (by omega)];simp
theorem hp3 (H K:za) (a b c d:Blk):(H++a::b::c::d::K)[H.length+3]? =some d:=by rw [List.getElem?_append_right (by omega)];simp
theorem hs0 (H K:za) (b x:Blk):(H++b::K).set H.length x=H++x::K:=by simp
theorem hs1 (H K:za) (a b x:Blk):(H++a::b::K).set (H.length+1) x=H++a::x::K:=by rw [List.set_append_right _ _ (by omega)];simp
theorem hs2 (H K:za) (a b c x:Blk):(H++a::b::c::K).set (H.length+2) x=H++a::b::x::K:=by rw [List.set_append_right _ _ (by omega)];simp
theorem hl1 (H:za) (a:Blk):(H++[a]).length=H.length+1:=by simp
theorem hl2 (H:za) (a b:Blk):(H++[a,b]).length=H.length+2:=by simp
theorem hl3 (H:za) (a b c:Blk):(H++[a,b,c]).length=H.length+3:=by simp
theorem zut {α:Type} {c:Prop} [Decidable c] (x y:α) (h:c):(if c then x else y)=x:=if_pos h
theorem zuu {α:Type} {c:Prop} [Decidable c] (x y:α) (h:¬ c):(if c then x else y)=y:=if_neg h
theorem zwK {c:Prop} [Decidable c] (h:c):decide c=true:=decide_eq_true h
theorem zwL {c:Prop} [Decidable c] (h:¬ c):decide c=false:=decide_eq_false h
theorem zwU {a b:Int} (h:a=b):(a==b)=true:=by simp [h]
theorem zwV {a b:Int} (h:¬ a=b):(a==b)=false:=by simp [h]
theorem zwQ {a b:Int} (h:¬ a=b):(a !=b)=true:=by simp [h]
theorem zwR {a b:Int} (h:a=b):(a !=b)=false:=by simp [h]
theorem w64 (n:Int) (h: -9223372036854775808≤n∧n≤9223372036854775807):IntKind.i64.wrap n=n:=IntWalk.i64_in n h
theorem w8 (n:Int) (h:0≤n∧n≤255):IntKind.u8.wrap n=n:=IntWalk.u8_in n h
theorem w32 (n:Int) (h:0≤n∧n≤4294967295):IntKind.u32.wrap n=n:=IntWalk.u32_in n h
def own:PV→Option Nat
 | .msl id _ _ _ _ _=>some id
 | _=>none
def Acc (B e sz:Nat) (H:za) (v:PV) (xs:List PV) (n:Nat):Prop:=
 xs.length=n * sz∧(v= .slice xs n true∨∃ id ver,B≤id∧v= .msl id ver 0 n sz true∧H[id]? =some ⟨e,ver,xs⟩∧ver≤xs.length)
theorem Acc.nil (B e sz:Nat) (H:za):Acc B e sz H (.slice [] 0 true) [] 0:=⟨by simp,.inl rfl⟩
def Kept (B:Nat) (H H1:za):Prop:=B≤H1.length∧∀ j,j<B→H1[j]? =H[j]?
theorem Kept.refl (H:za):Kept H.length H H:=⟨Nat.le_refl _,fun _ _=>rfl⟩
theorem Kept.more (H K:za):Kept H.length H (H++K):=⟨by simp,fun j hj=>List.getElem?_append_left hj⟩
theorem Kept.split {H H1:za} (h:Kept H.length H H1):H1=H++H1.drop H.length:=by
 apply List.ext_getElem?
 intro j
 by_cases hj:j<H.length
 ·rw [List.getElem?_append_left hj];exact h.2 j hj
 ·rw [List.getElem?_append_right (by omega),List.getElem?_drop]
  congr 1
  omega
theorem Kept.trans {B:Nat} {H H1 H2:za} (h:Kept B H H1) (h':Kept B H1 H2):Kept B H H2:=⟨h'.1,fun j hj=>(h'.2 j hj).trans (h.2 j hj)⟩
structure Grew (H H2:za) (o:Option Nat):Prop where
 len:H.length≤H2.length
 other:∀ j,j<H.length→o≠some j→H2[j]? =H[j]?
theorem Kept.grew {B:Nat} {H H1 H2:za} {o:Option Nat} (h:Kept B H H1) (g:Grew H1 H2 o) (ho:∀ j,o=some j→B≤j):Kept B H H2:=
 ⟨Nat.le_trans h.1 g.len,fun j hj=>(g.other j (Nat.lt_of_lt_of_le hj h.1) (fun e=>by have:=ho j e;omega)).trans (h.2 j hj)⟩
theorem Acc.grew {B e sz n:Nat} {H H2:za} {o:Option Nat} {v:PV} {xs:List PV} (h:Acc B e sz H v xs n) (g:Grew H H2 o) (hne:own v=none∨own v≠o):Acc B e sz H2 v xs n:=by
 refine ⟨h.1,?_⟩
 rcases h.2 with h1|⟨id,ver,hb,rfl,hk,hvl⟩
 ·exact .inl h1
 ·refine .inr ⟨id,ver,hb,rfl,?_,hvl⟩
  rw [g.other id (List.getElem?_eq_some_iff.1 hk).1 (by rcases hne with h1|h1;cases h1;exact fun e=>h1 e.symm)]
  exact hk
theorem Acc.append {B e sz n b m:Nat} {t tx:TypeId} {H:za} {v x:PV} {xs news z:List PV} (h:Acc B e sz H v xs n) (ht:P.underlying t=some (.slice e)) (hs:szT P e=some sz) (hb:byT P e=some b) (hz:zk P e=some z)
  (hpos:0<sz) (hzl:z.length=sz) (hx:zbi P H e sz tx x=some (news,m)) (hm:news.length=m * sz) (h1:(n+m) * b≤140737488355328) (h2:n+m≤140737488355328) (hB:B≤H.length):
  ∃ v2 H2,zaJ P H t tx v x=some (v2,H2)∧Acc B e sz H2 v2 (xs++news) (n+m)∧Grew H H2 (own v)∧(own v2=own v∨own v2=some H.length):=by
 have hlen:(xs++news).length=(n+m) * sz:=by rw [List.length_append,h.1,hm,Nat.add_mul]
 unfold zaJ
 simp only [ht,hs,hb,hz,hpos,hzl,and_self,if_true,hx]
 rcases h.2 with rfl|⟨id,ver,hid,rfl,hk,hvl⟩
 ·by_cases h0:m=0
  ·subst h0
   have hn:news=[]:=List.eq_nil_of_length_eq_zero (by simpa using hm)
   subst hn
   exact ⟨_,_,by simp,by simpa using h,⟨Nat.le_refl _,fun _ _ _=>rfl⟩,.inl rfl⟩
  ·refine ⟨.msl H.length (xs++news).length 0 (n+m) sz true,H++[⟨e,(xs++news).length,xs++news⟩],by simp [h0,h1,h2,h.1],⟨hlen,.inr ⟨H.length,_,hB,rfl,by simp,Nat.le_refl _⟩⟩,⟨by simp,fun j hj _=>by rw [List.getElem?_append_left hj]⟩,.inr rfl⟩
 ·have hlt:=(List.getElem?_eq_some_iff.1 hk).1
  by_cases h0:m=0
  ·subst h0
   have hn:news=[]:=List.eq_nil_of_length_eq_zero (by simpa using hm)
   subst hn
   simp only [Nat.add_zero] at h1 h2
   refine ⟨_,_,by simp [hk,h.1,h1,h2,h.1▸hvl],by simpa using h,⟨Nat.le_refl _,fun _ _ _=>rfl⟩,.inl rfl⟩
  ·refine ⟨.msl id (xs++news).length 0 (n+m) sz true,H.set id ⟨e,(xs++news).length,xs++news⟩,by simp [hk,h.1,h1,h2,h0,h.1▸hvl],⟨hlen,.inr ⟨id,_,hid,rfl,by simp [hlt],Nat.le_refl _⟩⟩,⟨by simp,fun j hj hne=> ?_⟩,.inl rfl⟩
   rw [List.getElem?_set_ne (by intro e;subst e;exact hne rfl)]
theorem Acc.len {B e sz n:Nat} {t:TypeId} {H:za} {v:PV} {xs:List PV} (h:Acc B e sz H v xs n) (ht:P.underlying t=some (.slice e)):ze1 P H t v=some (.int .i64 (n:Nat)):=by
 rcases h.2 with rfl|⟨id,ver,hid,rfl,hk,hvl⟩
 ·simp [ze1,ht]
 ·simp [ze1,ht,zbd,hk]
theorem Acc.cells {B e sz n:Nat} {H:za} {v:PV} {xs:List PV} (h:Acc B e sz H v xs n):zaI H sz v=some (xs,n):=by
 rcases h.2 with rfl|⟨id,ver,hid,rfl,hk,hvl⟩
 ·simp [zaI,h.1]
 ·simp [zaI,hk,h.1]
  rw [←h.1,List.take_length]
def Frz (n:Nat) (H:za) (x y:PV):Prop:=∃ d,∀ d',d≤d'→frz n H d' x=some y
def Still (x:PV):Prop:=∃ d,∀ n H d',d≤d'→frz n H d' x=some x
theorem Still.int (k:IntKind) (m:Int):Still (.int k m):=⟨1,fun n H d hd=>by obtain ⟨d,rfl⟩:∃ e,d=e+1:=⟨d - 1,by omega⟩;rfl⟩
theorem Still.bool (b:Bool):Still (.bool b):=⟨1,fun n H d hd=>by obtain ⟨d,rfl⟩:∃ e,d=e+1:=⟨d - 1,by omega⟩;rfl⟩
theorem Still.str (s:List UInt8):Still (.str s):=⟨1,fun n H d hd=>by obtain ⟨d,rfl⟩:∃ e,d=e+1:=⟨d - 1,by omega⟩;rfl⟩
theorem Still.nilp:Still .nilp:=⟨1,fun n H d hd=>by obtain ⟨d,rfl⟩:∃ e,d=e+1:=⟨d - 1,by omega⟩;rfl⟩
theorem Still.all:∀ {xs:List PV},(∀ x∈xs,Still x)→∃ d,∀ n H d',d≤d'→xs.mapM (frz n H d')=some xs
 | [],_=>⟨0,fun n H d' _=>by simp⟩
 | x::xs,h=>by
  obtain ⟨d1,h1⟩:=h x (by simp)
  obtain ⟨d2,h2⟩:=Still.all (xs:=xs) (fun y hy=>h y (by simp [hy]))
  exact ⟨max d1 d2,fun n H d' hd=>by simp [List.mapM_cons,h1 n H d' (by omega),h2 n H d' (by omega)]⟩
theorem Still.slice {xs:List PV} {len:Nat} (h:∀ x∈xs,Still x):Still (.slice xs len false):=by
 obtain ⟨d,hd⟩:=Still.all h
 exact ⟨d+1,fun n H d' hd'=>by obtain ⟨e,rfl⟩:∃ e,d'=e+1:=⟨d' - 1,by omega⟩;simp [frz,hd n H e (by omega)]⟩
theorem Still.agg {xs:List PV} (h:∀ x∈xs,Still x):Still (.agg xs):=by
 obtain ⟨d,hd⟩:=Still.all h
 exact ⟨d+1,fun n H d' hd'=>by obtain ⟨e,rfl⟩:∃ e,d'=e+1:=⟨d' - 1,by omega⟩;simp [frz,hd n H e (by omega)]⟩
theorem Still.frz {x:PV} (h:Still x) (n:Nat) (H:za):Frz n H x x:=by obtain ⟨d,hd⟩:=h;exact ⟨d,fun d' h'=>hd n H d' h'⟩
theorem Frz.slice {n len:Nat} {H:za} {xs:List PV} {full:Bool} (h:∀ x∈xs,Still x):Frz n H (.slice xs len full) (.slice xs len false):=by
 obtain ⟨d,hd⟩:=Still.all h
 exact ⟨d+1,fun d' hd'=>by obtain ⟨e,rfl⟩:∃ e,d'=e+1:=⟨d' - 1,by omega⟩;simp [Pm.frz,hd n H e (by omega)]⟩
theorem Fin.give {H H':za} {v v':PV} (hk:Kept H.length H H') (hf:Frz H.length H' v' v):Fin H v H v' H':=by
 obtain ⟨d,hd⟩:=hf
 exact .inr (.inl ⟨_,d,hk.split,rfl,hd d (Nat.le_refl _)⟩)
def Two (v u:PV):Prop:=∀ j,own v=some j→own u≠some j
theorem Two.of {v u v2:PV} {H:za} (h:Two v u) (hu:∀ j,own u=some j→j<H.length) (ho:own v2=own v∨own v2=some H.length):Two v2 u:=fun j hj=>by
 rcases ho with ho|ho
 ·exact h j (by rw [←ho];exact hj)
 ·intro hu'
  have:=hu j hu'
  rw [ho] at hj
  injection hj with hj
  omega
theorem Two.symm {v u:PV} (h:Two v u):Two u v:=fun j hj hv=>h j hv hj
theorem Two.ne {v u:PV} (h:Two v u):own u=none∨own u≠own v:=by
 cases hu:own u with
 | none=>exact .inl rfl
 | some j=>exact .inr (fun e=>h j e.symm hu)
theorem Acc.more {B e sz n:Nat} {H:za} {v:PV} {xs:List PV} (h:Acc B e sz H v xs n) (K:za):Acc B e sz (H++K) v xs n:=h.grew (o:=none) ⟨by simp,fun j hj _=>List.getElem?_append_left hj⟩ (by cases hv:own v;exact .inl rfl;exact .inr (by simp))
theorem Kept.add {B:Nat} {H H1:za} (h:Kept B H H1) (K:za):Kept B H (H1++K):=⟨by have:=h.1;simp;omega,fun j hj=>by rw [List.getElem?_append_left (by have:=h.1;omega)];exact h.2 j hj⟩
def FrzF (n:Nat) (H:za):Fr→Fr→Prop
 | [],[]=>True
 | (t,x)::r,(t',y)::s=>t=t'∧Frz n H x y∧FrzF n H r s
 | _,_=>False
theorem Frz.undef (n:Nat) (H:za):Frz n H .undef .undef:=⟨1,fun d hd=>by obtain ⟨d,rfl⟩:∃ e,d=e+1:=⟨d - 1,by omega⟩;rfl⟩
theorem FrzF.slot {n:Nat} {H:za}:∀ {F F1:Fr},FrzF n H F F1→∀ t,Frz n H (slot F t) (slot F1 t)
 | [],[],_,t=>Frz.undef n H
 | (k,x)::r,(k',y)::s,h,t=>by
  obtain ⟨rfl,h1,h2⟩:=h
  show Frz n H (match Nat.beq k t with|true=>x|false=>Pm.slot r t) (match Nat.beq k t with|true=>y|false=>Pm.slot s t)
  cases Nat.beq k t with
  | true=>exact h1
  | false=>exact FrzF.slot h2 t
 | [],_::_,h,_=>h.elim
 | _::_,[],h,_=>h.elim
theorem PW.give {E:Env} {Q:Exit→Fr→za→Prop} {c:Code} (ks:List Nat) (F1:Fr) (hk:Kept E.H0.length E.H0 H) (hz:FrzF E.H0.length H (kp ks F) F1) (h:PW P E c F1 E.H0 Q):PW P E c F H Q:=fun hs C a w hd hw hf=>by
 have e:H=E.H0++H.drop E.H0.length:=hk.split
 rw [e] at hw
 obtain ⟨g1,g2⟩:=WRel.giveN hs hw
 rw [←e] at hw
 refine wp_mono (h hs _ a w hd g2 ⟨hf.1,fun t=> ?_⟩) fun _ _ _ hp=>hp.trans g1 (.refl _ _)
 obtain ⟨d,hd'⟩:=hz.slot t
 exact zdK hw _ d _ _ _ ((hf.keep ks).2 t) (hd' d (Nat.le_refl _))
end Go.Proofs.YtjgmdlcjbgiekaaGreatDoor.Pm
