/-
  Parts of the proof, put together in one text. No condition.
-/
import Derived.Test.YtpjlfoficnpfoaaGreatDoorV07
open Array renaming getElem?_toList → jB, toArray_toList → jD, mem_toList_iff → jE, toList_append → jH
open Bool renaming and_eq_true → qL
open List renaming getElem?_eq_some_iff → qA, getElem?_set_ne → qB, elem_eq_mem → qE, length_append → qF, drop → qH, getElem?_set_self → qI, not_mem_nil → qJ, all_eq_true → qK, map_cons → qM, mem_append → qN, map_nil → qO, mem_cons → qQ, take → qR, mem_filterMap → qT, mem_cons_self → qU, flatMap_cons → qV, ext_getElem? → qW, getElem?_append_right → qZ, getElem?_cons_zero → jA, set_append_right → jC, mem_of_getElem? → jF, mem_cons_of_mem → jG, map_congr_left → jI
open Nat renaming le_refl → qP, mul_le_mul_right → qS, add_mul → qY
open Option renaming some → qC, map_eq_some_iff → qD, map_some → qX
open Prod renaming mk → qG
namespace Go.Proofs.YtpjlfoficnpfoaaGreatDoor.Sc
set_option linter.all false
open Pm Ty Go.RowKit
def two(H:za)(i j:Nat)(A B:Blk):za:=(H.set i A).set j B
theorem zeK(H:za)(i j:Nat)(A B:Blk)(h:i<H.length∧i≠j):(two H i j A B)[i]? =some A:=by unfold two;rw[qB om];simp[h.1]
theorem zeJ(H:za)(i j:Nat)(A B:Blk)(h:j<H.length):(two H i j A B)[j]? =some B:=by unfold two;simp[h]
theorem zlz(H:za)(i j:Nat)(A B X:Blk)(h:i≠j):(two H i j A B).set i X=two H i j X B:=by unfold two;rw[List.set_comm _ _ om,List.set_set]
theorem zly(H:za)(i j:Nat)(A B X:Blk):(two H i j A B).set j X=two H i j A X:=by unfold two;rw[List.set_set]
theorem zaF(H:za)(i j:Nat)(A B:Blk):(two H i j A B).length=H.length:=by simp[two]
theorem zO{H:za}{i:Nat}{A:Blk}(h:H[i]? =some A):H.set i A=H:=by
 apply qW;intro j;rw[List.getElem?_set];split
 ·rename_i e;subst e;split
  ·exact h.symm
  ·rename_i hn;exact absurd (qA.1 h).1 hn
 ·rfl
theorem zkb{H:za}{i j:Nat}{A B:Blk}(h:H[i]? =some A)(h':H[j]? =some B):two H i j A B=H:=by unfold two;rw[zO h,zO h']
theorem zke(x:Nat):(x:Int).tmod 8=((x%8:Nat):Int):=zkd x 8
theorem zif(x:Nat):(x:Int).tdiv 8=((x / 8:Nat):Int):=zmG x 8
theorem zjM(b:List UInt8)(i n:Nat)(h:n<256):(bs b).set i (.int .u8 (n:Int))=bs (b.set i (UInt8.ofNat n)):=by rw[←zvW];congr 2;simp;omega
def zbq(L:List Bool):List UInt8:=if L.length%8=0 then pk L++[0]else pk L
theorem zil(L:List Bool):(zbq L).length=L.length / 8+1:=by
 unfold zbq;split
 ·simp[zaf];omega
 ·rw[zaf];omega
theorem zdC(l:List Bool)(i:Nat)(h:l.length≤8 * i):pkN l i=0:=by unfold pkN;rw[zaH l (8 * i) om,zaH l (8 * i+1) om,zaH l (8 * i+2) om,zaH l (8 * i+3) om,zaH l (8 * i+4) om,zaH l (8 * i+5) om,zaH l (8 * i+6) om,zaH l (8 * i+7) om]
theorem zim(L:List Bool):byt (zbq L) (L.length / 8)=(pkN L (L.length / 8):Int):=by
 unfold zbq;split
 ·rename_i h;rw[zdC L _ om];unfold byt;simp only[List.getD];rw[qZ (by rw[zaf];omega),zaf,show L.length / 8 - (L.length+7) / 8=0 from om];rfl
 ·exact zp8 L _ om
theorem zik(L:List Bool)(b:Bool):(zbq L).set (L.length / 8) (UInt8.ofNat (pkN L (L.length / 8)+b.toNat * 2^(7 - L.length%8)))=pk (L++[b]):=by
 unfold zbq;split
 ·rename_i h;rw[zdC L _ om,h,zp7 L b (L.length / 8) om,jC _ _ (by rw[zaf];omega),zaf,show L.length / 8 - (L.length+7) / 8=0 from om];simp
 ·rename_i h;rw[zp6 L b (L.length / 8) (L.length%8) om om om]
def wA(j:Nat)(l:List Bool):Blk:=⟨313,0,[.msl j (bs (pk l)).length 0 (pk l).length 1 true,.int .i64 (l.length:Int)]⟩
def wB(l:List Bool):Blk:=⟨5,(bs (pk l)).length,bs (pk l)⟩
theorem zfF(i j:Nat)(l:List Bool)(V n:Nat)(H:za)(hA:H[i]? =some (wA j l))(hB:H[j]? =some (wB l))(hne:i≠j)(hn:n≤32)(hV:V / 2^n=0)(hl:l.length≤1000000000):
  CallOk Tryz.prog 153 [.ptr i 0 0,.int .u32 (V:Int),.int .i64 (n:Int)] H (.int .i64 0) (two H i j (wA j (l++zj V n)) (wB (l++zj V n))):=by
 have hi:=(qA.1 hA).1;have hj:=(qA.1 hB).1;have hself:=zkb hA hB;refine CallOk.go Tryz.func153 Tryz.ntmps153 Tryz.results153 ?_;refine PW.eq rfl hself.symm ?_;refine PW.e ?_;have e0:((V / 2^n:Nat):Int)=0:=by rw[hV];rfl
 (repeat'(first|refine PW.seq ?_|refine PW.skip ?_|refine PW.block ?_|((first|refine PW.rg rfl fun K hK=> ?_|refine PW.draw mix kr fun K hK=> ?_);simp(disch:=omega) only[go_sem,↓reduceIte,reduceCtorEq,zeK,zeJ,wA,zeZ,e0])|((first|refine zh ?_ ?_|refine ze ?_ ?_|refine And.intro ?_ ?_)<;>intro h<;>(try simp only[nqb]at h)<;>simp(disch:=omega) only[go_sem,↓reduceIte,reduceCtorEq,zeK,zeJ,wA,zeZ,e0,h])|(refine hK _ _ ?_;clear hK K)|(refine PW.cond (t:=_) rfl (fun h=> ?_) (fun h=> ?_)<;>(try(cases h;done))<;>(try simp only[nqb]at h))));refine PW.loop ?_;suffices hloop:∀(k:Nat) (L:List Bool),k≤n→L=l++(zj V n).take k→PL Tryz.prog _ _ [(0,.ptr i 0 0),(1,.int .u32 (V:Int)),(2,.int .i64 (n:Int)),(23,.int .i64 (n:Int)),(24,.int .i64 (k:Int))] (two H i j (wA j L) (wB L)) _ by exact PL.at [0,1,2,23,24] (hloop 0 l (Nat.zero_le _) sp) rfl rfl
 intro k L hk hL;have hLl:L.length=l.length+k:=by rw[hL,qF,List.length_take,zm];omega
 induction hm:n - k using Nat.strongRecOn generalizing k L with
 | _ m ih=>
  refine PL.round ?_;refine PW.e ?_;refine PW.c (fun h=> ?_) (fun h=> ?_)
  ·have h4:k<n:=ot h;have hsn:l++(zj V n).take (k+1)=L++[decide (V / 2^(n - 1 - k)%2=1)]:=by rw[zgK V n k h4,hL,List.append_assoc]
   have hL1:(L++[decide (V / 2^(n - 1 - k)%2=1)]).length=l.length+(k+1):=by simp[hLl];omega
   have hnext:=ih (n - (k+1)) om (k+1) _ om hsn.symm hL1 rfl;have hbt:=ziG (V / 2^(n - 1 - k));have e1:(n:Int) - 1 - (k:Int)=((n - 1 - k:Nat):Int):=om;have hmd:V / 2^(n - 1 - k)%2<2:=Nat.mod_lt _ om;refine PW.skip ?_;refine PW.b ?_;refine PW.e ?_;refine PW.to [0,1,2,7,23,24] [(0,.ptr i 0 0),(1,.int .u32 (V:Int)),(2,.int .i64 (n:Int)),(7,.int .i64 (k:Int)),(23,.int .i64 (n:Int)),(24,.int .i64 (k:Int))]
    (two H i j ⟨313,0,[.msl j (bs (zbq L)).length 0 (zbq L).length 1 true,.int .i64 (L.length:Int)]⟩ ⟨5,(bs (zbq L)).length,bs (zbq L)⟩) ?_ ?_
   ·refine PW.f (fun K k=>by simp(disch:=omega) only[go_sem,↓reduceIte,reduceCtorEq,zeK,zeJ,wA,zke];exact k) ?_;refine PW.c (fun h=> ?_) (fun h=> ?_)
    ·have h5:L.length%8=0:=by simp at h;omega
     have hpl:=zaf L;refine PW.f (fun K k=>by simp(disch:=omega) only[go_sem,↓reduceIte,reduceCtorEq,zeK,zeJ,zlz,zly,wA,wB,zc,zaF];exact k) ?_;have e2:zbq L=pk L++[0]:=by unfold zbq;rw[if_pos h5]
     refine⟨by simp[kp,slot,Nat.beq],?_⟩;rw[e2,zz];simp[bs,zc]
    ·have h5:¬ L.length%8=0:=by simp at h;omega
     have e2:zbq L=pk L:=by unfold zbq;rw[if_neg h5]
     refine PW.skip ⟨by simp[kp,slot,Nat.beq],?_⟩;rw[e2];rfl
   refine PW.f (fun K k=>by simp(disch:=omega) only[go_sem,↓reduceIte,reduceCtorEq,e1,zeZ,zir];exact k) ?_;have hrl:=zil L;have hrb:=zim L;have hrs:=zik L (decide (V / 2^(n - 1 - k)%2=1));rw[hbt]at hrs;have hpk:=zja L (L.length / 8);have hz:=zhe L (L.length / 8) (L.length%8) om (Nat.mod_lt _ om);rw[show 8 - L.length%8=7 - L.length%8+1 from om]at hz;have hr8:L.length%8<8:=Nat.mod_lt _ om;have e3:(7:Int) - ((L.length%8:Nat):Int)=((7 - L.length%8:Nat):Int):=om;generalize V / 2^(n - 1 - k)%2=c at *;generalize hq:L.length / 8=q at *;generalize hp:pkN L q=v at *;generalize hs:7 - L.length%8=s at *;have hs7:s<8:=om;have hsum:v+c * 2^s<256:=by have h2:c * 2^s≤1 * 2^s:=qS _ om;have h3:s=0∨s=1∨s=2∨s=3∨s=4∨s=5∨s=6∨s=7:=om;rcases h3 with h3|h3|h3|h3|h3|h3|h3|h3;all_goals(rw[h3]at hz h2 ⊢;simp at hz h2 ⊢;omega)
   have hsh:c * 2^s<256:=om;(repeat refine PW.seq ?_);refine PW.draw mix kr fun K hK=> ?_;simp(disch:=omega) only[go_sem,↓reduceIte,reduceCtorEq,zeK,zeJ,zlz,zly,zaF,zc,zke,zif,hq,hs,e3,zK,hrb,zsw,zpZ,zjM];refine hK _ _ ?_;clear hK K;refine PW.f (fun K k=>by simp(disch:=omega) only[go_sem,↓reduceIte,reduceCtorEq,zeK,zeJ,zlz,zly,zaF];exact k) ?_;refine PW.e ?_;refine PL.at [0,1,2,23,24] hnext rfl ?_;rw[wA,wB,←hrs];simp[zc,List.length_set]
  ·have h4:k=n:=ofF h;subst h4;rw[List.take_of_length_le (by rw[zm];exact qP _)]at hL;refine PW.exit ?_;refine PW.e ?_;subst hL;exact PW.ret ⟨_,rfl,Fin.now⟩
end Go.Proofs.YtpjlfoficnpfoaaGreatDoor.Sc
namespace Go.Proofs.YtpjlfoficnpfoaaGreatDoor.Pm
set_option linter.all false
open Go.RowKit
variable {P:Program} {C:Ctx} {H K:za} {w:World} {F:Fr} {a:Act} {N:Nat}
def zpY:List (Nat×List Nat)→Nat→List Nat
 | [],_=>[]
 | (s,ps)::l,t=>match Nat.beq s t with|true=>ps|false=>zpY l t
def zfG(pm:List (Nat×List Nat)):Operand→List Nat
 | .tmp t=>zpY pm t
 | .const _=>[]
 | .func _=>[]
 | .global _=>[]
def zaL(pm:List (Nat×List Nat))(op:Op):List Nat:=(op.operands.toList.map (zfG pm)).flatten
def atP(ids ps:List Nat):List Nat:=ps.filterMap fun p=>ids[p]?
structure Fp where
 r:List Nat
 l:List Nat
 w:List Nat
 v:List Nat
def zbm(op:Op):Nat:=match zaU op with
 | true=>0
 | false=>match zE op with
  | true=>7
  | false=>match eff op with
   | false=>(match zaM op with|true=>1|false=>2)
   | true=>match op with
    | .store .. =>3
    | .call { callee:=.builtin .append,.. }=>4
    | .call { callee:=.builtin .copy,.. }=>5
    | .mapUpdate .. =>6
    | .insert .. =>6
    | _=>8
def zjD(op:Op):Option Operand:=match op with
 | .store _ a _=>some a
 | .call { args,.. }=>args.toList[0]?
 | .mapUpdate _ m _ _=>some m
 | .insert _ m _ _=>some m
 | _=>none
def zdP(pm:List (Nat×List Nat))(op:Op):List Nat:=match zjD op with|some x=>zfG pm x|none=>[]
def zlR(P:Program)(op:Op)(f:Nat→PV):Option (Blk×(Nat→PV)):=match op with
 | .alloc elem=>(zd P elem).map fun z=>(⟨elem,1,z⟩,fun r=>.ptr r 1 0)
 | .box elem x=>match (ev f x).cells.all PV.cell with|true=>some (⟨elem,1,(ev f x).cells⟩,fun r=>.ptr r 1 0)|false=>none
 | .makeSlice t l c=>match P.underlying t,ev f l,ev f c with
  | some (.slice e),.int _ l,.int _ c=>match szT P e,byT P e,zd P e with
   | some n,some b,some z=>if 0≤l∧l≤c∧(b:Int) * c≤140737488355328∧c≤140737488355328∧z.length=n∧0<n then some (⟨e,1,zaK l.toNat z⟩,fun r=>.msl r 1 0 l.toNat n true)else none
   | _,_,_=>none
  | _,_,_=>none
 | .buildSlice t len parts=>match P.underlying t with
  | some (.slice e)=>match szT P e,zd P e with
   | some n,some z=>if z.length=n∧0<len * n∧len * n≤65536 then(zdm (fun i=>some (i * n,n)) (zaK len z) (parts.toList.map fun p=>(p.1,ev f p.2))).map fun c=>(⟨e,1,c⟩,fun r=>.msl r 1 0 len n true)else none
   | _,_=>none
  | _=>none
 | .call { callee:=.builtin .append,args,argTypes }=>match argTypes.toList,args.toList.map (ev f)with
  | [t,tx],[.slice xs len full,.slice ys m _]=>match P.underlying t,P.underlying tx with
   | some (.slice e),some (.slice _)=>match szT P e,byT P e,zd P e with
    | some sz,some b,some z=>if 0<sz∧z.length=sz∧full=true∧xs.length=len * sz∧0<m∧ys.length=m * sz∧(len+m) * b≤140737488355328∧len+m≤140737488355328 then some (⟨e,1,xs++ys⟩,fun r=>.msl r 1 0 (len+m) sz true)else none
    | _,_,_=>none
   | _,_=>none
  | _,_=>none
 | _=>none
def zt7:Op→Bool
 | .alloc .. | .box .. | .makeSlice .. | .buildSlice .. =>true
 | .call { callee:=.builtin .append,.. }=>true
 | _=>false
def zlJ(rs:List (Nat×Nat))(o:Oper):Option Nat:=match zt7 o.op with|true=>rsv rs o.dst|false=>none
def zas(pm:List (Nat×List Nat))(rs:List (Nat×Nat))(ro:List Nat)(o:Oper):Fp:=match zlJ rs o with
 | some p=>⟨[],[],[p],[p]⟩
 | none=>match zbm o.op with
  | 0=>⟨[],[],[],[]⟩
  | 1=>⟨[],zaL pm o.op,[],[]⟩
  | 2=>⟨zaL pm o.op,[],[],[]⟩
  | 3=>⟨[],[],zdP pm o.op,[]⟩
  | 4=>⟨zaL pm o.op,[],zdP pm o.op,zdP pm o.op⟩
  | 5=>⟨zaL pm o.op,[],zdP pm o.op,[]⟩
  | 6=>⟨zaL pm o.op,[],zdP pm o.op,[]⟩
  | 7=>match o.dst with
   | some d=>(match ro.elem d with|true=>⟨zaL pm o.op,zaL pm o.op,[],[]⟩|false=>⟨zaL pm o.op,zaL pm o.op,zaL pm o.op,zaL pm o.op⟩)
   | none=>⟨zaL pm o.op,zaL pm o.op,zaL pm o.op,zaL pm o.op⟩
  | _=>⟨[],[],[],[]⟩
def dis(a b:List Nat):Bool:=a.all fun i=> !(b.elem i)
theorem zvO{a b:List Nat}(h:dis a b=true):∀ i∈a,i∉b:=fun i hi hb=>by have:=qK.1 h i hi;rw[qE]at this;simp[hb]at this
def zgA(ds:List (Option Nat))(pm:List (Nat×List Nat))(rs:List (Nat×Nat))(ro:List Nat)(x y:Oper):Bool:=clear ds x y&&clear ds y x&&dis (zas pm rs ro x).w (zas pm rs ro y).r&&dis (zas pm rs ro x).w (zas pm rs ro y).w&&dis (zas pm rs ro y).w (zas pm rs ro x).r&&dis (zas pm rs ro x).v (zas pm rs ro y).l&&dis (zas pm rs ro y).v (zas pm rs ro x).l
theorem zgC{ids ps:List Nat}{i:Nat}(h:i∈atP ids ps):∃ p∈ps,ids[p]? =some i:=qT.1 h
theorem zrx{ids ps:List Nat}{i:Nat}(h:i∈atP ids ps):i∈ids:=by obtain⟨p,_,hp⟩:=zgC h;exact jF hp
theorem zfo{ids a b:List Nat}(hn:ids.Nodup)(h:dis a b=true){i:Nat}(ha:i∈atP ids a):i∉atP ids b:=fun hb=>by obtain⟨p,hp,e⟩:=zgC ha;obtain⟨q,hq,e'⟩:=zgC hb;have:p=q:=(List.getElem?_inj (qA.1 e).1 hn).1 (e.trans e'.symm);subst this;exact zvO h p hp hq
structure Agr(ids:List Nat)(fp:Fp)(H K:za):Prop where
 len:K.length=H.length
 out:∀ i,i∉ids→K[i]? =H[i]?
 inn:∀ i,i∈atP ids fp.r∨i∈atP ids fp.w→K[i]? =H[i]?
 liv:∀ i,i∈atP ids fp.l→VEq H K i
theorem Agr.refl(ids:List Nat)(fp:Fp)(H:za):Agr ids fp H H:=⟨rfl,fun _ _=>rfl,fun _ _=>rfl,fun _ _=>rfl⟩
theorem Agr.trans{ids:List Nat}{fp:Fp}{H K L:za}(h:Agr ids fp H K)(k:Agr ids fp K L):Agr ids fp H L:=⟨k.len.trans h.len,fun i hi=>(k.out i hi).trans (h.out i hi),fun i hi=>(k.inn i hi).trans (h.inn i hi),fun i hi=>Eq.trans (k.liv i hi) (h.liv i hi)⟩
structure Upd(ids:List Nat)(fp:Fp)(H H':za):Prop where
 len:H'.length=H.length
 out:∀ i,i∉atP ids fp.w→H'[i]? =H[i]?
 ver:∀ i,i∉atP ids fp.v→VEq H H' i
theorem Upd.refl(ids:List Nat)(fp:Fp)(H:za):Upd ids fp H H:=⟨rfl,fun _ _=>rfl,fun _ _=>rfl⟩
theorem Upd.set{ids:List Nat}{fp:Fp}{id:Nat}{k b:Blk}(hk:H[id]? =some k)(hw:id∈atP ids fp.w)(hv:b.ver=k.ver∨id∈atP ids fp.v):Upd ids fp H (H.set id b):=by
 have hid:id<H.length:=(qA.1 hk).1;refine⟨by simp,fun i hi=> ?_,fun i hi=> ?_⟩
 ·rw[qB (show id≠i from fun e=>hi (by rw[←e];exact hw))]
 ·unfold VEq;by_cases e:id=i
  ·subst e;rcases hv with hv|hv
   ·rw[qI hid,hk];simp[hv]
   ·exact absurd hv hi
  ·rw[qB e]
def zhd(P:Program)(op:Op)(f:Nat→PV):Option PV:=match op with
 | .makeSlice t l c=>match P.underlying t,ev f l,ev f c with
  | some (.slice e),.int _ l,.int _ c=>match byT P e,zd P e with
   | some _,some _=>if l=0∧c=0 then some (.slice [] 0 true)else none
   | _,_=>none
  | _,_,_=>none
 | _=>none
def zev(P:Program)(ids:List Nat)(rs:List (Nat×Nat))(o:Oper)(f:Nat→PV)(H:za):Option (PV×za):=match zlJ rs o with
 | some p=>match ids[p]? with
  | some r=>match zlR P o.op f with
   | some (b,mk)=>match H[r]? with
    | some k=>if k.e=b.e∧k.ver=0 then some (mk r,H.set r b)else none
    | none=>none
   | none=>none
  | none=>(zhd P o.op f).map fun v=>(v,H)
 | none=>pop P o.op f H
def StI(P:Program)(ids:List Nat)(rs:List (Nat×Nat))(o:Oper)(f:Nat→PV)(H:za)(v:PV)(H':za):Prop:=match zk o.op f with
 | some (g,args)=>CallOk P g args H v H'
 | none=>zev P ids rs o f H=some (v,H')
def Loc(P:Program)(ids:List Nat)(rs:List (Nat×Nat))(fp:Fp)(o:Oper)(f:Nat→PV)(H:za)(v:PV)(H':za):Prop:=Upd ids fp H H'∧∀ K,Agr ids fp H K→∃ K',StI P ids rs o f K v K'∧Upd ids fp K K'∧∀ i,i∈atP ids fp.w→K'[i]? =H'[i]?
def ExI(P:Program)(all:List Oper)(ids:List Nat)(pm:List (Nat×List Nat))(rs:List (Nat×Nat))(ro:List Nat)(o:Oper)(f:Nat→PV)(H:za)(v:PV)(H':za):Prop:=(zbi all f o=some false∧v= .tup []∧H'=H)∨(zbi all f o=some true∧Loc P ids rs (zas pm rs ro o) o f H v H')
theorem Loc.now{ids:List Nat}{rs:List (Nat×Nat)}{fp:Fp}{o:Oper}{f:Nat→PV}{v:PV}{H':za}(h:Loc P ids rs fp o f H v H'):StI P ids rs o f H v H':=by
 obtain⟨u,h⟩:=h;obtain⟨K',h1,h2,h3⟩:=h H (.refl _ _ _);have:K'=H':=qW fun i=>by
  by_cases hi:i∈atP ids fp.w
  ·exact h3 i hi
  ·rw[h2.out i hi,u.out i hi]
 rw[←this];exact h1
theorem Loc.read{ids:List Nat}{rs:List (Nat×Nat)}{fp:Fp}{o:Oper}{f:Nat→PV}{v:PV}(h:∀ K,Agr ids fp H K→StI P ids rs o f K v K):Loc P ids rs fp o f H v H:=⟨.refl _ _ _,fun K hK=>⟨K,h K hK,.refl _ _ _,fun i hi=>hK.inn i (.inr hi)⟩⟩
theorem Loc.set{ids:List Nat}{rs:List (Nat×Nat)}{fp:Fp}{o:Oper}{f:Nat→PV}{v:PV}{id:Nat}{k b:Blk}(hk:H[id]? =some k)(hw:id∈atP ids fp.w)(hv:b.ver=k.ver∨id∈atP ids fp.v)
  (h:∀ K,Agr ids fp H K→StI P ids rs o f K v (K.set id b)):Loc P ids rs fp o f H v (H.set id b):=by
 refine⟨.set hk hw hv,fun K hK=>⟨K.set id b,h K hK,.set ((hK.inn id (.inr hw)).trans hk) hw hv,fun i hi=> ?_⟩⟩;by_cases e:id=i
 ·subst e;have hid:id<H.length:=(qA.1 hk).1;rw[qI hid,qI (by rw[hK.len];exact hid)]
 ·rw[qB e,qB e,hK.inn i (.inr hi)]
theorem zhc{ids:List Nat}{rs:List (Nat×Nat)}{o:Oper}{f g:Nat→PV}(h:∀ x∈o.op.operands.toList,ev f x=ev g x):zev P ids rs o f H=zev P ids rs o g H:=by
 have e:zlR P o.op f=zlR P o.op g:=by
  unfold zlR;split
  ·rfl
  ·rename_i el x ho;rw[ho]at h;rw[h x (by simp[Op.operands])]
  ·rename_i t l c ho;rw[ho]at h;rw[h l (by simp[Op.operands]),h c (by simp[Op.operands])]
  ·rename_i t len parts ho;rw[ho]at h;have:parts.toList.map (fun p=>(p.1,ev f p.2))=parts.toList.map (fun p=>(p.1,ev g p.2)):=jI fun p hp=>by rw[h p.2 (by simp[Op.operands];exact⟨_,jE.1 hp⟩)]
   rw[this]
  ·rename_i args ts ho;rw[ho]at h;have:args.toList.map (ev f)=args.toList.map (ev g):=jI fun x hx=>h x (by simp[Op.operands,Call.operands];exact jE.1 hx);rw[this]
  ·rfl
 have e0:zhd P o.op f=zhd P o.op g:=by
  unfold zhd;split
  ·rename_i t l c ho;rw[ho]at h;rw[h l (by simp[Op.operands]),h c (by simp[Op.operands])]
  ·rfl
 unfold zev;split
 ·rw[e,e0]
 ·exact zfH h
theorem ExI.congr{all:List Oper}{ids:List Nat}{pm:List (Nat×List Nat)}{rs:List (Nat×Nat)}{ro:List Nat}{o:Oper}{f g:Nat→PV}{v:PV}{H':za}(h:∀ t∈zin (all.map (·.dst)) o,f t=g t)(he:ExI P all ids pm rs ro o f H v H'):ExI P all ids pm rs ro o g H v H':=by have e1:zbi all f o=zbi all g o:=zcR fun t ht=>h t (qN.2 (.inr ht));have e2:∀ x∈o.op.operands.toList,ev f x=ev g x:=fun x hx=>zfg fun t ht=>h t (qN.2 (.inl (ze7 (ht▸hx))));unfold ExI Loc StI at he ⊢;simp only[←e1,←zbz e2,←zhc e2];exact he
theorem zwB{all:List Oper}{ids:List Nat}{pm:List (Nat×List Nat)}{rs:List (Nat×Nat)}{ro:List Nat}(hn:ids.Nodup):znA (ExI P all ids pm rs ro) (zgA (all.map (·.dst)) pm rs ro):=by
 intro x o f H vx Hx v H1 hc hx ho;unfold zgA at hc;simp only[qL]at hc;obtain⟨⟨⟨⟨⟨⟨c1,c2⟩,c3⟩,c4⟩,c5⟩,c6⟩,c7⟩:=hc;have ho':ExI P all ids pm rs ro o f Hx v H1:=ho.congr fun t ht=>zb5 (zbe c1 t ht);have hx':∀ K K',ExI P all ids pm rs ro x f K vx K'→ExI P all ids pm rs ro x (upd f o.dst v) K vx K':=fun K K' h=>h.congr fun t ht=>(zb5 (zbe c2 t ht)).symm;have hcm:=zgL (f:=f) (u:=vx) (v:=v) (zf2 c1);rcases hx with⟨x1,x2,rfl⟩|⟨x1,ux,lx⟩
 ·exact⟨H1,ho',hx' _ _ (.inl ⟨x1,x2,rfl⟩),hcm⟩
 rcases ho' with⟨o1,o2,rfl⟩|⟨o1,uo,lo⟩
 ·exact⟨H,.inl ⟨o1,o2,rfl⟩,hx' _ _ (.inr ⟨x1,ux,lx⟩),hcm⟩
 have dxr:∀{i},i∈atP ids (zas pm rs ro x).w→i∉atP ids (zas pm rs ro o).r:=fun h=>zfo hn c3 h;have dxw:∀{i},i∈atP ids (zas pm rs ro x).w→i∉atP ids (zas pm rs ro o).w:=fun h=>zfo hn c4 h;have dor:∀{i},i∈atP ids (zas pm rs ro o).w→i∉atP ids (zas pm rs ro x).r:=fun h=>zfo hn c5 h;have dxv:∀{i},i∈atP ids (zas pm rs ro x).v→i∉atP ids (zas pm rs ro o).l:=fun h=>zfo hn c6 h;have dov:∀{i},i∈atP ids (zas pm rs ro o).v→i∉atP ids (zas pm rs ro x).l:=fun h=>zfo hn c7 h;have a1:Agr ids (zas pm rs ro o) Hx H:=⟨ux.len.symm,fun i hi=>(ux.out i fun h=>hi (zrx h)).symm,fun i hi=>(ux.out i fun h=>by rcases hi with hi|hi;exact dxr h hi;exact dxw h hi).symm,fun i hi=>(ux.ver i fun h=>dxv h hi).symm⟩;obtain⟨H3,s3,u3,w3⟩:=lo H a1;have a2:Agr ids (zas pm rs ro x) H H3:=⟨u3.len,fun i hi=>u3.out i fun h=>hi (zrx h),fun i hi=>u3.out i fun h=>by rcases hi with hi|hi;exact dor h hi;exact dxw hi h,fun i hi=>u3.ver i fun h=>dov h hi⟩;refine⟨H3,.inr ⟨o1,u3,fun K hK=> ?_⟩,hx' _ _ (.inr ⟨x1,⟨?_,fun i hi=> ?_,fun i hi=> ?_⟩,fun K hK=> ?_⟩),hcm⟩
 ·obtain⟨K',k1,k2,k3⟩:=lo K (a1.trans hK);exact⟨K',k1,k2,fun i hi=>(k3 i hi).trans (w3 i hi).symm⟩
 ·rw[uo.len,ux.len,u3.len]
 ·by_cases hw:i∈atP ids (zas pm rs ro o).w
  ·exact(w3 i hw).symm
  ·rw[uo.out i hw,ux.out i hi,u3.out i hw]
 ·by_cases hw:i∈atP ids (zas pm rs ro o).w
  ·unfold VEq;rw[w3 i hw]
  ·have:=ux.ver i hi;unfold VEq at this ⊢;rw[uo.out i hw,u3.out i hw,this]
 ·obtain⟨K',k1,k2,k3⟩:=lx K (a2.trans hK);exact⟨K',k1,k2,fun i hi=>by rw[k3 i hi,uo.out i (dxw hi)]⟩
theorem ze2{place:Nat→Option (Nat×Nat)}:∀(parts:List (Nat×PV)) (cs ys:List PV),zdm place cs parts=some ys→ys.length=cs.length
 | [],cs,ys,h=>by simp only[zdm,qC.injEq]at h;rw[h]
 | (i,v)::rest,cs,ys,h=>by
  simp only[zdm]at h;split at h
  ·cases h
  ·rename_i off size hp;split at h
   ·rename_i hq;rw[ze2 rest _ _ h];simp only[zab,qF,List.length_take,List.length_drop];omega
   ·cases h
theorem zkC{t tx ty e sz bb len m r:Nat}{full g:Bool}{xs ys z:List PV}{p q:Value}{k:Blk}(hw:WRel C H w)(hsv:VRel C (.slice xs len full) p)(hx:VRel C (.slice ys m g) q)
  (hu:P.underlying t=some (.slice e)) {e':TypeId} (hu':P.underlying tx=some (.slice e')) (hn:szT P e=some sz) (hb:byT P e=some bb) (hz:zd P e=some z)
  (hq:0<sz∧z.length=sz∧full=true∧xs.length=len * sz∧0<m∧ys.length=m * sz∧(len+m) * bb≤140737488355328∧len+m≤140737488355328) (hk:H[r]? =some k) (he:k.e=e) (hv:k.ver=0):
  ∃ C' u w',CLe C C'∧WRel C' (H.set r ⟨e,1,xs++ys⟩) w'∧Below C.B w w'∧VRel C' (.msl r 1 0 (len+m) sz true) u∧(Builtin.append_ #[t,tx] ty #[p,q]).run P w= .ok u w':=by
 have hid:r<H.length:=(qA.1 hk).1;have g1:r<C.mu.length:=by rw[hw.len];exact hid
 have g2:r<C.vs.length:=by rw[hw.lenv];exact hid
 have g3:r<C.cp.length:=by rw[hw.lenc];exact hid
 obtain⟨q1,q2,rfl,q4,q5,q6,q7,q8⟩:=hq;obtain⟨i,zv,hi,hzv,hzr,hzl,hzc⟩:=zaj hz;obtain⟨ie,hie,hs⟩:=za8 hn;obtain⟨ib,hib,hby⟩:=zfl hb;rw[hi]at hie hib;injection hie with hie;injection hib with hib;subst hie hib;have hsrc:zaA P H e sz tx (.slice ys m g)=some (ys,m):=by unfold zaA zac;simp only[hu',if_pos q6]
 obtain⟨us,happ,hRn,hln,hnn,hcn⟩:=zfp hw hx hi hs hzv hz q2 q1 hsrc;have hzsize:∀ m,(Builtin.zeroCells zv.cells m).size=m * sz:=fun m=>by rw[size_zeroCells,←Array.length_toList,hzl,q2]
 have hshape:∃ ad os,p= .slice ad len len∧os.length=xs.length∧Rel C xs os∧(∀ x∈xs,x.cell=true)∧((len=0∧os=[])∨∃ b o,ad=some ⟨b,o,none⟩∧At w b o os):=by
  cases hsv with
  | @slice _ _ cap b' o' _ us' hl' hM' hc' hR' hcap' hmax' hf'=>rw[hf' rfl];exact⟨_,us',rfl,hl',hR',hc',.inr ⟨b',o',rfl,hw.at_imm hM'⟩⟩
  | sliceN=>exact⟨_,[],rfl,rfl,fun j x u hx=>by simp at hx,fun x hx=>by simp at hx,.inl ⟨rfl,rfl⟩⟩
 obtain⟨ad,os,rfl,hos,hRx,hcx,hat⟩:=hshape;have hold:(Builtin.firstCells i.size len (.slice ad len len)).run P w.drew= .ok os.toArray w.drew:=by rw[hs];exact zcK (w:=w.drew) om (by rcases hat with h1|⟨b,o,h1,h2⟩;exact .inl h1;exact .inr ⟨b,o,h1,h2⟩)
 have hr:=zll (P:=P) (ty:=ty) hu hi hzv hold happ om (by rw[hby];exact q7) q8 (by rw[hs];exact q1);have hge:=grownCap_ge w (len+m) len e;have hle:=grownCap_le_maxLen w (len+m) len e (by simp only[maxLen];omega);generalize grownCap w (len+m) len e=nc at hr hge hle;generalize hcur:(os++us).toArray++Builtin.zeroCells zv.cells (nc - (len+m))=cur at hr;have hsize:cur.size=nc * sz:=by rw[←hcur,Array.size_append,hzsize];simp only[List.size_toArray,qF,hos,q4,hln,q6,←qY];congr 1;omega
 have hfit:(xs++ys).length≤cur.size:=by rw[hsize,qF,q4,q6,←qY];exact qS _ hge
 obtain⟨c1,c2,c30⟩:=hw.drew.move hk 1 om (xs++ys) cur (fun x hx=>by rcases qN.1 hx with hx|hx;exact hcx x hx;exact hcn x hx) hfit (fun j x u hx hu'=>by
  have hlt:j<(xs++ys).length:=(qA.1 hx).1;refine Rel.append hos hRx hRn j x u hx ?_;rw[←hcur,←jB,jH,List.getElem?_append_left (by simp at hlt ⊢;omega)]at hu';exact hu')
 rw[he]at c2 c30;have c3:=((Below.refl C.B w).drew).trans c30;refine⟨_,_,_,c1,c2,c3,?_,hr⟩;refine .msl (by simp[g1]) (by simp[g2]) hge hle (fun _=>⟨rfl,?_⟩);simp[g3,hsize]
theorem zlQ{op:Op}{f:Nat→PV}{b:Blk}{mk:Nat→PV}{r:Nat}{k:Blk}{o:Oper}(ho:o.op=op)(hw:WRel C H w)(hf:FRel C N f a)(h:zlR P op f=some (b,mk))(hk:H[r]? =some k)(he:k.e=b.e)(hv:k.ver=0):
  ∃ C' u w',CLe C C'∧WRel C' (H.set r b) w'∧Below C.B w w'∧VRel C' (mk r) u∧(execOp a.eval o).run P w= .ok (.value u) w':=by
 have hid:r<H.length:=(qA.1 hk).1;have g1:r<C.mu.length:=by rw[hw.len];exact hid
 have g2:r<C.vs.length:=by rw[hw.lenv];exact hid
 have g3:r<C.cp.length:=by rw[hw.lenc];exact hid
 unfold zlR at h;split at h
 ·rename_i elem;simp only[qD,qG.injEq]at h;obtain⟨z,hz,rfl,rfl⟩:=h;obtain⟨i,zv,hi,hzv,hzr,hzl,hzc⟩:=zaj hz;obtain⟨c1,c2,c3⟩:=hw.move hk 1 om z zv.cells hzc (by rw[←hzl];simp) (fun j x u hx hu=>hzr C j x u hx (by simpa using hu));rw[he]at c2 c3;refine⟨_,.pointer (some ⟨w.heap.size,0,none⟩),_,c1,c2,c3,.ptr (by simp[g1]) (by simp[g2]),?_⟩;simp[execOp,ho,Instr.alloc,newVar,newRow,zeroValue,typeInfo,hi,hzv]
 ·rename_i elem x;split at h
  ·rename_i hall;simp only[qC.injEq,qG.injEq]at h;obtain⟨rfl,rfl⟩:=h;obtain⟨hr,hl⟩:=zcL hall (zt hf x);obtain⟨c1,c2,c3⟩:=hw.move hk 1 om (ev f x).cells (a.eval x).cells (fun x hx=>qK.1 hall x hx) (by rw[←hl];simp) (fun j x u hx hu=>hr j x u hx (by simpa using hu));rw[he]at c2 c3;refine⟨_,.pointer (some ⟨w.heap.size,0,none⟩),_,c1,c2,c3,.ptr (by simp[g1]) (by simp[g2]),?_⟩;simp[execOp,ho,Instr.box,newVar,newRow]
  ·cases h
 ·rename_i t lo co;split at h
  ·rename_i e kl l kc c hu hlv hcv;split at h
   ·rename_i n bb z hn hb hz;obtain⟨i,zv,hi,hzv,hzr,hzl,hzc⟩:=zaj hz;obtain⟨ie,hie,hs⟩:=za8 hn;obtain⟨ib,hib,hby⟩:=zfl hb;rw[hi]at hie hib;injection hie with hie;injection hib with hib;subst hie hib;split at h
    ·rename_i hq;simp only[qC.injEq,qG.injEq]at h;obtain⟨rfl,rfl⟩:=h;have hl:=zt hf lo;have hc:=zt hf co;rw[hlv]at hl;rw[hcv]at hc;have el:=zG hl;have ec:=zG hc;have hr:=run_make (P:=P) w t e i zv hu hi hzv kl kc l c hq.1 hq.2.1 (by rw[hby];have:=hq.2.2.1;omega) (by have:=hq.2.2.2.1;omega);have hcn:l.toNat * z.length≤c.toNat * i.size:=by rw[hs,hq.2.2.2.2.1];exact qS n om
     have hmade:=zdJ (C:=C) (n:=l.toNat) (m:=c.toNat * i.size) hzl (hzr C) (by rw[hq.2.2.2.2.1];exact hq.2.2.2.2.2) hcn;obtain⟨c1,c2,c3⟩:=hw.move hk 1 om (zaK l.toNat z) (madeCells zv.cells (c.toNat * i.size)) (zcC hzc) (by rw[zaV,size_madeCells];exact hcn) (fun j x u hx hu=>hmade j x u hx (by rw[jB];exact hu));rw[he]at c2 c3;refine⟨_,.slice (some ⟨w.heap.size,0,none⟩) l.toNat c.toNat,_,c1,c2,c3,?_,by simp only[execOp,ho,el,ec,Sem.run_bind,hr,Result.andThen_ok,Sem.run_pure]⟩;refine .msl (by simp[g1]) (by simp[g2]) om (by have:=hq.2.2.2.1;simp only[maxLen];omega) (fun _=>⟨rfl,?_⟩);simp[g3,size_madeCells,hs]
    ·cases h
   ·cases h
  ·cases h
 ·rename_i t len parts;split at h
  ·rename_i e hu;split at h
   ·rename_i n z hn hz;obtain⟨i,zv,hi,hzv,hzr,hzl,hzc⟩:=zaj hz;obtain⟨ie,hie,hs⟩:=za8 hn;rw[hi]at hie;injection hie with hie;subst hie;split at h
    ·rename_i hq;simp only[qD,qG.injEq]at h;obtain⟨ys,hys,rfl,rfl⟩:=h;obtain⟨hl,hp⟩:=zfL hf parts;have hpos:0<z.length:=by
      rcases Nat.eq_zero_or_pos z.length with h0|h0
      ·rw[←hq.1,h0]at hq;simp at hq
      ·exact h0
     have hmade:=zdJ (C:=C) (n:=len) (m:=len * i.size) hzl (hzr C) hpos (by rw[hs,hq.1];exact qP _);obtain⟨cs',q1,q2,q3,q4⟩:=zbH (C:=C) (fun i=>some (i * n,n)) _ _ (zaK len z) ys ((Array.range (len * i.size)).map (zv.cells[· %zv.cells.size]!)) hl hp hmade
      (by rw[zaV,hq.1,hs];simp) (zcC hzc) hys
     have hr:=run_buildSlice (P:=P) w t e len _ cs' i zv hu hi hzv (by rw[hs];have:=hq.2.2;omega) (by rw[hs];have:=hq.2.1;omega) (by rw[hs]at q1 ⊢;exact q1);obtain⟨c1,c2,c3⟩:=hw.move hk 1 om ys cs' q4 (by rw[←q3];exact qP _) (fun j x u hx hu=>q2 j x u hx (by simpa using hu));rw[he]at c2 c3;refine⟨_,.slice (some ⟨w.heap.size,0,none⟩) len len,_,c1,c2,c3,?_,by simp only[execOp,ho,Sem.run_bind,hr,Result.andThen_ok,Sem.run_pure]⟩;have hln:len≤len * n:=Nat.le_mul_of_pos_right len om;refine .msl (by simp[g1]) (by simp[g2]) (qP _) (by simp only[maxLen];omega) (fun _=>⟨rfl,?_⟩);have:ys.length=len * n:=by rw[ze2 _ _ _ hys,zaV,hq.1]
     simp[g3,←q3,this]
    ·cases h
   ·cases h
  ·cases h
 ·rename_i args ts;split at h
  ·rename_i t tx xs len full ys m g hts hal;split at h
   ·rename_i e e' hu hu';split at h
    ·rename_i sz bb z hn hb hz;split at h
     ·rename_i hq;simp only[qC.injEq,qG.injEq]at h;obtain⟨rfl,rfl⟩:=h;obtain⟨x,y,hxy,hx1,hy1⟩:∃ x y,args.toList=[x,y]∧ev f x= .slice xs len full∧ev f y= .slice ys m g:=by
       match hat:args.toList,hal with
       | [x,y],hal=>simp only[qM,qO,List.cons.injEq,and_true]at hal;exact⟨x,y,rfl,hal.1,hal.2⟩
       | [],hal=>simp at hal
       | [_],hal=>simp at hal
       | _::_::_::_,hal=>simp at hal
      have r1:=zt hf x;have r2:=zt hf y;rw[hx1]at r1;rw[hy1]at r2;obtain⟨C',u,w',s1,s2,s3,s4,s5⟩:=zkC (ty:=o.type) hw r1 r2 hu hu' hn hb hz hq hk he hv;refine⟨C',u,w',s1,s2,s3,s4,?_⟩;have ea:args= #[x,y]:=Array.toList_inj.1 (by rw[hxy]);have et:ts= #[t,tx]:=Array.toList_inj.1 (by rw[hts]);subst ea et;have hb:∀ cs,builtin .append #[t,tx] o.type cs #[a.eval x,a.eval y]=(do pure (.value (←Builtin.append_ #[t,tx] o.type #[a.eval x,a.eval y]))):=fun _=>rfl;simp only[execOp,ho,resolve,invoke,Sem.run_bind,Sem.run_pure,Result.andThen_ok,List.map_toArray,qM,qO,hb,s5]
     ·cases h
    ·cases h
   ·cases h
  ·cases h
 ·cases h
theorem zkD{op:Op}{f:Nat→PV}{v:PV}{o:Oper}(ho:o.op=op)(hw:WRel C H w)(hf:FRel C N f a)(h:zhd P op f=some v):
  ∃ u w',WRel C H w'∧Below C.B w w'∧VRel C v u∧(execOp a.eval o).run P w= .ok (.value u) w':=by
 unfold zhd at h;split at h
 ·rename_i t lo co;split at h
  ·rename_i e kl l kc c hu hlv hcv;split at h
   ·rename_i bb z hb hz;obtain⟨i,zv,hi,hzv,hzr,hzl,hzc⟩:=zaj hz;split at h
    ·rename_i hq;obtain⟨rfl,rfl⟩:=hq;simp only[qC.injEq]at h;subst h;have hl:=zt hf lo;have hc:=zt hf co;rw[hlv]at hl;rw[hcv]at hc;have el:=zG hl;have ec:=zG hc;have hr:=run_make (P:=P) w t e i zv hu hi hzv kl kc 0 0 om om om om;refine⟨.slice (some ⟨w.heap.size,0,none⟩) 0 0,_,hw.grown ((Below.refl _ _).alloc (qP _) _),(Below.refl _ _).alloc hw.base _,.sliceN _ _,by simp only[execOp,ho,el,ec,Sem.run_bind,hr,Result.andThen_ok,Sem.run_pure];rfl⟩
    ·cases h
   ·cases h
  ·cases h
 ·cases h
theorem zfw{o:Oper}{ids:List Nat}{rs:List (Nat×Nat)}{f:Nat→PV}{v:PV}{H':za}(hd:zI N o=true)(hw:WRel C H w)(hf:FRel C N f a)(h:StI P ids rs o f H v H')(next:Act→World→Prop)(Q:Exit→Act→World→Prop)
  (hn:∀ C' u w',CLe C C'→WRel C' H' w'→Below C.B w w'→FRel C' N (upd f o.dst v) (a.put o.dst u)→next (a.put o.dst u) w'):o.wp P a w next Q:=by
 unfold StI at h;split at h
 ·rename_i g args hc;exact zc9 hd hw hf (by unfold Exec;rw[hc];exact h) _ _ hn
 ·rename_i hc;unfold zev at h;split at h
  ·rename_i p hp;split at h
   ·rename_i r hr;split at h
    ·rename_i b mk hb;split at h
     ·rename_i k hk;split at h
      ·rename_i hq;simp only[qC.injEq,qG.injEq]at h;obtain⟨rfl,rfl⟩:=h;obtain⟨C',u,w',q1,q2,q3,q4,q5⟩:=zlQ (o:=o) rfl hw hf hb hk hq.1 hq.2;unfold Oper.wp;rw[q5,Oper.upon_value];exact hn C' u w' q1 q2 q3 ((hf.mono q1).put _ (zay hd) q4)
      ·cases h
     ·cases h
    ·cases h
   ·simp only[qD,qG.injEq]at h;obtain⟨v',hv',rfl,rfl⟩:=h;obtain⟨u,w',q2,q3,q4,q5⟩:=zkD (o:=o) rfl hw hf hv';unfold Oper.wp;rw[q5,Oper.upon_value];exact hn C u w' (.refl C) q2 q3 (hf.put _ (zay hd) q4)
  ·exact zc9 hd hw hf (by unfold Exec;rw[hc];exact h) _ _ hn
theorem zwD{ops:Array Oper}{ids:List Nat}{pm:List (Nat×List Nat)}{rs:List (Nat×Nat)}{ro:List Nat}:zrO P N ops (ExI P ops.toList ids pm rs ro):=by
 intro o f H v H' C a w hd hw hf he;rcases he with⟨h1,h2,h3⟩|⟨h1,h2⟩
 ·have hwant:=zJ hf h1;rw[jD]at hwant;exact .inl ⟨hwant,h2,h3⟩
 ·have hwant:=zJ hf h1;rw[jD]at hwant;exact .inr ⟨hwant,fun next Q hn=>zfw hd hw hf h2.now _ _ hn⟩
end Go.Proofs.YtpjlfoficnpfoaaGreatDoor.Pm
namespace Go.Proofs.YtpjlfoficnpfoaaGreatDoor.Pm
set_option linter.all false
open Go.RowKit
variable {P:Program} {C:Ctx} {H K:za} {w:World} {F:Fr} {a:Act} {N:Nat}
def okO(ids:List Nat)(pm:List (Nat×List Nat))(f:Nat→PV)(x:Operand):Bool:=(zD (ev f x)).all fun i=> !(ids.elem i)||(atP ids (zfG pm x)).elem i
def inO(ids:List Nat)(pm:List (Nat×List Nat))(f:Nat→PV)(x:Operand):Bool:=match zD (ev f x)with
 | [i]=>(atP ids (zfG pm x)).elem i
 | _=>false
def zk5:PV→Bool
 | .msl .. =>true
 | _=>false
def zl6(f:Nat→PV)(op:Op):Bool:=match op with
 | .call { args,.. }=>(match args.toList.map (ev f)with|[.slice _ _ _,.slice _ 0 _]=>true|_=>false)
 | _=>false
def ztl(ids:List Nat)(pm:List (Nat×List Nat))(rs:List (Nat×Nat))(o:Oper)(f:Nat→PV):Bool:=match zlJ rs o with
 | some _=>true
 | none=>match zbm o.op with
  | 0=>true
  | 1=>o.op.operands.toList.all (okO ids pm f)
  | 2=>o.op.operands.toList.all (okO ids pm f)
  | 3=>(match zjD o.op with|some x=>inO ids pm f x|none=>false)
  | 4=>(match zjD o.op with|some x=>(inO ids pm f x&&zk5 (ev f x)&&o.op.operands.toList.all (okO ids pm f))||zl6 f o.op|none=>false)
  | 5=>(match zjD o.op with|some x=>inO ids pm f x&&o.op.operands.toList.all (okO ids pm f)|none=>false)
  | 6=>(match zjD o.op with|some x=>inO ids pm f x&&o.op.operands.toList.all (okO ids pm f)|none=>false)
  | _=>false
theorem zl4{ids:List Nat}{pm:List (Nat×List Nat)}{f:Nat→PV}{op:Op}(h:op.operands.toList.all (okO ids pm f)=true):∀ x∈op.operands.toList,∀ i∈zD (ev f x),i∉ids∨i∈atP ids (zaL pm op):=fun x hx i hi=>by
 have:=qK.1 (qK.1 h x hx) i hi;simp only[Bool.or_eq_true,Bool.not_eq_true',qE,decide_eq_true_eq,decide_eq_false_iff_not]at this;rcases this with h|h
 ·exact .inl h
 ·obtain⟨p,hp,e⟩:=zgC h;exact .inr (qT.2 ⟨p,List.mem_flatten.2 ⟨_,List.mem_map.2 ⟨x,hx,rfl⟩,hp⟩,e⟩)
theorem zm0{ids:List Nat}{pm:List (Nat×List Nat)}{f:Nat→PV}{op:Op}(h:op.operands.toList.all (okO ids pm f)=true):∀ i∈zeo op f,i∉ids∨i∈atP ids (zaL pm op):=fun i hi=>by obtain⟨l,hl,hi⟩:=List.mem_flatten.1 hi;obtain⟨x,hx,rfl⟩:=List.mem_map.1 hl;exact zl4 h x hx i hi
theorem Agr.rd{ids:List Nat}{fp:Fp}{pm:List (Nat×List Nat)}{op:Op}(hA:Agr ids fp H K)(hr:fp.r=zaL pm op){i:Nat}(h:i∉ids∨i∈atP ids (zaL pm op)):K[i]? =H[i]? :=by
 rcases h with h|h
 ·exact hA.out i h
 ·exact hA.inn i (.inl (by rw[hr];exact h))
theorem zjz{ids:List Nat}{pm:List (Nat×List Nat)}{f:Nat→PV}{x:Operand}{i:Nat}(h:inO ids pm f x=true)(hi:zD (ev f x)=[i]):i∈atP ids (zfG pm x):=by unfold inO at h;rw[hi]at h;simpa[qE]using h
theorem ziu{op:Op}(h:zbm op=0):zaU op=true:=by
 unfold zbm at h;split at h
 ·assumption
 ·split at h
  ·cases h
  ·split at h
   ·split at h<;>cases h
   ·split at h<;>cases h
theorem zk1{op:Op}(h:zbm op=1∨zbm op=2):eff op=false∧(zbm op=1→zaM op=true):=by
 unfold zbm at h ⊢;split at h
 ·rcases h with h|h<;>cases h
 ·rename_i hp;split at h
  ·rcases h with h|h<;>cases h
  ·rename_i hc;split at h
   ·rename_i he;refine⟨he,?_⟩;split
    ·intro _;assumption
    ·intro h;cases h
   ·split at h<;>rcases h with h|h<;>cases h
theorem zfc{op:Op}{n:Nat}(h:zbm op=n+3)(hn:n≤3):eff op=true∧zaU op=false∧zE op=false:=by
 unfold zbm at h;split at h
 ·cases h
 ·rename_i hp;split at h
  ·injection h with h;injection h with h;injection h with h;omega
  ·rename_i hc;split at h
   ·split at h
    ·injection h with h;cases h
    ·injection h with h;injection h with h;cases h
   ·rename_i he;exact⟨he,hp,hc⟩
theorem zma{op:Op}(h:zbm op=3):∃ t x y,op= .store t x y:=by obtain⟨h1,h2,h3⟩:=zfc (n:=0) h om;unfold zbm at h;rw[h1,h2,h3]at h;dsimp only at h;split at h<;>first|exact⟨_,_,_,rfl⟩|cases h
theorem zk2{op:Op}(h:zbm op=4):∃ args ts,op= .call { callee:=.builtin .append,args:=args,argTypes:=ts }:=by obtain⟨h1,h2,h3⟩:=zfc (n:=1) h om;unfold zbm at h;rw[h1,h2,h3]at h;dsimp only at h;split at h<;>first|exact⟨_,_,rfl⟩|cases h
theorem zoh{op:Op}(h:zbm op=5):∃ args ts,op= .call { callee:=.builtin .copy,args:=args,argTypes:=ts }:=by obtain⟨h1,h2,h3⟩:=zfc (n:=2) h om;unfold zbm at h;rw[h1,h2,h3]at h;dsimp only at h;split at h<;>first|exact⟨_,_,rfl⟩|cases h
theorem zqM{op:Op}(h:zbm op=6):∃ t m k x,op= .mapUpdate t m k x∨op= .insert t m k x:=by obtain⟨h1,h2,h3⟩:=zfc (n:=3) h om;unfold zbm at h;rw[h1,h2,h3]at h;dsimp only at h;split at h<;>first|exact⟨_,_,_,_,.inl rfl⟩|exact⟨_,_,_,_,.inr rfl⟩|cases h
theorem zhX{e sz tx:Nat}{x:PV}(hx:∀ id∈zD x,K[id]? =H[id]?):zaA P K e sz tx x=zaA P H e sz tx x:=by
 unfold zaA;split<;>try rfl
 exact zg3 hx
theorem zp3{t:TypeId}{m:PV}(hx:∀ id∈zD m,K[id]? =H[id]?):zae P K t m=zae P H t m:=by
 unfold zae;split<;>try rfl
 rename_i kt e id ver hu;rw[hx id (by simp[zD])]
theorem zlM{t:TypeId}{x v:PV}{H':za}(h:zc1 P H t x v=some H'):∃ id k b,zD x=[id]∧H[id]? =some k∧b.ver=k.ver∧H'=H.set id b∧∀ K:za,K[id]? =H[id]? →zc1 P K t x v=some (K.set id b):=by
 unfold zc1 at h;split at h
 ·rename_i id ver off;split at h
  ·rename_i k hk;split at h
   ·rename_i hv;simp only[qD]at h;obtain⟨c,hc,rfl⟩:=h;refine⟨id,k,⟨k.e,k.ver,c⟩,rfl,hk,rfl,rfl,fun K hK=> ?_⟩;unfold zc1;simp only[hK,hk,hv,if_true,hc,qX]
   ·cases h
  ·cases h
 ·cases h
theorem zn2{t:TypeId}{m k x:PV}{H':za}(h:zca P H t m k x=some H'):∃ id b' b,zD m=[id]∧H[id]? =some b'∧b.ver=b'.ver∧H'=H.set id b∧∀ K:za,K[id]? =H[id]? →zca P K t m k x=some (K.set id b):=by
 unfold zca at h;split at h
 ·rename_i e d id b hm;have hq:zD m=[id]∧H[id]? =some b:=by
   unfold zae at hm;split at hm
   ·rename_i kt e' id' ver hu;split at hm
    ·rename_i d' b' hs hb;split at hm
     ·simp only[qC.injEq,qG.injEq]at hm;obtain⟨_,_,rfl,rfl⟩:=hm;exact⟨rfl,hb⟩
     ·cases hm
    ·cases hm
   ·cases hm
  have key:∀ K:za,K[id]? =H[id]? →zae P K t m=some (e,d,id,b):=fun K hK=>by rw[zp3 (H:=H) (fun i hi=>by rw[hq.1]at hi;simp at hi;rw[hi];exact hK),hm]
  split at h
  ·rename_i i v hf;simp only[qC.injEq]at h;subst h;exact⟨id,b,⟨b.e,b.ver,b.cells.set i (.tup [k,x])⟩,hq.1,hq.2,rfl,rfl,fun K hK=>by unfold zca;rw[key K hK];simp only[hf]⟩
  ·rename_i hf;simp only[qC.injEq]at h;subst h;exact⟨id,b,⟨b.e,b.ver,b.cells++[.tup [k,x]]⟩,hq.1,hq.2,rfl,rfl,fun K hK=>by unfold zca;rw[key K hK];simp only[hf]⟩
  ·cases h
 ·cases h
theorem zn9{t:TypeId}{d x v:PV}{H':za}{id:Nat}(hd:zD d=[id])(h:zgc P H t d x=some (v,H')):∃ k b,H[id]? =some k∧b.ver=k.ver∧H'=H.set id b∧∀ K:za,K[id]? =H[id]? →(∀ i∈zD x,K[i]? =H[i]?)→zgc P K t d x=some (v,K.set id b):=by
 unfold zgc at h;split at h
 ·rename_i e hu;split at h
  ·rename_i sz hs;split at h
   ·rename_i id' ver off len z g;simp only[zD,List.cons.injEq,and_true]at hd;subst hd;split at h
    ·rename_i k ys n hk hy;split at h
     ·rename_i hq;simp only[qC.injEq,qG.injEq]at h;obtain⟨rfl,rfl⟩:=h;refine⟨k,⟨k.e,ver,zab k.cells off (ys.take (min n len * sz))⟩,hk,hq.1.symm,rfl,fun K hK hx=> ?_⟩;unfold zgc;simp only[hu,hs,hK,hk,zg3 hx,hy];rw[if_pos hq]
     ·cases h
    ·cases h
   ·simp[zD]at hd
   ·cases h
  ·cases h
 ·cases h
theorem zkQ{t tx:TypeId}{s x v:PV}{H':za}{id:Nat}(hm:zk5 s=true)(hd:zD s=[id])(h:pappend P H t tx s x=some (v,H')):∃ k b,H[id]? =some k∧H'=H.set id b∧∀ K:za,K[id]? =H[id]? →(∀ i∈zD x,K[i]? =H[i]?)→pappend P K t tx s x=some (v,K.set id b):=by
 unfold pappend at h;split at h
 ·rename_i e hu;split at h
  ·rename_i sz bb z hs hb hz;split at h
   ·rename_i hq0;split at h
    ·rename_i news n hsrc;split at h
     ·simp[zk5]at hm
     ·rename_i id' ver off len sz' g;simp only[zD,List.cons.injEq,and_true]at hd;subst hd;split at h
      ·rename_i k hk;split at h
       ·rename_i hq;split at h
        ·rename_i hn;simp only[qC.injEq,qG.injEq]at h;obtain⟨rfl,rfl⟩:=h;have hset:∀ K:za,K[id']? =some k→K.set id' k=K:=fun K hK=>qW fun i=>by
          by_cases e:id'=i
          ·subst e;rw[qI (qA.1 hK).1,hK]
          ·rw[qB e]
         refine⟨k,k,hk,(hset _ hk).symm,fun K hK hx=> ?_⟩;unfold pappend;simp only[hu,hs,hb,hz,zhX hx,hsrc,hK,hk];rw[if_pos hq0,if_pos hq,if_pos hn,hset K (hK.trans hk)]
        ·rename_i hn;simp only[qC.injEq,qG.injEq]at h;obtain⟨rfl,rfl⟩:=h;refine⟨k,⟨e,(k.cells++news).length,k.cells++news⟩,hk,rfl,fun K hK hx=> ?_⟩;unfold pappend;simp only[hu,hs,hb,hz,zhX hx,hsrc,hK,hk];rw[if_pos hq0,if_pos hq,if_neg hn]
       ·cases h
      ·cases h
     ·cases h
    ·cases h
   ·cases h
  ·cases h
 ·cases h
theorem zkP{t tx:TypeId}{xs ys:List PV}{len:Nat}{full g:Bool}{v:PV}{H':za}(h:pappend P H t tx (.slice xs len full) (.slice ys 0 g)=some (v,H')):H'=H∧∀ K,pappend P K t tx (.slice xs len full) (.slice ys 0 g)=some (v,K):=by
 have hs:∀ K:za,∀ e sz,zaA P K e sz tx (.slice ys 0 g)=zaA P H e sz tx (.slice ys 0 g):=fun K e sz=>zhX fun i hi=>by simp[zD]at hi
 have h0:∀ e sz news n,zaA P H e sz tx (.slice ys 0 g)=some (news,n)→n=0:=fun e sz news n h=>by
  unfold zaA at h;split at h
  ·unfold zac at h;dsimp only at h;split at h
   ·simp only[qC.injEq,qG.injEq]at h;exact h.2.symm
   ·cases h
  all_goals first|(rename_i hx;cases hx;done)|(cases h;done)|simp_all
 unfold pappend at h ⊢;simp only[hs];split at h
 ·split at h
  ·split at h
   ·split at h
    ·rename_i news n hsrc;have:=h0 _ _ _ _ hsrc;subst this;simp only[if_true,qC.injEq,qG.injEq]at h;obtain⟨rfl,rfl⟩:=h;exact⟨rfl,fun K=>by simp_all⟩
    ·cases h
   ·cases h
  ·cases h
 ·cases h
theorem zp1{ids:List Nat}{pm:List (Nat×List Nat)}{rs:List (Nat×Nat)}{ro:List Nat}{o:Oper}{f:Nat→PV}{v:PV}{H':za}(hc:zk o.op f=none)(hk:ztl ids pm rs o f=true)(h:zev P ids rs o f H=some (v,H')):
  Loc P ids rs (zas pm rs ro o) o f H v H':=by
 have st:∀{K K':za},zev P ids rs o f K=some (v,K')→StI P ids rs o f K v K':=fun{K K'} hp=>by unfold StI;rw[hc];exact hp
 unfold ztl at hk;cases hr:zlJ rs o with
 | some p=>
  have hfp:zas pm rs ro o=⟨[],[],[p],[p]⟩:=by unfold zas;rw[hr]
  unfold zev at h;rw[hr]at h;dsimp only at h;split at h
  ·rename_i r hrp;split at h
   ·rename_i b mk hb;split at h
    ·rename_i k hkr;split at h
     ·rename_i hq;simp only[qC.injEq,qG.injEq]at h;obtain⟨rfl,rfl⟩:=h;have hin:r∈atP ids [p]:=qT.2 ⟨p,by simp,hrp⟩;refine Loc.set hkr (by rw[hfp];exact hin) (.inr (by rw[hfp];exact hin)) fun K hK=>st ?_;unfold zev;rw[hr];simp only[hrp,hb,hK.inn r (.inr (by rw[hfp];exact hin)),hkr];rw[if_pos hq]
     ·cases h
    ·cases h
   ·cases h
  ·rename_i hrp;simp only[qD,qG.injEq]at h;obtain⟨v',hv',rfl,rfl⟩:=h;refine Loc.read fun K hK=>st ?_;unfold zev;rw[hr];simp only[hrp,hv',qX]
 | none=>
  rw[hr]at hk;have pI:∀ K,zev P ids rs o f K=pop P o.op f K:=fun K=>by unfold zev;rw[hr]
  rw[pI]at h;have st:∀{K K':za},pop P o.op f K=some (v,K')→StI P ids rs o f K v K':=fun{K K'} hp=>st (by rw[pI];exact hp);dsimp only at hk;split at hk
  ·rename_i hkind;obtain⟨rfl,_⟩:=zaw (ziu hkind) h H;exact Loc.read fun K hK=>st (zaw (ziu hkind) h K).2
  ·rename_i hkind;have hfp:zas pm rs ro o=⟨[],zaL pm o.op,[],[]⟩:=by unfold zas;rw[hr,hkind];rfl
   obtain⟨he,hl⟩:=zk1 (.inl hkind);obtain rfl:=zcD he h;refine Loc.read fun K hK=>st (zhb (hl hkind) (fun i hi=> ?_) h);rcases zm0 hk i hi with h|h
   ·unfold VEq;rw[hK.out i h]
   ·exact hK.liv i (by rw[hfp];exact h)
  ·rename_i hkind;have hfp:zas pm rs ro o=⟨zaL pm o.op,[],[],[]⟩:=by unfold zas;rw[hr,hkind];rfl
   obtain⟨he,_⟩:=zk1 (.inr hkind);obtain rfl:=zcD he h;exact Loc.read fun K hK=>st (zkA he (fun i hi=>hK.rd (by rw[hfp]) (zm0 hk i hi)) h)
  ·rename_i hkind;have hfp:zas pm rs ro o=⟨[],[],zdP pm o.op,[]⟩:=by unfold zas;rw[hr,hkind];rfl
   obtain⟨t,x,y,ho⟩:=zma hkind;rw[ho]at h hk hfp;simp only[pop,qD,qG.injEq]at h;obtain⟨H1,h,rfl,rfl⟩:=h;obtain⟨id,k,b,q1,q2,q3,rfl,q5⟩:=zlM h;have hin:id∈atP ids (zfG pm x):=zjz hk q1;refine Loc.set q2 (by rw[hfp];exact hin) (.inl q3) fun K hK=>st ?_;rw[ho];simp only[pop,q5 K (hK.inn id (.inr (by rw[hfp];exact hin))),qX]
  ·rename_i hkind;have hfp:zas pm rs ro o=⟨zaL pm o.op,[],zdP pm o.op,zdP pm o.op⟩:=by unfold zas;rw[hr,hkind];rfl
   obtain⟨args,ts,ho⟩:=zk2 hkind;have hops:o.op.operands.toList=args.toList:=by rw[ho];simp[Op.operands,Call.operands]
   have hf1:zjD o.op=args.toList[0]? :=by rw[ho];rfl
   split at hk
   ·rename_i x hx;simp only[Bool.or_eq_true,qL]at hk;rcases hk with hk|hk;rotate_left
    ·unfold zl6 at hk;rw[ho]at h hk;dsimp only at hk;split at hk
     ·rename_i xs len full ys g hal;have e1:∀ K,pop P (.call { callee:=.builtin .append,args:=args,argTypes:=ts }) f K=zu P K .append ts.toList [.slice xs len full,.slice ys 0 g]:=fun K=>by simp only[pop,hal]
      rw[e1]at h
      match htl:ts.toList,h with
      | [t,tx],h=>
       simp only[zu]at h;obtain⟨rfl,hK⟩:=zkP h;refine Loc.read fun K _=>st ?_;rw[ho,e1,htl];exact hK K
      | [],h=>simp[zu]at h
      | [_],h=>simp[zu]at h
      | _::_::_::_,h=>simp[zu]at h
     ·cases hk
    obtain⟨⟨k1,k2⟩,k3⟩:=hk;have hfs:zdP pm o.op=zfG pm x:=by unfold zdP;rw[hx]
    rw[hf1]at hx;rw[ho]at h;simp only[pop]at h
    match hal:args.toList,htl:ts.toList,hx,h with
    | [x',y],[t,tx],hx,h=>
     simp only[jA,qC.injEq]at hx;subst hx;simp only[qM,qO,zu]at h;obtain⟨id,hid⟩:∃ id,zD (ev f x')=[id]:=by cases hv:ev f x'<;>rw[hv]at k2<;>simp[zk5]at k2;exact⟨_,rfl⟩
     have hin:id∈atP ids (zfG pm x'):=zjz k1 hid;obtain⟨k,b,q2,rfl,q5⟩:=zkQ k2 hid h;refine Loc.set q2 (by rw[hfp];dsimp only;rw[hfs];exact hin) (.inr (by rw[hfp];dsimp only;rw[hfs];exact hin)) fun K hK=>st ?_;rw[ho];simp only[pop,hal,htl,qM,qO,zu];exact q5 K (hK.inn id (.inr (by rw[hfp];dsimp only;rw[hfs];exact hin))) fun i hi=>hK.rd (by rw[hfp]) (zl4 k3 y (by rw[hops,hal];simp) i hi)
    | [],_,hx,h=>simp at hx
    | [_],_,hx,h=>simp[zu]at h
    | _::_::_::_,_,hx,h=>simp[zu]at h
    | [_,_],[],hx,h=>simp[zu]at h
    | [_,_],[_],hx,h=>simp[zu]at h
    | [_,_],_::_::_::_,hx,h=>simp[zu]at h
   ·cases hk
  ·rename_i hkind;have hfp:zas pm rs ro o=⟨zaL pm o.op,[],zdP pm o.op,[]⟩:=by unfold zas;rw[hr,hkind];rfl
   obtain⟨args,ts,ho⟩:=zoh hkind;have hops:o.op.operands.toList=args.toList:=by rw[ho];simp[Op.operands,Call.operands]
   have hf1:zjD o.op=args.toList[0]? :=by rw[ho];rfl
   split at hk
   ·rename_i x hx;simp only[qL]at hk;obtain⟨k1,k3⟩:=hk;have hfs:zdP pm o.op=zfG pm x:=by unfold zdP;rw[hx]
    rw[hf1]at hx;rw[ho]at h;simp only[pop]at h
    match hal:args.toList,htl:ts.toList,hx,h with
    | [x',y],[t,tx],hx,h=>
     simp only[jA,qC.injEq]at hx;subst hx;simp only[qM,qO,zu]at h;obtain⟨id,hid⟩:∃ id,zD (ev f x')=[id]:=by
      unfold inO at k1;split at k1
      ·exact⟨_,by assumption⟩
      ·cases k1
     have hin:id∈atP ids (zfG pm x'):=zjz k1 hid;obtain⟨k,b,q2,q3,rfl,q5⟩:=zn9 hid h;refine Loc.set q2 (by rw[hfp];dsimp only;rw[hfs];exact hin) (.inl q3) fun K hK=>st ?_;rw[ho];simp only[pop,hal,htl,qM,qO,zu];exact q5 K (hK.inn id (.inr (by rw[hfp];dsimp only;rw[hfs];exact hin))) fun i hi=>hK.rd (by rw[hfp]) (zl4 k3 y (by rw[hops,hal];simp) i hi)
    | [],_,hx,h=>simp at hx
    | [_],_,hx,h=>simp[zu]at h
    | _::_::_::_,_,hx,h=>simp[zu]at h
    | [_,_],[],hx,h=>simp[zu]at h
    | [_,_],[_],hx,h=>simp[zu]at h
    | [_,_],_::_::_::_,hx,h=>simp[zu]at h
   ·cases hk
  ·rename_i hkind;have hfp:zas pm rs ro o=⟨zaL pm o.op,[],zdP pm o.op,[]⟩:=by unfold zas;rw[hr,hkind];rfl
   obtain⟨t,m,kk,x,ho⟩:=zqM hkind;have hp2:∀ K,pop P o.op f K=(zca P K t (ev f m) (ev f kk) (ev f x)).map fun H'=>(.tup [],H'):=fun K=>by rcases ho with ho|ho<;>rw[ho]<;>rfl
   have hf1:zjD o.op=some m:=by rcases ho with ho|ho<;>rw[ho]<;>rfl
   have hfs:zdP pm o.op=zfG pm m:=by unfold zdP;rw[hf1]
   rw[hf1]at hk;simp only[qL]at hk;obtain⟨k1,k3⟩:=hk;rw[hp2]at h;simp only[qD,qG.injEq]at h;obtain⟨H1,h,rfl,rfl⟩:=h;obtain⟨id,k,b,q1,q2,q3,rfl,q5⟩:=zn2 h;have hin:id∈atP ids (zfG pm m):=zjz k1 q1;refine Loc.set q2 (by rw[hfp];dsimp only;rw[hfs];exact hin) (.inl q3) fun K hK=>st ?_;rw[hp2,q5 K (hK.inn id (.inr (by rw[hfp];dsimp only;rw[hfs];exact hin)))];rfl
  ·cases hk
def znM(P:Program)(dr:Bool)(ids:List Nat)(pm:List (Nat×List Nat))(rs:List (Nat×Nat))(ds:List (Option Nat))(o:Oper)(F:Fr)(H:za):Option (Fr×za):=
 match zan ds F o with
 | none=>none
 | some b=>cond b (match !dr||ztl ids pm rs o (slot F)with
  | true=>(match zev P ids rs o (slot F) H with|some (v,H')=>some (put F o.dst v,H')|none=>none)
  | false=>none) (some (put F o.dst (.tup []),H))
def VCj(P:Program)(dr:Bool)(ids:List Nat)(fp:Fp)(rs:List (Nat×Nat))(o:Oper)(F:Fr)(H:za)(K:Fr→za→Prop):Prop:=
 match zk o.op (slot F)with
 | some (g,args)=>∃ v H',(match dr with|true=>Loc P ids rs fp o (slot F) H v H'|false=>CallOk P g args H v H')∧K (put F o.dst v) H'
 | none=>False
def VCi(P:Program)(dr:Bool)(ids:List Nat)(fp:Fp)(rs:List (Nat×Nat))(ds:List (Option Nat))(o:Oper)(F:Fr)(H:za)(K:Fr→za→Prop):Prop:=
 match zan ds F o with
 | none=>False
 | some b=>(b=true→VCj P dr ids fp rs o F H K)∧(b=false→K (put F o.dst (.tup [])) H)
def VOi(P:Program)(dr:Bool)(ids:List Nat)(pm:List (Nat×List Nat))(rs:List (Nat×Nat))(ro:List Nat)(ds:List (Option Nat)):List Oper→Option (Fr×za)→(Fr→za→Prop)→Prop
 | _,none,_=>False
 | [],some (F,H),K=>K F H
 | o::r,some (F,H),K=>match zE o.op with
  | false=>VOi P dr ids pm rs ro ds r (znM P dr ids pm rs ds o F H) K
  | true=>VCi P dr ids (zas pm rs ro o) rs ds o F H fun F' H'=>VOi P dr ids pm rs ro ds r (some (F',H')) K
def VRi(P:Program)(dr:Bool)(ids:List Nat)(pm:List (Nat×List Nat))(rs:List (Nat×Nat))(ro:List Nat)(ds:List (Option Nat))(r:List Oper)(K:Fr→za→Prop)(F:Fr)(H:za):Prop:=VOi P dr ids pm rs ro ds r (some (F,H)) K
theorem ztw(dr:Bool)(ids:List Nat)(pm:List (Nat×List Nat))(rs:List (Nat×Nat))(ro:List Nat)(ds:List (Option Nat))(K:Fr→za→Prop)(F:Fr)(H:za):VOi P dr ids pm rs ro ds [] (some (F,H)) K=K F H:=rfl
theorem zcj(dr:Bool)(ids:List Nat)(pm:List (Nat×List Nat))(rs:List (Nat×Nat))(ro:List Nat)(ds:List (Option Nat))(l:List Oper)(K:Fr→za→Prop):VOi P dr ids pm rs ro ds l none K=False:=by cases l<;>rfl
theorem zrN(dr:Bool)(ids:List Nat)(pm:List (Nat×List Nat))(rs:List (Nat×Nat))(ro:List Nat)(ds:List (Option Nat))(o:Oper)(r:List Oper)(K:Fr→za→Prop)(F:Fr)(H:za):
  VOi P dr ids pm rs ro ds (o::r) (some (F,H)) K=match zE o.op with|false=>VOi P dr ids pm rs ro ds r (znM P dr ids pm rs ds o F H) K|true=>VCi P dr ids (zas pm rs ro o) rs ds o F H (VRi P dr ids pm rs ro ds r K):=by
 cases h:zE o.op with
 | false=>simp only[VOi,h]
 | true=>simp only[VOi,h];rfl
theorem zY{dr:Bool}{ids:List Nat}{pm:List (Nat×List Nat)}{rs:List (Nat×Nat)}{ro:List Nat}{ds:List (Option Nat)}{l:List Oper}{K:Fr→za→Prop}{x:Bool}{A B:Option (Fr×za)}(h1:x=true→VOi P dr ids pm rs ro ds l A K)(h2:x=false→VOi P dr ids pm rs ro ds l B K):VOi P dr ids pm rs ro ds l (cond x A B) K:=by
 cases x with
 | true=>exact h1 rfl
 | false=>exact h2 rfl
theorem VCj.read{dr:Bool}{ids:List Nat}{fp:Fp}{rs:List (Nat×Nat)}{o:Oper}{K:Fr→za→Prop}{g:FuncId}{args:List PV}{v:PV}(h:∀ L,Agr ids fp H L→CallOk P g args L v L)(hc:zk o.op (slot F)=some (g,args))(hk:K (put F o.dst v) H):VCj P dr ids fp rs o F H K:=by
 unfold VCj;simp only[hc];refine⟨v,H,?_,hk⟩;cases dr with
 | false=>exact h H (.refl _ _ _)
 | true=>exact Loc.read fun L hL=>by unfold StI;rw[hc];exact h L hL
theorem VCj.wr1{dr:Bool}{ids:List Nat}{fp:Fp}{rs:List (Nat×Nat)}{o:Oper}{K:Fr→za→Prop}{g:FuncId}{args:List PV}{v:PV}{id:Nat}{k b:Blk}(hkk:H[id]? =some k)(h:∀ L:za,L[id]? =some k→Agr ids fp H L→CallOk P g args L v (L.set id b))(hw:(atP ids fp.w).elem id=true)(hv:b.ver=k.ver∨(atP ids fp.v).elem id=true)
  (hc:zk o.op (slot F)=some (g,args)) (hk:K (put F o.dst v) (H.set id b)):VCj P dr ids fp rs o F H K:=by
 unfold VCj;simp only[hc];refine⟨v,H.set id b,?_,hk⟩;have hw':id∈atP ids fp.w:=by simpa[qE]using hw
 cases dr with
 | false=>exact h H hkk (.refl _ _ _)
 | true=>exact Loc.set hkk hw' (by rcases hv with h|h;exact .inl h;exact .inr (by simpa[qE]using h)) fun L hL=>by unfold StI;rw[hc];exact h L ((hL.inn id (.inr hw')).trans hkk) hL
theorem zde{op:Op}(h:zE op=false)(f:Nat→PV):zk op f=none:=by
 unfold zk;split
 ·simp[zE]at h
 ·rfl
theorem znw{all:List Oper}{ids:List Nat}{pm:List (Nat×List Nat)}{rs:List (Nat×Nat)}{ro:List Nat}{K:Fr→za→Prop}:∀(l:List Oper) (F:Fr) (H:za),VOi P true ids pm rs ro (all.map (·.dst)) l (some (F,H)) K→RunG (ExI P all ids pm rs ro) l (slot F) H (fun f H'=>∃ F',f=slot F'∧K F' H')
 | [],F,H,h=>⟨F,rfl,h⟩
 | o::r,F,H,h=>by
  simp only[VOi]at h;have go:∀ v H',ExI P all ids pm rs ro o (slot F) H v H'→VOi P true ids pm rs ro (all.map (·.dst)) r (some (put F o.dst v,H')) K→RunG (ExI P all ids pm rs ro) (o::r) (slot F) H (fun f H'=>∃ F',f=slot F'∧K F' H'):=fun v H' he hr=>by refine⟨v,H',he,?_⟩;rw[←zU];exact znw r _ _ hr
  cases hc:zE o.op with
  | false=>
   simp only[hc]at h;unfold znM at h;split at h
   ·rw[zcj]at h;exact h.elim
   ·rename_i b hb;cases b with
    | false=>exact go _ _ (.inl ⟨zq all F o hb,rfl,rfl⟩) h
    | true=>
     simp only[cond_true,Bool.not_true,Bool.false_or]at h;split at h
     ·rename_i hk;split at h
      ·rename_i v H' hp;exact go v H' (.inr ⟨zq all F o hb,zp1 (zde hc _) hk hp⟩) h
      ·rw[zcj]at h;exact h.elim
     ·rw[zcj]at h;exact h.elim
  | true=>
   simp only[hc]at h;unfold VCi at h;split at h
   ·exact h.elim
   ·rename_i b hb;cases b with
    | false=>exact go _ _ (.inl ⟨zq all F o hb,rfl,rfl⟩) (h.2 rfl)
    | true=>
     have h:=h.1 rfl;unfold VCj at h;split at h
     ·rename_i fn args hp;obtain⟨v,H',h1,h2⟩:=h;exact go v H' (.inr ⟨zq all F o hb,h1⟩) h2
     ·exact h.elim
theorem PW.drawi{E:Env}{Q:Exit→Fr→za→Prop}{id:Nat}{ops:Array Oper}(ids:List Nat)(pm:List (Nat×List Nat))(rs:List (Nat×Nat))(ro:List Nat)(hm:P.follows .mixedOrders=true)(hd:zjH (zgA (ops.toList.map (·.dst)) pm rs ro) E.N ops.toList=true)(hnd:ids.Nodup)
  (h:∀ K:Fr→za→Prop,(∀ F' H',Q .normal F' H'→K F' H')→VOi P true ids pm rs ro (ops.toList.map (·.dst)) ops.toList (some (F,H)) K):PW P E (.region id ops true) F H Q:=fun hs C a w hdf hw hf=>by
 refine wp_region_any hm ?_;have hr:=znw (P:=P) _ _ _ (h (fun F' H'=>Q .normal F' H') fun _ _ h=>h);have hall:∀ i,i<ops.toList.length→zhO (zgA (ops.toList.map (·.dst)) pm rs ro) (zgf ops.toList) E.N ops.toList i=true:=by intro i hi;unfold zjH at hd;exact qK.1 hd i (List.mem_range.2 hi)
 refine znu (P:=P) hall (zwB hnd) zwD ops.size (Array.replicate ops.size false) (slot F) H C a w.drew sp ?_ (by rw[zbJ];simp) (by rw[zbJ,zgF];exact hr) hdf hw.drew hf ?_
 ·intro i o ho hl j hj;have hi:i<ops.size:=(Array.getElem?_eq_some_iff.1 ho).1;simp[Array.getD,hi]at hl
 ·rintro C' f' H' a' w' p1 p2 p3 p4 p5 ⟨F',rfl,p6⟩;exact⟨C',F',H',p1.toN _,p2,p3,((Below.refl C.B w).drew).trans p4,p5,p6⟩
theorem zuX{all:List Oper}{ids:List Nat}{pm:List (Nat×List Nat)}{rs:List (Nat×Nat)}{ro:List Nat}{K:Fr→za→Prop}:∀(l:List Oper) (F:Fr) (H:za),l.all (zI N)=true→VOi P false ids pm rs ro (all.map (·.dst)) l (some (F,H)) K→∀(C:Ctx) (a:Act) (w:World),a.defers=[]→WRel C H w→FRel C N (slot F) a→
  ∀ Q:Exit→Act→World→Prop,(∀ C' F' H' a' w',CLe C C'→a'.defers=[]→WRel C' H' w'→Below C.B w w'→FRel C' N (slot F') a'→K F' H'→Q .normal a' w')→wpList P all.toArray Q l a w
 | [],F,H,_,h,C,a,w,hd,hw,hf,Q,hQ=>hQ C F H a w (.refl _) hd hw (.refl _ _) hf h
 | o::r,F,H,hall,h,C,a,w,hd,hw,hf,Q,hQ=>by
  simp only[List.all_cons,qL]at hall;simp only[VOi]at h;have go:∀ v H',zan (all.map (·.dst)) F o=some true→StI P ids rs o (slot F) H v H'→VOi P false ids pm rs ro (all.map (·.dst)) r (some (put F o.dst v,H')) K→wpList P all.toArray Q (o::r) a w:=fun v H' hb hst hr=>by have hwant:=zJ hf (zq all F o hb);unfold wpList;rw[if_pos hwant];left;refine zfw hall.1 hw hf hst _ _ fun C' u w' q1 q2 q3 q4=> ?_;rw[←zU]at q4;refine zuX r _ _ hall.2 hr C' _ w' (by cases ho:o.dst<;>simp[Act.put,hd]) q2 q4 Q ?_;intro C'' F'' H'' a'' w'' p1 p2 p3 p4 p5 p6;exact hQ C'' F'' H'' a'' w'' (q1.trans p1) p2 p3 (q3.trans (by rw[←q1.B];exact p4)) p5 p6
  have no:zan (all.map (·.dst)) F o=some false→VOi P false ids pm rs ro (all.map (·.dst)) r (some (put F o.dst (.tup []),H)) K→wpList P all.toArray Q (o::r) a w:=fun hb hr=>by have hwant:=zJ hf (zq all F o hb);unfold wpList;rw[if_neg (by rw[hwant];simp)];have q4:=hf.put o.dst (zay hall.1) (VRel.undefV (C:=C));rw[←zU]at q4;exact zuX r _ _ hall.2 hr C _ w (by cases ho:o.dst<;>simp[Act.put,hd]) hw q4 Q hQ
  cases hc:zE o.op with
  | false=>
   simp only[hc]at h;unfold znM at h;split at h
   ·rw[zcj]at h;exact h.elim
   ·rename_i b hb;cases b with
    | false=>exact no hb h
    | true=>
     simp only[cond_true,Bool.not_false,Bool.true_or]at h;split at h
     ·rename_i v H' hp;exact go v H' hb (by unfold StI;rw[zde hc];exact hp) h
     ·rw[zcj]at h;exact h.elim
  | true=>
   simp only[hc]at h;unfold VCi at h;split at h
   ·exact h.elim
   ·rename_i b hb;cases b with
    | false=>exact no hb (h.2 rfl)
    | true=>
     have h:=h.1 rfl;unfold VCj at h;split at h
     ·rename_i fn args hp;obtain⟨v,H',h1,h2⟩:=h;exact go v H' hb (by unfold StI;rw[hp];exact h1) h2
     ·exact h.elim
theorem PW.seqi{E:Env}{Q:Exit→Fr→za→Prop}{id:Nat}{ops:Array Oper}(ids:List Nat)(rs:List (Nat×Nat))(hd:ops.toList.all (zI E.N)=true)
  (h:∀ K:Fr→za→Prop,(∀ F' H',Q .normal F' H'→K F' H')→VOi P false ids [] rs [] (ops.toList.map (·.dst)) ops.toList (some (F,H)) K):PW P E (.region id ops false) F H Q:=fun hs C a w hdf hw hf=>by
 refine wp_region_list ?_;have:=zuX (P:=P) (all:=ops.toList) ops.toList F H hd (h (fun F' H'=>Q .normal F' H') fun _ _ h=>h) C a w hdf hw hf (Post E C w Q) (fun C' F' H' a' w' p1 p2 p3 p4 p5 p6=>⟨C',F',H',p1.toN _,p2,p3,p4,p5,p6⟩);simpa using this
end Go.Proofs.YtpjlfoficnpfoaaGreatDoor.Pm
namespace Go.Proofs.YtpjlfoficnpfoaaGreatDoor.Pm
set_option linter.all false
open Go.RowKit
attribute [go_sem] ztw zrN VRi VCi znM ztl zev zlJ zt7 zlR zhd zbm zjD zdP zl6 okO inO zk5 zpY zfG zaL atP zas dis Call.operands List.filterMap_cons_some List.filterMap_nil List.filterMap_cons jH
end Go.Proofs.YtpjlfoficnpfoaaGreatDoor.Pm
namespace Go.Proofs.YtpjlfoficnpfoaaGreatDoor.Sc
set_option linter.all false
open Pm Ty Go.RowKit
theorem _root_.Go.Proofs.YtpjlfoficnpfoaaGreatDoor.Pm.CallOk.fin{P:Program}{f:FuncId}{args:List PV}{v v':PV}{H H1 Hout:za}(h:CallOk P f args H v' H1)(hf:HSc H→H.length≤Hout.length∧CutH H1 Hout∧Fz Hout.length H1 v' v):CallOk P f args H v Hout:=
 ⟨h.1,fun C us w hw hargs=>(h.2 C us w hw hargs).mono fun e w' ⟨C',u,q1,q2,q3,q4,q5⟩=>by
  obtain⟨hlen,hcut,hfz⟩:=hf hw.hsc;obtain⟨g1,g2⟩:=q2.cutN hcut;exact⟨_,u,((q1.toN _).trans (g1.less hlen)).full hw.lenv,g2,q3,q4,hfz.sound q2 q5⟩⟩
theorem _root_.Go.Proofs.YtpjlfoficnpfoaaGreatDoor.Pm.CallOk.base{P:Program}{f:FuncId}{args:List PV}{v v':PV}{H K:za}(h:CallOk P f args H v' (H++K))(hf:Fz H.length (H++K) v' v):CallOk P f args H v H:=h.fin fun hs=>⟨qP _,CutH.base hs,hf⟩
theorem apn(H K:za)(n:Nat):(H++K)[H.length+n]? =K[n]? :=by rw[qZ om,show H.length+n - H.length=n from om]
theorem aps(H K:za)(n:Nat)(X:Blk):(H++K).set (H.length+n) X=H++K.set n X:=by rw[jC _ _ om,show H.length+n - H.length=n from om]
theorem VCj.wrT{P:Program}{F:Fr}{H:za}{dr:Bool}{ids:List Nat}{fp:Fp}{rs:List (Nat×Nat)}{o:Oper}{K:Fr→za→Prop}{g:FuncId}{args:List PV}{v:PV}{i j:Nat}{k l A B:Blk}(hi:H[i]? =some k)(hj:H[j]? =some l)(hne:i≠j)
  (h:∀ L:za,L[i]? =some k→L[j]? =some l→CallOk P g args L v (two L i j A B)) (hwi:(atP ids fp.w).elem i=true) (hwj:(atP ids fp.w).elem j=true) (hvi:(atP ids fp.v).elem i=true) (hvj:(atP ids fp.v).elem j=true)
  (hc:zk o.op (slot F)=some (g,args)) (hk:K (put F o.dst v) (two H i j A B)):VCj P dr ids fp rs o F H K:=by
 unfold VCj;simp only[hc];refine⟨v,two H i j A B,?_,hk⟩;have wi:i∈atP ids fp.w:=by simpa[qE]using hwi
 have wj:j∈atP ids fp.w:=by simpa[qE]using hwj
 have vi:i∈atP ids fp.v:=by simpa[qE]using hvi
 have vj:j∈atP ids fp.v:=by simpa[qE]using hvj
 have upd:∀ L:za,L[i]? =some k→L[j]? =some l→Upd ids fp L (two L i j A B):=fun L hi hj=>by have u1:Upd ids fp L (L.set i A):=Upd.set hi wi (.inr vi);have u2:Upd ids fp (L.set i A) ((L.set i A).set j B):=Upd.set (k:=l) (by rw[qB hne];exact hj) wj (.inr vj);exact⟨by rw[zaF],fun x hx=>(u2.out x hx).trans (u1.out x hx),fun x hx=>Eq.trans (u2.ver x hx) (u1.ver x hx)⟩
 cases dr with
 | false=>exact h H hi hj
 | true=>
  refine⟨upd H hi hj,fun L hL=> ?_⟩;have li:=(hL.inn i (.inr wi)).trans hi;have lj:=(hL.inn j (.inr wj)).trans hj;refine⟨two L i j A B,by unfold StI;rw[hc];exact h L li lj,upd L li lj,fun x hx=> ?_⟩;have hlen:=hL.len;have hij:i<H.length∧j<H.length:=⟨(qA.1 hi).1,(qA.1 hj).1⟩;by_cases e:x=i
  ·subst e;rw[zeK _ _ _ _ _ ⟨om,hne⟩,zeK _ _ _ _ _ ⟨om,hne⟩]
  ·by_cases e':x=j
   ·subst e';rw[zeJ _ _ _ _ _ om,zeJ _ _ _ _ _ om]
   ·unfold two;rw[qB (Ne.symm e'),qB (Ne.symm e),qB (Ne.symm e'),qB (Ne.symm e),hL.inn x (.inr hx)]
theorem zaW{α:Type}(enc:α→List PV)(N:Nat):∀(l:List α),(∀ x∈l,(enc x).length=N)→(l.flatMap enc).length=l.length * N
 | [],_=>by simp
 | a::r,h=>by rw[qV,qF,zaW enc N r (fun x hx=>h x (jG _ hx)),h a (qU ..),List.length_cons,qY,Nat.one_mul,Nat.add_comm]
theorem zc8{α:Type}(enc:α→List PV)(N:Nat):∀(l:List α) (k:Nat) (hk:k<l.length),(∀ x∈l,(enc x).length=N)→qR N (qH (k * N) (l.flatMap enc))=enc l[k]
 | [],k,hk,_=>by simp at hk
 | a::r,0,_,h=>by
  rw[Nat.zero_mul,List.drop_zero,qV];exact List.take_left' (h a (qU ..))
 | a::r,k+1,hk,h=>by
  have e:(k+1) * N=(enc a).length+k * N:=by rw[h a (qU ..),qY,Nat.one_mul,Nat.add_comm]
  rw[qV,e,←List.drop_drop,List.drop_left];exact zc8 enc N r k (by simpa using hk) (fun x hx=>h x (jG _ hx))
theorem zhC{H K:za}(hK:∀ b∈K,∀ x∈b.cells,Scoped (H.length+K.length) x)(h:HSc H):HSc (H++K):=fun id k hk x hx=>by
 rw[qF];rw[List.getElem?_append]at hk;split at hk
 ·exact(h id k hk x hx).mono om
 ·exact hK k (jF hk) x hx
theorem zmT(p:Pi)(n:Nat):∀ x∈pic p,Scoped n x:=fun x hx=>by
 simp only[pic,qQ,qJ,or_false]at hx;rcases hx with rfl|rfl|rfl|rfl|rfl|rfl
 ·exact .int _ _
 ·exact .int _ _
 ·exact .int _ _
 ·exact .bool _
 ·exact .bool _
 ·exact .bool _
theorem zcf{α:Type}(enc:α→List PV)(N:Nat)(l:List α)(k r:Nat)(hk:k<l.length)(hl:∀ x∈l,(enc x).length=N)(hr:r<N):(l.flatMap enc)[k * N+r]? =(enc l[k])[r]? :=by rw[←zc8 enc N l k hk hl,List.getElem?_take,if_pos hr,List.getElem?_drop]
def uq1(u:Int×List UInt8):List PV:=[.int .i64 u.1,.slice (bs u.2) u.2.length false]
def uq(us:List (Int×List UInt8)):List PV:=us.flatMap uq1
theorem zcr(us:List (Int×List UInt8)):(uq us).length=us.length * 2:=zaW uq1 2 us fun _ _=>rfl
theorem zj5(us:List (Int×List UInt8))(k:Nat)(hk:k<us.length):qR 2 (qH (k * 2) (uq us))=uq1 us[k]:=zc8 uq1 2 us k hk fun _ _=>rfl
theorem zwf(us:List (Int×List UInt8))(k:Nat)(hk:k<us.length):(uq us)[k * 2]? =some (.int .i64 us[k].1):=zcf uq1 2 us k 0 hk (fun _ _=>rfl) om
theorem uq_1(us:List (Int×List UInt8))(k:Nat)(hk:k<us.length):(uq us)[k * 2+1]? =some (.slice (bs us[k].2) us[k].2.length false):=zcf uq1 2 us k 1 hk (fun _ _=>rfl) om
theorem zj4(n:Nat)(us:List (Int×List UInt8)):∀ x∈uq us,Scoped n x:=fun x hx=>by
 obtain⟨u,_,hx⟩:=List.mem_flatMap.1 hx;simp only[uq1,qQ,qJ,or_false]at hx;rcases hx with rfl|rfl
 ·exact .int _ _
 ·exact zl (zo _ _)
def zh0(u:List UInt8):List PV:=[.slice (bs u) u.length false]
def usr(U:List (List UInt8)):PV:=.slice (U.flatMap zh0) U.length false
theorem zur(n:Nat)(U:List (List UInt8)):Scoped n (usr U):=zl fun x hx=>by obtain⟨u,_,hx⟩:=List.mem_flatMap.1 hx;simp only[zh0,qQ,qJ,or_false]at hx;rw[hx];exact zl (zo _ _)
def cdc(p:Pi)(U:List (List UInt8))(us:List (Int×List UInt8)):List PV:=pic p++[usr U,.slice (uq us) us.length false]
theorem zjL(p:Pi)(U:List (List UInt8))(us:List (Int×List UInt8)):(cdc p U us).length=8:=rfl
theorem zlf(p:Pi)(U:List (List UInt8))(us:List (Int×List UInt8)):(cdc p U us).all PV.cell=true:=rfl
theorem zud(p:Pi)(U:List (List UInt8))(us:List (Int×List UInt8)):(cdc p U us)[7]? =some (.slice (uq us) us.length false):=rfl
theorem zjK(n:Nat)(p:Pi)(U:List (List UInt8))(us:List (Int×List UInt8)):∀ x∈cdc p U us,Scoped n x:=fun x hx=>by
 rcases qN.1 hx with hx|hx
 ·exact zmT _ _ x hx
 ·simp only[qQ,qJ,or_false]at hx;rcases hx with rfl|rfl
  ·exact zur _ _
  ·exact zl (zj4 _ _)
structure It where
 k:Int
 s:Sq
 gc:Bool
 gb:Bool
 gt:Int
 p:Pi
 U:List (List UInt8)
 us:List (Int×List UInt8)
 pad:Int
def itc(x:It):List PV:=.int .i64 x.k::(sqc x.s++(.bool x.gc:: .bool x.gb:: .int .i64 x.gt::(cdc x.p x.U x.us++[.int .i64 x.pad])))
structure ItOk(x:It):Prop where
 s:SqOk x.s
 k:zfP x.k
 gt:zfP x.gt
 pad:zfP x.pad
 ut:∀ u∈x.us,zfP u.1
theorem zpn(s:Sq)(hs:SqOk s):(sqc s).length=135:=by simp[sqc,zc,hs.ia,hs.ie]
theorem zbZ(x:It)(h:SqOk x.s):(itc x).length=148:=by simp only[itc,List.length_cons,qF,zpn x.s h,zjL,List.length_nil]
theorem zcG(x:It):(itc x).all PV.cell=true:=by simp[itc,sqc,bs,cdc,pic,usr,PV.cell]
theorem zbK(x:It):(itc x)[0]? =some (.int .i64 x.k):=rfl
theorem zk3(x:It)(h:SqOk x.s):qR 135 (qH 1 (itc x))=sqc x.s:=by show qR 135 (sqc x.s++_)=_;exact List.take_left' (zpn x.s h)
theorem zm9(x:It)(h:SqOk x.s)(n:Nat):qH (136+n) (itc x)=qH n (.bool x.gc:: .bool x.gb:: .int .i64 x.gt::(cdc x.p x.U x.us++[.int .i64 x.pad])):=by
 have e:qH 136 (itc x)= .bool x.gc:: .bool x.gb:: .int .i64 x.gt::(cdc x.p x.U x.us++[.int .i64 x.pad]):=by show qH 135 (sqc x.s++_)=_;exact List.drop_left' (zpn x.s h)
 rw[←List.drop_drop,e]
theorem zt4(x:It)(h:SqOk x.s):qR 3 (qH 136 (itc x))=[.bool x.gc,.bool x.gb,.int .i64 x.gt]:=by have:=zm9 x h 0;rw[this];rfl
theorem zk4(x:It)(h:SqOk x.s):qR 8 (qH 139 (itc x))=cdc x.p x.U x.us:=by have:=zm9 x h 3;rw[this];rfl
theorem zqR(x:It)(h:SqOk x.s):qR 6 (qH 139 (itc x))=pic x.p:=by have:=zm9 x h 3;rw[this];rfl
theorem zcd(x:It)(h:SqOk x.s)(n:Nat):(itc x)[136+n]? =(.bool x.gc:: .bool x.gb:: .int .i64 x.gt::(cdc x.p x.U x.us++[.int .i64 x.pad]))[n]? :=by have:=congrArg (·[0]?) (zm9 x h n);simpa using this
theorem zw0(x:It)(h:SqOk x.s):(itc x)[145]? =some (usr x.U):=zcd x h 9
theorem zvs(x:It)(h:SqOk x.s):(itc x)[146]? =some (.slice (uq x.us) x.us.length false):=zcd x h 10
theorem zd5(x:It)(h:SqOk x.s):(itc x)[147]? =some (.int .i64 x.pad):=zcd x h 11
theorem zjx(n:Nat)(x:It):∀ y∈itc x,Scoped n y:=fun y hy=>by
 simp only[itc,qQ,qN,qJ,or_false]at hy;rcases hy with rfl|hy|rfl|rfl|rfl|hy|rfl
 ·exact .int _ _
 ·exact zV _ _ y hy
 ·exact .bool _
 ·exact .bool _
 ·exact .int _ _
 ·exact zjK _ _ _ _ y hy
 ·exact .int _ _
end Go.Proofs.YtpjlfoficnpfoaaGreatDoor.Sc
namespace Go.Proofs.YtpjlfoficnpfoaaGreatDoor.Lg
set_option linter.all false
open Go.ChangeShapes Go.WideShapes Go.ChangeAt Go.RowKit Pm Sc Lp
theorem znR{ps:List PV}(h:Shp Tryz.prog 41 ps):∃(c b:Bool) (t:Int),ps=[.bool c,.bool b,.int .i64 t]∧(-9223372036854775808≤t∧t≤9223372036854775807):=by
 obtain⟨pss,rfl,hf⟩:=h.fields Tryz.underlying41
 match pss,hf with
 | [a,b,c],⟨ha,hb,hc,_⟩=>obtain⟨a,rfl⟩:=zcA ha;obtain⟨b,rfl⟩:=zcA hb;obtain⟨c,rfl,h3⟩:=zbj hc;exact⟨a,b,c,rfl,h3⟩
theorem znS{ps:List PV}(h:Shp Tryz.prog 39 ps):∃(p:Pi) (U:List (List UInt8)) (us:List (Int×List UInt8)),ps=cdc p U us∧U.length≤maxLen∧us.length≤maxLen∧∀ u∈us,zfP u.1:=by
 obtain⟨pss,rfl,hf⟩:=h.fields Tryz.underlying39
 match pss,hf with
 | [p,u,l],⟨hp,hu,hl,_⟩=>
  obtain⟨p,rfl,_⟩:=zsk hp;obtain⟨U,rfl,hU,_⟩:=hu.of_list (enc:=zh0) (good:=fun _=>True) Tryz.underlying36 (fun q hq=>by
   obtain⟨x,rfl⟩:=zij hq;exact⟨x,rfl,trivial⟩)
  obtain⟨us,rfl,hm,hg⟩:=hl.of_list (enc:=uq1) (good:=fun u=>zfP u.1) Tryz.underlying37 (fun q hq=>by
   obtain⟨t,x,rfl,ht⟩:=zps hq;exact⟨(t,x),rfl,ht⟩)
  exact⟨p,U,us,rfl,hU,hm,hg⟩
theorem zpu{ps:List PV}(h:Shp Tryz.prog 43 ps):∃ x:It,ps=itc x∧ItOk x:=by
 obtain⟨pss,rfl,hf⟩:=h.fields Tryz.underlying43
 match pss,hf with
 | [k,s,g,c,p],⟨hk,hs,hg,hc,hp,_⟩=>obtain⟨k,rfl,h1⟩:=zbj hk;obtain⟨s,rfl,h2⟩:=zsi hs;obtain⟨gc,gb,gt,rfl,h3⟩:=znR hg;obtain⟨p,U,us,rfl,_,_,h4⟩:=znS hc;obtain⟨n,rfl,h5⟩:=zbj hp;exact⟨⟨k,s,gc,gb,gt,p,U,us,n⟩,by simp[itc],⟨h2,h1,h3,h5,h4⟩⟩
theorem znQ{ps:List PV}(h:Shp Tryz.prog 22 ps):∃ l:List It,ps=[.slice (l.flatMap itc) l.length false]∧∀ x∈l,ItOk x:=by obtain⟨l,rfl,_,hg⟩:=h.of_list (enc:=itc) (good:=ItOk) Tryz.underlying22 (fun q hq=>zpu hq);exact⟨l,rfl,hg⟩
end Go.Proofs.YtpjlfoficnpfoaaGreatDoor.Lg
