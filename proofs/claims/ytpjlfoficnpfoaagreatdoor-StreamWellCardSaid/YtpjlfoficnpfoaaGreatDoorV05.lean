/-
  Parts of the proof, put together in one text. No condition.
-/
import Derived.Test.YtpjlfoficnpfoaaGreatDoorV04
import Derived.Orders
open Array renaming mem_toList_iff → qE, getElem?_eq_getElem → qF, getD_eq_getD_getElem? → qL, getElem?_eq_some_iff → qN, all_eq_true_iff_forall_mem → qY, replicate → jD, toArray_toList → jM, getD → jP
open Bool renaming and_eq_true → qM, not_eq_true' → qQ, or_eq_true → qS
open List renaming getElem?_set_ne → qA, getElem?_eq_some_iff → qB, getElem?_set → qD, getElem?_eq_getElem → qH, getElem?_append_left → qI, mem_cons_self → qK, mem_range → qO, mem_or_eq_of_mem_set → qP, range → qR, mem_of_getElem? → qU, map_congr_left → qV, filter_eq_self → qW, pairwise_cons → qX, append_assoc → qZ, take_length → jA, all_eq_true → jB, eq_nil_of_length_eq_zero → jC, mem_filter → jF, mem_append → jG, getElem?_append_right → jI, drop_zero → jJ, filterMap_cons_some → jK, filterMap_append → jL, pairwise_append → jN, mem_cons_of_mem → jO
open Nat renaming eq_of_beq_eq_true → qT, le_refl → jE, beq → jH
open Option renaming map_eq_some_iff → qC, some → qG
open Prod renaming mk → qJ
namespace Go.Proofs.YtpjlfoficnpfoaaGreatDoor.Pm
set_option linter.all false
open Go.RowKit
variable {P:Program} {C:Ctx} {H:za} {w:World} {F:Fr} {a:Act} {N:Nat}
def zo1(xs:List Operand):List Nat:=xs.filterMap fun| .tmp t=>some t|_=>none
def zq0(ds:List (Option Nat))(o:Oper):List Nat:=match o.guard with|none=>[]|some (j,_)=>match ds[j]? with|some (some d)=>[d]|_=>[]
def zin(ds:List (Option Nat))(o:Oper):List Nat:=zo1 o.op.operands.toList++zq0 ds o
def zmi:Builtin→Bool
 | .len| .min| .max=>false
 | _=>true
def eff:Op→Bool
 | .box .. | .alloc .. | .store .. | .makeSlice .. | .makeMap .. | .mapUpdate .. | .insert .. =>true
 | .call { callee:=.builtin b,.. }=>zmi b
 | _=>false
def zrC:BinOp→Bool
 | .add| .sub=>true
 | _=>false
def zaU:Op→Bool
 | .move _| .assign _| .pick .. | .build .. | .buildSlice .. | .unOp .. | .field .. | .index .. | .extract .. =>true
 | .binOp op _ _ y _=>zrC op&& !zc7 y
 | _=>false
def zav:Op→Bool
 | .call { callee:=.value (.func _),args,.. }=>args.toList.isEmpty
 | _=>false
def clear(ds:List (Option Nat))(x y:Oper):Bool:=match x.dst with
 | none=>true
 | some d=> !((zin ds y).elem d)&& !(y.dst==some d)
def zqZ:Op→Bool
 | .alloc .. | .box .. | .makeSlice .. | .makeMap .. =>true
 | _=>false
def zf0(ds:List (Option Nat))(x y:Oper)(g:Bool:=false):Bool:=clear ds x y&&clear ds y x&&((!eff x.op&& !eff y.op)||(zaU x.op||zav x.op)||(zaU y.op||zav y.op)||(g&&(!eff x.op&&zqZ y.op)))
theorem zfg{f g:Nat→PV}{x:Operand}(h:∀ t,x= .tmp t→f t=g t):ev f x=ev g x:=by cases x<;>simp only[ev];exact h _ rfl
theorem zeb{f g:Nat→PV}{xs:List Operand}(h:∀ x∈xs,ev f x=ev g x):xs.map (ev f)=xs.map (ev g):=qV h
theorem zfH{f g:Nat→PV}{op:Op}(h:∀ x∈op.operands.toList,ev f x=ev g x):pop P op f H=pop P op g H:=by
 cases op;case build t ps=>
  have:ps.toList.map (fun p=>(p.1,ev f p.2))=ps.toList.map (fun p=>(p.1,ev g p.2)):=qV fun p hp=>by rw[h p.2 (by simp[Op.operands];exact⟨_,qE.1 hp⟩)]
  simp only[pop,this]
 case buildSlice t n ps=>
  have:ps.toList.map (fun p=>(p.1,ev f p.2))=ps.toList.map (fun p=>(p.1,ev g p.2)):=qV fun p hp=>by rw[h p.2 (by simp[Op.operands];exact⟨_,qE.1 hp⟩)]
  simp only[pop,this]
 case slice t x l hh m=>
  have e1:ev f x=ev g x:=h x (by simp[Op.operands]);have e2:l.map (ev f)=l.map (ev g):=by cases l with|none=>rfl|some y=>simp[h y (by simp[Op.operands])]
  have e3:hh.map (ev f)=hh.map (ev g):=by cases hh with|none=>rfl|some y=>simp[h y (by simp[Op.operands])]
  have e4:m.map (ev f)=m.map (ev g):=by cases m with|none=>rfl|some y=>simp[h y (by simp[Op.operands])]
  simp only[pop,e1,e2,e3,e4]
 case makeFunc fn a b=>have e1:a.toList.map (ev f)=a.toList.map (ev g):=zeb fun x hx=>h x (by simp[Op.operands];exact .inl (qE.1 hx));have e2:b.toList.map (ev f)=b.toList.map (ev g):=zeb fun x hx=>h x (by simp[Op.operands];exact .inr (qE.1 hx));cases fn<;>simp only[pop,e1,e2]
 case call c=>obtain⟨callee,args,ts⟩:=c;have e1:args.toList.map (ev f)=args.toList.map (ev g):=zeb fun x hx=>h x (by simp[Op.operands,Call.operands];exact .inr (qE.1 hx));cases callee<;>simp only[pop,e1]
 case makeMap t r=>cases r<;>simp only[pop]
 all_goals simp only[pop]
 all_goals simp only[Op.operands,List.mem_cons,List.not_mem_nil,or_false,forall_eq_or_imp,forall_eq]at h
 all_goals simp only[h]
theorem zbz{f g:Nat→PV}{op:Op}(h:∀ x∈op.operands.toList,ev f x=ev g x):zk op f=zk op g:=by
 unfold zk;split
 ·rename_i fn args ts;have e1:ev f fn=ev g fn:=h fn (by simp[Op.operands,Call.operands]);have e2:args.toList.map (ev f)=args.toList.map (ev g):=zeb fun x hx=>h x (by simp[Op.operands,Call.operands];exact .inr (qE.1 hx));rw[e1,e2]
 ·rfl
theorem zcD{f:Nat→PV}{op:Op}{v:PV}{H':za}(h:eff op=false)(hp:pop P op f H=some (v,H')):H'=H:=by
 unfold pop at hp;split at hp<;>first
  | (simp only[qG.injEq,qJ.injEq]at hp;exact hp.2.symm)
  | (simp only[qC,qJ.injEq]at hp;obtain⟨_,_,_,h2⟩:=hp;exact h2.symm)
  | (simp[eff]at h;done)
  | skip
 ·split at hp<;>simp at hp<;>exact hp.2.symm
 ·split at hp
  ·simp only[qC,qJ.injEq]at hp;obtain⟨_,_,_,h2⟩:=hp;exact h2.symm
  ·split at hp<;>(simp only[qC,qJ.injEq]at hp;obtain⟨_,_,_,h2⟩:=hp;exact h2.symm)
 ·split at hp
  ·simp only[qC,qJ.injEq]at hp;obtain⟨_,_,_,h2⟩:=hp;exact h2.symm
  ·cases hp
 ·rename_i b args ts;simp only[eff]at h;unfold zu at hp;split at hp<;>first
   | (simp only[qC,qJ.injEq]at hp;obtain⟨_,_,_,h2⟩:=hp;exact h2.symm)
   | (simp[zmi]at h;done)
   | (cases hp;done)
 ·cases hp
theorem zl1{op:BinOp}{t:TypeId}{x y v:PV}(ha:zrC op=true)(h:zfK P H op t x y=some v)(K:za):zfK P K op t x y=some v:=by
 unfold zfK at h ⊢;split at h<;>try(exact h)
 ·split at h
  ·cases op<;>first|(cases ha;done)|(cases h;done)
  ·cases h
 ·split at h
  ·cases op<;>first|(cases ha;done)|(cases h;done)
  ·cases h
theorem zaw{f:Nat→PV}{op:Op}{v:PV}{H':za}(h:zaU op=true)(hp:pop P op f H=some (v,H'))(K:za):H'=H∧pop P op f K=some (v,K):=by
 cases op<;>simp only[zaU,Bool.false_eq_true]at h<;>simp only[pop]at hp ⊢;case move=>simp at hp ⊢;exact⟨hp.2.symm,hp.1⟩
 case assign=>simp at hp ⊢;exact⟨hp.2.symm,hp.1⟩
 case pick=>
  split at hp<;>simp at hp ⊢
  ·exact⟨hp.2.symm,hp.1⟩
  ·exact⟨hp.2.symm,hp.1⟩
 case extract=>
  split at hp
  ·simp only[qC,qJ.injEq]at hp ⊢;obtain⟨u,h1,h2,h3⟩:=hp;exact⟨h3.symm,u,h1,h2,trivial⟩
  ·cases hp
 case binOp op t x y r=>
  rw[qM]at h;have hn:zc7 y=false:=by simpa using h.2
  simp only[hn]at hp ⊢;split at hp
  ·simp only[qC,qJ.injEq]at hp ⊢;obtain⟨u,h1,h2,h3⟩:=hp;exact⟨h3.symm,u,h1,h2,trivial⟩
  ·rename_i hne;simp only[qC,qJ.injEq]at hp ⊢;obtain⟨u,h1,h2,h3⟩:=hp;exact⟨h3.symm,u,zl1 h.1 h1 K,h2,trivial⟩
 all_goals
  simp only[qC,qJ.injEq]at hp ⊢;obtain⟨u,h1,h2,h3⟩:=hp;exact⟨h3.symm,u,h1,h2,trivial⟩
theorem zb0{K:za}{id:Nat}{k:Blk}(h:H[id]? =some k):(H++K)[id]? =some k:=by rw[qI (qB.1 h).1];exact h
theorem zbb(K:za){id ver:Nat}(h:zbl H id ver=true):zbl (H++K) id ver=true:=by
 unfold zbl at h ⊢;cases hk:H[id]? with
 | none=>rw[hk]at h;cases h
 | some k=>rw[hk]at h;rw[zb0 hk];exact h
theorem zlH(K:za){sz:Nat}{x:PV}{c:List PV×Nat}(h:zac H sz x=some c):zac (H++K) sz x=some c:=by
 cases x<;>simp only[zac]at h ⊢<;>try(exact h)
 case msl id ver off len s g=>
  cases hk:H[id]? with
  | none=>rw[hk]at h;cases h
  | some k=>rw[hk]at h;rw[zb0 hk];exact h
theorem zn5(K:za){t:TypeId}{x v:PV}(h:zdl P H t x=some v):zdl P (H++K) t x=some v:=by
 cases x<;>simp only[zdl]at h ⊢<;>try(exact h)
 case ptr id ver off=>
  cases hk:H[id]? with
  | none=>rw[hk]at h;cases h
  | some k=>rw[hk]at h;rw[zb0 hk];exact h
theorem zp2(K:za){x v:PV}(h:zh4 H x=some v):zh4 (H++K) x=some v:=by
 cases x<;>simp only[zh4]at h ⊢<;>try(exact h)
 case ptr id ver off=>
  cases hl:zbl H id ver with
  | false=>rw[hl]at h;cases h
  | true=>rw[hl]at h;rw[zbb K hl];exact h
theorem zql(K:za){op:BinOp}{t:TypeId}{x y v:PV}(h:zfK P H op t x y=some v):zfK P (H++K) op t x y=some v:=by
 unfold zfK at h ⊢;split at h<;>try(exact h)
 ·rename_i id ver off;cases hl:zbl H id ver with
  | false=>rw[hl,Bool.and_false]at h;cases h
  | true=>rw[hl]at h;simp only[zbb K hl];exact h
 ·rename_i id ver off;cases hl:zbl H id ver with
  | false=>rw[hl,Bool.and_false]at h;cases h
  | true=>rw[hl]at h;simp only[zbb K hl];exact h
theorem zkB(K:za){op:BinOp}{t:TypeId}{x v:PV}(h:zby P H op t x=some v):zby P (H++K) op t x=some v:=by
 unfold zby at h ⊢;split at h<;>try(exact h)
 split at h<;>try(exact h)
 split at h
 ·rename_i hn;rw[if_pos ⟨hn.1,zbb K hn.2⟩];exact h
 ·cases h
theorem zoa(K:za){s d:TypeId}{x v:PV}(h:zem P H s d x=some v):zem P (H++K) s d x=some v:=by
 unfold zem at h ⊢;split at h<;>try(exact h)
 split at h<;>try(exact h)
 simp only[Option.bind_eq_some_iff]at h ⊢;obtain⟨c,h1,h2⟩:=h;exact⟨c,zlH K h1,h2⟩
theorem zlN(K:za){t:TypeId}{x v:PV}{lo hi mx:Option PV}(h:zct P H t x lo hi mx=some v):zct P (H++K) t x lo hi mx=some v:=by
 unfold zct at h ⊢;split at h<;>try(exact h)
 ·rename_i e id ver off len sz g hu;cases hl:zbl H id ver with
  | false=>rw[hl]at h;split at h<;>first|(rename_i h9;cases h9;done)|cases h
  | true=>rw[hl]at h;simp only[zbb K hl];exact h
 ·rename_i len e id ver off hu;cases hl:zbl H id ver with
  | false=>rw[hl]at h;split at h<;>first|(rename_i h9;cases h9;done)|cases h
  | true=>rw[hl]at h;simp only[zbb K hl];exact h
theorem zhj(K:za){s:TypeId}{x v:PV}{f:Nat}(h:zaq P H s x f=some v):zaq P (H++K) s x f=some v:=by
 cases x<;>simp only[zaq]at h ⊢<;>try(exact h)
 case ptr id ver off=>
  cases hl:zbl H id ver with
  | false=>rw[hl]at h;repeat' split at h<;>first|(cases h;done)|skip
  | true=>rw[hl]at h;simp only[zbb K hl];exact h
theorem zhg(K:za){t:TypeId}{x i v:PV}(h:zap P H t x i=some v):zap P (H++K) t x i=some v:=by
 unfold zap at h ⊢;split at h<;>try(exact h)
 ·rename_i e id ver off len sz g k i hu;cases hl:zbl H id ver with
  | false=>rw[hl]at h;split at h<;>first|(rename_i h9;cases h9;done)|cases h
  | true=>rw[hl]at h;simp only[zbb K hl];exact h
 ·rename_i len e id ver off k i hu;cases hl:zbl H id ver with
  | false=>rw[hl]at h;split at h<;>first|(rename_i h9;cases h9;done)|cases h
  | true=>rw[hl]at h;simp only[zbb K hl];exact h
theorem zn4(K:za){t:TypeId}{m k v:PV}{ok:Bool}(h:zel P H t m k ok=some v):zel P (H++K) t m k ok=some v:=by
 unfold zel at h ⊢;have key:∀ r,zae P H t m=some r→zae P (H++K) t m=some r:=fun r hr=>by
  unfold zae at hr ⊢;split at hr
  ·rename_i kt e id ver hu;split at hr
   ·rename_i d b hs hb;simp only[hs,zb0 hb];exact hr
   ·cases hr
  ·cases hr
 cases hm:zae P H t m with
 | none=>rw[hm]at h;cases h
 | some r=>rw[hm]at h;rw[key r hm];exact h
theorem zp4(K:za){t:TypeId}{x v:PV}(h:zc2 P H t x=some v):zc2 P (H++K) t x=some v:=by
 unfold zc2 at h ⊢;split at h<;>try(exact h)
 ·rename_i e id ver off n sz g hu;cases hl:zbl H id ver with
  | false=>rw[hl]at h;cases h
  | true=>rw[hl]at h;simp only[zbb K hl];exact h
theorem za0(K:za){a b:Option PV}{v:PV}{H':za}(h:(a.map fun v=>(v,H))=some (v,H'))(hab:∀ v,a=some v→b=some v):(b.map fun v=>(v,H++K))=some (v,H++K):=by simp only[qC,qJ.injEq]at h ⊢;obtain⟨u,h1,h2,_⟩:=h;exact⟨u,hab u h1,h2,trivial⟩
theorem zsx(K:za){f:Nat→PV}{op:Op}{v:PV}{H':za}(h:eff op=false)(hp:pop P op f H=some (v,H')):pop P op f (H++K)=some (v,H++K):=by
 cases op<;>try(simp[eff]at h;done)
 case move=>simp only[pop,qG.injEq,qJ.injEq]at hp ⊢;exact⟨hp.1,trivial⟩
 case assign=>simp only[pop,qG.injEq,qJ.injEq]at hp ⊢;exact⟨hp.1,trivial⟩
 case pick=>exact(zaw (by rfl) hp (H++K)).2
 case build=>exact(zaw (by rfl) hp (H++K)).2
 case buildSlice=>exact(zaw (by rfl) hp (H++K)).2
 case unOp=>exact(zaw (by rfl) hp (H++K)).2
 case field=>exact(zaw (by rfl) hp (H++K)).2
 case index=>exact(zaw (by rfl) hp (H++K)).2
 case extract=>exact(zaw (by rfl) hp (H++K)).2
 case load=>simp only[pop]at hp ⊢;exact za0 K hp fun v h=>zn5 K h
 case nilCheck=>simp only[pop]at hp ⊢;exact za0 K hp fun v h=>zp2 K h
 case binOp=>
  simp only[pop]at hp ⊢;split at hp
  ·exact za0 K hp fun v h=>zkB K h
  split at hp
  ·exact za0 K hp fun v h=>h
  ·exact za0 K hp fun v h=>zql K h
 case convert=>simp only[pop]at hp ⊢;exact za0 K hp fun v h=>zoa K h
 case makeFunc fn a b=>cases fn<;>simp only[pop,qG.injEq,qJ.injEq]at hp ⊢<;>first|exact⟨hp.1,trivial⟩|cases hp
 case slice=>simp only[pop]at hp ⊢;exact za0 K hp fun v h=>zlN K h
 case fieldAddr=>simp only[pop]at hp ⊢;exact za0 K hp fun v h=>zhj K h
 case indexAddr=>simp only[pop]at hp ⊢;exact za0 K hp fun v h=>zhg K h
 case lookup=>simp only[pop]at hp ⊢;exact za0 K hp fun v h=>zn4 K h
 case call c=>
  obtain⟨callee,args,ts⟩:=c;cases callee with
  | builtin b=>
   simp only[pop]at hp ⊢;simp only[eff]at h;unfold zu at hp ⊢;split at hp
   ·exact za0 K hp fun v h=>zp4 K h
   ·simp[zmi]at h
   ·simp[zmi]at h
   ·exact za0 K hp fun v h=>h
   ·exact za0 K hp fun v h=>h
   ·cases hp
  | _=>simp only[pop]at hp;cases hp
 all_goals(simp only[pop]at hp;cases hp)
theorem zp0{f:Nat→PV}{op:Op}{v:PV}{H':za}(h:zqZ op=true)(hp:pop P op f H=some (v,H')):∃ K,H'=H++K:=by
 cases op<;>try(simp[zqZ]at h;done)
 case alloc=>simp only[pop,qC,qJ.injEq]at hp;obtain⟨z,_,_,h2⟩:=hp;exact⟨_,h2.symm⟩
 case box=>
  simp only[pop]at hp;split at hp
  ·simp only[qG.injEq,qJ.injEq]at hp;exact⟨_,hp.2.symm⟩
  ·cases hp
 case makeSlice=>
  simp only[pop,zkF]at hp;split at hp
  ·split at hp
   ·split at hp
    ·simp only[qG.injEq,qJ.injEq]at hp;exact⟨_,hp.2.symm⟩
    ·cases hp
   ·cases hp
  ·cases hp
 case makeMap t r=>
  cases r with
  | none=>simp only[pop,qG.injEq,qJ.injEq]at hp;exact⟨_,hp.2.symm⟩
  | some _=>simp only[pop]at hp;cases hp
theorem zk7{f:Nat→PV}{op:Op}(h:zqZ op=true):zk op f=none:=by
 unfold zk;split
 ·simp[zqZ]at h
 ·rfl
def Ex(P:Program)(all:List Oper)(g:Bool)(o:Oper)(f:Nat→PV)(H:za)(v:PV)(H':za):Prop:=
 (zbi all f o=some false∧v= .tup []∧H'=H)∨
 (zbi all f o=some true∧match zk o.op f with|some (fn,args)=>H'=H∧CallOk P fn args H v H∧(zav o.op=true→∀ K,CallOk P fn args K v K)∧(g=true→∀ K,CallOk P fn args (H++K) v (H++K))|none=>pop P o.op f H=some (v,H'))
def Run(P:Program)(all:List Oper)(g:Bool):List Oper→(Nat→PV)→za→((Nat→PV)→za→Prop)→Prop
 | [],f,H,K=>K f H
 | o::r,f,H,K=>∃ v H',Ex P all g o f H v H'∧Run P all g r (upd f o.dst v) H' K
theorem zb5{f:Nat→PV}{d:Option Nat}{v:PV}{t:Nat}(h:d≠some t):upd f d v t=f t:=by
 cases d with
 | none=>rfl
 | some d=>simp only[upd];rw[if_neg (fun e=>h (by rw[e]))]
theorem zgL{f:Nat→PV}{d e:Option Nat}{u v:PV}(h:∀ t,d=some t→e≠some t):upd (upd f d u) e v=upd (upd f e v) d u:=by
 cases d with
 | none=>rfl
 | some d=>
  cases e with
  | none=>rfl
  | some e=>have hne:e≠d:=fun he=>h d rfl (by rw[he]);funext t;simp only[upd];by_cases h1:d=t<;>by_cases h2:e=t<;>simp_all
theorem ze7{xs:List Operand}{t:Nat}(h: .tmp t∈xs):t∈zo1 xs:=List.mem_filterMap.2 ⟨_,h,rfl⟩
theorem zcR{all:List Oper}{f g:Nat→PV}{o:Oper}(h:∀ t∈zq0 (all.map (·.dst)) o,f t=g t):zbi all f o=zbi all g o:=by
 unfold zbi;unfold zq0 at h;cases hg:o.guard with
 | none=>rfl
 | some jb=>
  obtain⟨j,b⟩:=jb;simp only[hg]at h ⊢;cases hj:all[j]? with
  | none=>rfl
  | some x=>
   cases hd:x.dst with
   | none=>simp[hd]
   | some d=>have:=h d (by simp[hj,hd]);simp[hd,this]
theorem Ex.congr{all:List Oper}{b:Bool}{o:Oper}{f g:Nat→PV}{v:PV}{H':za}(h:∀ t∈zin (all.map (·.dst)) o,f t=g t)(he:Ex P all b o f H v H'):Ex P all b o g H v H':=by have e1:zbi all f o=zbi all g o:=zcR fun t ht=>h t (jG.2 (.inr ht));have e2:∀ x∈o.op.operands.toList,ev f x=ev g x:=fun x hx=>zfg fun t ht=>h t (jG.2 (.inl (ze7 (ht▸hx))));unfold Ex at he ⊢;rw[←e1,←zbz e2,←zfH e2];exact he
theorem Ex.noeff{all:List Oper}{g:Bool}{o:Oper}{f:Nat→PV}{v:PV}{H':za}(h:eff o.op=false)(he:Ex P all g o f H v H'):H'=H:=by
 rcases he with⟨_,_,he⟩|⟨_,he⟩
 ·exact he
 ·split at he
  ·exact he.1
  ·exact zcD h he
theorem Ex.pure{all:List Oper}{g:Bool}{o:Oper}{f:Nat→PV}{v:PV}{H':za}(h:zaU o.op=true∨zav o.op=true)(he:Ex P all g o f H v H')(K:za):H'=H∧Ex P all g o f K v K:=by
 rcases h with h|h;rotate_left
 ·rcases he with⟨h1,h2,h3⟩|⟨h1,h2⟩
  ·exact⟨h3,.inl ⟨h1,h2,rfl⟩⟩
  ·have hc:∃ fn args,zk o.op f=some (fn,args):=by
    unfold zav at h;split at h
    ·rename_i g args ts ho;rw[ho];exact⟨_,_,rfl⟩
    ·cases h
   obtain⟨fn,args,hc⟩:=hc;simp only[hc]at h2;exact⟨h2.1,.inr ⟨h1,by rw[hc];exact⟨rfl,h2.2.2.1 h K,h2.2.2.1,fun _ K'=>h2.2.2.1 h (K++K')⟩⟩⟩
 have hc:zk o.op f=none:=by
  unfold zk;split
  ·rename_i ho;rw[ho]at h;simp[zaU]at h
  ·rfl
 rcases he with⟨h1,h2,h3⟩|⟨h1,h2⟩
 ·exact⟨h3,.inl ⟨h1,h2,rfl⟩⟩
 ·rw[hc]at h2;obtain⟨h3,h4⟩:=zaw h h2 K;exact⟨h3,.inr ⟨h1,by rw[hc];exact h4⟩⟩
theorem zbe{ds:List (Option Nat)}{x y:Oper}(h:clear ds x y=true):∀ t∈zin ds y,x.dst≠some t:=fun t ht he=>by unfold clear at h;rw[he]at h;simp only[qM,qQ]at h;have:=h.1;rw[List.elem_eq_mem,decide_eq_false_iff_not]at this;exact this ht
theorem zf2{ds:List (Option Nat)}{x y:Oper}(h:clear ds x y=true):∀ t,x.dst=some t→y.dst≠some t:=fun t he hy=>by unfold clear at h;rw[he]at h;simp only[qM,qQ]at h;have:=h.2;rw[hy]at this;simp at this
theorem Ex.ext{all:List Oper}{o:Oper}{f:Nat→PV}{v:PV}{H':za}(h:eff o.op=false)(he:Ex P all true o f H v H')(K:za):Ex P all true o f (H++K) v (H++K):=by
 rcases he with⟨h1,h2,h3⟩|⟨h1,h2⟩
 ·exact .inl ⟨h1,h2,rfl⟩
 ·refine .inr ⟨h1,?_⟩;split at h2
  ·exact⟨rfl,h2.2.2.2 rfl K,h2.2.2.1,fun _ K'=>by rw[qZ];exact h2.2.2.2 rfl (K++K')⟩
  ·exact zsx K h h2
theorem Ex.swap{all:List Oper}{g:Bool}{x o:Oper}{f:Nat→PV}{vx v:PV}{Hx H1:za}(hc:zf0 (all.map (·.dst)) x o g=true)(hx:Ex P all g x f H vx Hx)(ho:Ex P all g o (upd f x.dst vx) Hx v H1):
  ∃ H3,Ex P all g o f H v H3∧Ex P all g x (upd f o.dst v) H3 vx H1∧upd (upd f x.dst vx) o.dst v=upd (upd f o.dst v) x.dst vx:=by
 unfold zf0 at hc;simp only[qM,qS,qQ]at hc;obtain⟨⟨c1,c2⟩,c3⟩:=hc;have ho':Ex P all g o f Hx v H1:=ho.congr fun t ht=>zb5 (zbe c1 t ht);have hx':∀ K K',Ex P all g x f K vx K'→Ex P all g x (upd f o.dst v) K vx K':=fun K K' h=>h.congr fun t ht=>(zb5 (zbe c2 t ht)).symm;have hcm:=zgL (f:=f) (u:=vx) (v:=v) (zf2 c1);rcases c3 with((⟨e1,e2⟩|e1)|e1)|⟨rfl,e1,e2⟩
 ·obtain rfl:=hx.noeff e1;obtain rfl:=ho'.noeff e2;exact⟨_,ho',hx' _ _ hx,hcm⟩
 ·obtain⟨rfl,hp⟩:=hx.pure e1 H1;exact⟨H1,ho',hx' _ _ hp,hcm⟩
 ·obtain⟨rfl,hp⟩:=ho'.pure e1 H;exact⟨H,hp,hx' _ _ hx,hcm⟩
 ·obtain rfl:=hx.noeff e1;have hk:∃ K,H1=Hx++K:=by
   rcases ho' with⟨_,_,h3⟩|⟨_,h3⟩
   ·exact⟨[],by rw[h3,List.append_nil]⟩
   ·rw[zk7 e2]at h3;exact zp0 e2 h3
  obtain⟨K,rfl⟩:=hk;exact⟨_,ho',hx' _ _ (hx.ext e1 K),hcm⟩
theorem Run.front{all:List Oper}{g:Bool}{K:(Nat→PV)→za→Prop}{o:Oper}{l2:List Oper}:∀(l1:List Oper) (f:Nat→PV) (H:za),Run P all g (l1++o::l2) f H K→(∀ x∈l1,zf0 (all.map (·.dst)) x o g=true)→
  ∃ v H1,Ex P all g o f H v H1∧Run P all g (l1++l2) (upd f o.dst v) H1 K
 | [],f,H,h,_=>h
 | x::l1,f,H,h,hc=>by obtain⟨vx,Hx,hx,hr⟩:=h;obtain⟨v,H1,ho,hr2⟩:=Run.front l1 _ _ hr (fun y hy=>hc y (jO _ hy));obtain⟨H3,g1,g2,g3⟩:=hx.swap (hc x (qK ..)) ho;exact⟨v,H3,g1,vx,H1,g2,g3▸hr2⟩
def bnd(o:Oper):List Nat:=(o.after.toList.filter (Region.binds .any)).map (·.on)
def zcb(ms:List Nat)(o:Oper):Nat:=(bnd o).foldl (fun m j=>m|||ms.getD j 0|||2^j) 0
def zgf(ops:List Oper):List Nat:=ops.foldl (fun ms o=>ms++[zcb ms o]) []
def zeD(ms:List Nat)(ds:List (Option Nat))(N:Nat)(ops:List Oper)(i:Nat)(g:Bool:=false):Bool:=match ops[i]? with
 | none=>false
 | some o=>zI N o&&(bnd o).all (fun j=>Nat.blt j i)&&(jH (ms.getD i 0) (zcb ms o))&&(qR i).all fun j=>(ms.getD i 0).testBit j||(match ops[j]? with|some x=>zf0 ds x o g|none=>false)
def zfW(N:Nat)(ops:List Oper)(g:Bool:=false):Bool:=(qR ops.length).all fun i=>zeD (zgf ops) (ops.map (·.dst)) N ops i g
theorem zfR(ms:List Nat)(j:Nat):∀(l:List Nat) (m:Nat),(l.foldl (fun m j=>m|||ms.getD j 0|||2^j) m).testBit j=true→m.testBit j=true∨∃ k∈l,(ms.getD k 0).testBit j=true∨k=j
 | [],m,h=>.inl h
 | k::l,m,h=>by
  rcases zfR ms j l _ h with h|⟨k',hk,h⟩
  ·rw[Nat.testBit_or,Nat.testBit_or,qS,qS,Nat.testBit_two_pow]at h;rcases h with(h|h)|h
   ·exact .inl h
   ·exact .inr ⟨k,qK ..,.inl h⟩
   ·exact .inr ⟨k,qK ..,.inr (of_decide_eq_true h)⟩
  ·exact .inr ⟨k',jO _ hk,h⟩
theorem zfX{g:Bool}{ms:List Nat}{ds:List (Option Nat)}{ops:List Oper}{i:Nat}{o:Oper}(ho:ops[i]? =some o)(h:zeD ms ds N ops i g=true):
  zI N o=true∧(∀ j∈bnd o,j<i)∧ms.getD i 0=zcb ms o∧∀ j,j<i→(ms.getD i 0).testBit j=true∨∃ x,ops[j]? =some x∧zf0 ds x o g=true:=by
 unfold zeD at h;simp only[ho,qM,jB,qO,qS]at h;obtain⟨⟨⟨h1,h2⟩,h3⟩,h4⟩:=h;refine⟨h1,fun j hj=>by simpa[Nat.blt_eq]using h2 j hj,qT h3,fun j hj=> ?_⟩;rcases h4 j hj with h|h
 ·exact .inl h
 ·split at h
  ·rename_i x hx;exact .inr ⟨x,hx,h⟩
  ·cases h
theorem zsS{g:Bool}{ms:List Nat}{ds:List (Option Nat)}{ops:List Oper}(hall:∀ i,i<ops.length→zeD ms ds N ops i g=true){S:Nat→Prop}(down:∀ i o,ops[i]? =some o→S i→∀ j∈bnd o,S j):
  ∀(i:Nat) (o:Oper),ops[i]? =some o→(∀ j∈bnd o,S j)→∀ j,(ms.getD i 0).testBit j=true→S j:=by
 intro i;induction i using Nat.strongRecOn with
 | _ i ih=>
  intro o ho hp j hj;have hi:=(qB.1 ho).1;obtain⟨_,h2,h3,_⟩:=zfX ho (hall i hi);rw[h3,zcb]at hj;rcases zfR ms j _ _ hj with h|⟨k,hk,h⟩
  ·simp at h
  ·rcases h with h|rfl
   ·have hki:=h2 k hk;have hkl:k<ops.length:=om;exact ih k hki ops[k] (qH hkl) (down k _ (qH hkl) (hp k hk)) j h
   ·exact hp k hk
def left(n:Nat)(listed:Array Bool):List Nat:=(qR n).filter fun i=> !listed.getD i true
theorem zbI(n:Nat)(listed:Array Bool):(left n listed).Pairwise (· < ·):=List.Pairwise.filter _ List.pairwise_lt_range
theorem za9{n i:Nat}{listed:Array Bool}:i∈left n listed↔i<n∧listed.getD i true=false:=by simp[left]
theorem zhD(listed:Array Bool)(i k:Nat)(h:i<listed.size):(listed.setIfInBounds i true).getD k true=if k=i then true else listed.getD k true:=by
 rw[qL,Array.getElem?_setIfInBounds,qL];by_cases hk:i=k
 ·subst hk;simp[h]
 ·rw[if_neg hk,if_neg (fun e=>hk e.symm)]
theorem zfa{n i:Nat}{listed:Array Bool}{l1 l2:List Nat}(h:i<listed.size)(hl:left n listed=l1++i::l2):left n (listed.setIfInBounds i true)=l1++l2:=by
 have e:left n (listed.setIfInBounds i true)=(left n listed).filter (fun k=>k !=i):=by
  unfold left;rw[List.filter_filter];refine List.filter_congr fun k _=> ?_;rw[zhD listed i k h];by_cases hk:k=i
  ·simp[hk]
  ·simp[hk]
 have hs:=zbI n listed;rw[hl,jN,qX]at hs;rw[e,hl,List.filter_append,List.filter_cons_of_neg sp,qW.2,qW.2]
 ·intro k hk;have:=hs.2.1.1 k hk;simp;omega
 ·intro k hk;have:=hs.2.2 k hk i (qK ..);simp;omega
theorem ziI{g:Bool}{ops:Array Oper}{Q:Exit→Act→World→Prop}{K:(Nat→PV)→za→Prop}(hall:∀ i,i<ops.toList.length→zeD (zgf ops.toList) (ops.toList.map (·.dst)) N ops.toList i g=true):
  ∀(fuel:Nat) (listed:Array Bool) (f:Nat→PV) (H:za) (C:Ctx) (a:Act) (w:World),listed.size=ops.size→(∀ i o,ops[i]? =some o→listed.getD i true=true→∀ j∈bnd o,listed.getD j true=true)→
   fuel=(left ops.size listed).length→Run P ops.toList g ((left ops.size listed).filterMap fun i=>ops[i]?) f H K→a.defers=[]→WRel C H w→FRel C N f a→
   (∀ C' f' H' a' w',CLe C C'→a'.defers=[]→WRel C' H' w'→Below C.B w w'→FRel C' N f' a'→K f' H'→Q .normal a' w')→wpAny P .any ops Q fuel listed a w:=by
 have rdy:∀(listed:Array Bool) (i:Nat),i∈Region.ready .any ops listed↔i∈left ops.size listed∧∃ o,ops[i]? =some o∧∀ e∈o.after.toList,Region.binds .any e=true→listed.getD e.on false=true:=by
  intro listed i;unfold Region.ready;rw[jF,za9,qO];constructor
  ·rintro⟨h1,h2⟩;simp only[qM,qQ]at h2;refine⟨⟨h1,h2.1⟩,ops[i],qF h1,fun e he hb=> ?_⟩;have h3:=h2.2;rw[qF h1]at h3;simp only[Option.map_some,Option.getD_some,qY]at h3;have:=h3 e (qE.1 he);simpa[hb]using this
  ·rintro⟨⟨h1,h2⟩,o,ho,h3⟩;refine⟨h1,?_⟩;simp only[h2,Bool.not_false,Bool.true_and,ho,Option.map_some,Option.getD_some,qY];intro e he;cases hb:Region.binds .any e with
   | false=>rfl
   | true=>simp[h3 e (qE.2 he) hb]
 intro fuel;induction fuel with
 | zero=>
  intro listed f H C a w hsz hdown hfu hr hd hw hf hQ;have hnil:left ops.size listed=[]:=jC hfu.symm;refine⟨List.eq_nil_iff_forall_not_mem.2 fun i hi=> ?_,?_⟩
  ·have:=((rdy listed i).1 hi).1;rw[hnil]at this;simp at this
  ·rw[hnil]at hr;exact hQ C f H a w (.refl _) hd hw (.refl _ _) hf hr
 | succ fuel ih=>
  intro listed f H C a w hsz hdown hfu hr hd hw hf hQ;refine⟨fun hnone=> ?_,fun i hi=> ?_⟩
  ·exfalso;obtain⟨i,r,hl⟩:=List.exists_cons_of_length_eq_add_one hfu.symm;have hmem:i∈left ops.size listed:=by rw[hl];exact qK ..
   have hil:=(za9.1 hmem).1;have hs:=zbI ops.size listed;rw[hl,qX]at hs;have:i∈Region.ready .any ops listed:=by
    refine(rdy listed i).2 ⟨hmem,ops[i],qF hil,fun e he hb=> ?_⟩;have hlt:=(zfX (by simpa using qF hil) (hall i (by simpa using hil))).2.1 e.on (List.mem_map.2 ⟨e,jF.2 ⟨he,hb⟩,rfl⟩);have hnm:e.on∉left ops.size listed:=by
     rw[hl];intro hm;rcases List.mem_cons.1 hm with h|h
     ·omega
     ·have:=hs.1 _ h;omega
    have h1:listed.getD e.on true=true:=by
     cases hg:listed.getD e.on true with
     | true=>rfl
     | false=>exact absurd (za9.2 ⟨om,hg⟩) hnm
    have h2:e.on<listed.size:=om;rw[qL,qF h2]at h1 ⊢;exact h1
   rw[hnone]at this;simp at this
  ·obtain⟨hmem,o,ho,hpre⟩:=(rdy listed i).1 hi;have hil:=(za9.1 hmem).1;have hoL:ops.toList[i]? =some o:=by simpa using ho
   obtain⟨d1,d2,d3,d4⟩:=zfX hoL (hall i (by simpa using hil));obtain⟨l1,l2,hl⟩:=List.append_of_mem hmem;have hs:=zbI ops.size listed;rw[hl,jN,qX]at hs;have hsz':i<listed.size:=om;have getFT:∀ j,listed.getD j false=true→listed.getD j true=true:=fun j hj=>by
    rw[qL]at hj ⊢;cases hg:listed[j]? with
    | none=>rw[hg]at hj;simp at hj
    | some b=>rw[hg]at hj;simpa using hj
   have hpre':∀ j∈bnd o,listed.getD j true=true:=fun j hj=>by obtain⟨e,he,rfl⟩:=List.mem_map.1 hj;obtain⟨he1,he2⟩:=jF.1 he;exact getFT _ (hpre e he1 he2)
   rw[hl,jL,jK ho]at hr;have hcomp:∀ x∈l1.filterMap (fun i=>ops[i]?),zf0 (ops.toList.map (·.dst)) x o g=true:=by
    intro x hx;obtain⟨j,hj,hjx⟩:=List.mem_filterMap.1 hx;have hji:j<i:=hs.2.2 j hj i (qK ..);rcases d4 j hji with h|⟨x',hx',hc⟩
    ·have hS:=zsS (N:=N) hall (S:=fun j=>listed.getD j true=true) (fun i o ho hS=>hdown i o (by simpa using ho) hS) i o hoL hpre' j h;have hjm:j∈left ops.size listed:=by rw[hl];exact jG.2 (.inl hj)
     rw[(za9.1 hjm).2]at hS;cases hS
    ·have:ops[j]? =some x':=by simpa using hx'
     simp only[this,qG.injEq]at hjx;subst hjx;exact hc
   obtain⟨v,H1,hex,hrun⟩:=Run.front _ _ _ hr hcomp;rw[←jL,←zfa hsz' hl]at hrun;have hdown':∀ i' o',ops[i']? =some o'→(listed.setIfInBounds i true).getD i' true=true→∀ j∈bnd o',(listed.setIfInBounds i true).getD j true=true:=by
    intro i' o' ho' h j hj;rw[zhD _ _ _ hsz']at h ⊢;by_cases hi':i'=i
    ·subst hi';rw[ho]at ho';injection ho' with ho';subst ho';split
     ·rfl
     ·exact hpre' j hj
    ·rw[if_neg hi']at h;split
     ·rfl
     ·exact hdown i' o' ho' h j hj
   have hfu':fuel=(left ops.size (listed.setIfInBounds i true)).length:=by rw[zfa hsz' hl];rw[hl]at hfu;simp at hfu ⊢;omega
   have next:∀ C' u w',CLe C C'→WRel C' H1 w'→Below C.B w w'→FRel C' N (upd f o.dst v) (a.put o.dst u)→wpAny P .any ops Q fuel (listed.setIfInBounds i true) (a.put o.dst u) w':=by intro C' u w' q1 q2 q3 q4;refine ih _ _ _ C' _ w' (by simpa using hsz) hdown' hfu' hrun (by cases hod:o.dst<;>simp[Act.put,hd]) q2 q4 ?_;intro C'' f'' H'' a'' w'' p1 p2 p3 p4 p5 p6;exact hQ C'' f'' H'' a'' w'' (q1.trans p1) p2 p3 (q3.trans (by rw[←q1.B];exact p4)) p5 p6
   unfold wpOp;rw[ho];simp only;rcases hex with⟨h1,h2,h3⟩|⟨h1,h2⟩
   ·have hwant:=zJ hf h1;rw[jM]at hwant;rw[if_neg (by rw[hwant];simp)];subst h2 h3;exact next C _ w (.refl _) hw (.refl _ _) (hf.put o.dst (zay d1) VRel.undefV)
   ·have hwant:=zJ hf h1;rw[jM]at hwant;rw[if_pos hwant];left;have hexec:Exec P o f H v H1:=by
     unfold Exec;split at h2
     ·rename_i fn args hc;rw[hc];obtain⟨rfl,h2⟩:=h2;exact h2.1
     ·rename_i hc;rw[hc];exact h2
    exact zc9 d1 hw hf hexec _ _ next
def VCd(P:Program)(ds:List (Option Nat))(o:Oper)(F:Fr)(H:za)(K:Fr→za→Prop):Prop:=
 match zan ds F o with
 | some true=>match zk o.op (slot F)with
  | some (g,args)=>∃ v,(CallOk P g args H v H∧(zav o.op=true→∀ K,CallOk P g args K v K))∧K (put F o.dst v) H
  | none=>False
 | some false=>K (put F o.dst (.tup [])) H
 | none=>False
def VOd(P:Program)(ds:List (Option Nat)):List Oper→Option (Fr×za)→(Fr→za→Prop)→Prop
 | _,none,_=>False
 | [],some (F,H),K=>K F H
 | o::r,some (F,H),K=>match zE o.op with
  | false=>VOd P ds r (stp P ds o F H) K
  | true=>VCd P ds o F H fun F' H'=>VOd P ds r (some (F',H')) K
def VRd(P:Program)(ds:List (Option Nat))(r:List Oper)(K:Fr→za→Prop)(F:Fr)(H:za):Prop:=VOd P ds r (some (F,H)) K
theorem zty(ds:List (Option Nat))(K:Fr→za→Prop)(F:Fr)(H:za):VOd P ds [] (some (F,H)) K=K F H:=rfl
theorem zhZ(ds:List (Option Nat))(l:List Oper)(K:Fr→za→Prop):VOd P ds l none K=False:=by cases l<;>rfl
theorem zck(ds:List (Option Nat))(o:Oper)(r:List Oper)(K:Fr→za→Prop)(F:Fr)(H:za):
  VOd P ds (o::r) (some (F,H)) K=match zE o.op with|false=>VOd P ds r (stp P ds o F H) K|true=>VCd P ds o F H (VRd P ds r K):=by
 cases h:zE o.op with
 | false=>simp only[VOd,h]
 | true=>simp only[VOd,h];rfl
theorem VCd.call{ds:List (Option Nat)}{o:Oper}{K:Fr→za→Prop}{g:FuncId}{args:List PV}{v:PV}(h:CallOk P g args H v H)(hp:zav o.op=true→∀ K,CallOk P g args K v K)(hw:zan ds F o=some true)(hc:zk o.op (slot F)=some (g,args))
  (hk:K (put F o.dst v) H):VCd P ds o F H K:=by
 unfold VCd;rw[hw];simp only[hc];exact⟨v,⟨h,hp⟩,hk⟩
theorem zny{all:List Oper}{K:Fr→za→Prop}:∀(l:List Oper) (F:Fr) (H:za),VOd P (all.map (·.dst)) l (some (F,H)) K→Run P all false l (slot F) H (fun f H'=>∃ F',f=slot F'∧K F' H')
 | [],F,H,h=>⟨F,rfl,h⟩
 | o::r,F,H,h=>by
  have hcl:zE o.op=false→zk o.op (slot F)=none:=fun hc=>by
   unfold zk;split
   ·rename_i f args ts ho;rw[ho]at hc;simp[zE]at hc
   ·rfl
  rw[zck]at h;have go:∀ v H',Ex P all false o (slot F) H v H'→VOd P (all.map (·.dst)) r (some (put F o.dst v,H')) K→Run P all false (o::r) (slot F) H (fun f H'=>∃ F',f=slot F'∧K F' H'):=fun v H' he hr=>by refine⟨v,H',he,?_⟩;rw[←zU];exact zny r _ _ hr
  cases hc:zE o.op with
  | false=>
   simp only[hc]at h;unfold stp at h;split at h
   ·rename_i hb;split at h
    ·rename_i v H' hp;exact go v H' (.inr ⟨zq all F o hb,by rw[hcl hc];exact hp⟩) h
    ·rw[zhZ]at h;exact h.elim
   ·rename_i hb;exact go _ _ (.inl ⟨zq all F o hb,rfl,rfl⟩) h
   ·rw[zhZ]at h;exact h.elim
  | true=>
   simp only[hc]at h;unfold VCd at h;split at h
   ·rename_i hb;split at h
    ·rename_i g args hp;obtain⟨v,h1,h2⟩:=h;exact go v H (.inr ⟨zq all F o hb,by rw[hp];exact⟨rfl,h1.1,h1.2,fun e=>by cases e⟩⟩) h2
    ·exact h.elim
   ·rename_i hb;exact go _ _ (.inl ⟨zq all F o hb,rfl,rfl⟩) h
   ·exact h.elim
def VCg(P:Program)(ds:List (Option Nat))(o:Oper)(F:Fr)(H:za)(K:Fr→za→Prop):Prop:=
 match zan ds F o with
 | some true=>match zk o.op (slot F)with
  | some (g,args)=>∃ v,((∀ L,CallOk P g args (H++L) v (H++L))∧(zav o.op=true→∀ K,CallOk P g args K v K))∧K (put F o.dst v) H
  | none=>False
 | some false=>K (put F o.dst (.tup [])) H
 | none=>False
def VOg(P:Program)(ds:List (Option Nat)):List Oper→Option (Fr×za)→(Fr→za→Prop)→Prop
 | _,none,_=>False
 | [],some (F,H),K=>K F H
 | o::r,some (F,H),K=>match zE o.op with
  | false=>VOg P ds r (stp P ds o F H) K
  | true=>VCg P ds o F H fun F' H'=>VOg P ds r (some (F',H')) K
def VRg(P:Program)(ds:List (Option Nat))(r:List Oper)(K:Fr→za→Prop)(F:Fr)(H:za):Prop:=VOg P ds r (some (F,H)) K
theorem ztx(ds:List (Option Nat))(K:Fr→za→Prop)(F:Fr)(H:za):VOg P ds [] (some (F,H)) K=K F H:=rfl
theorem zlq(ds:List (Option Nat))(l:List Oper)(K:Fr→za→Prop):VOg P ds l none K=False:=by cases l<;>rfl
theorem zlp(ds:List (Option Nat))(o:Oper)(r:List Oper)(K:Fr→za→Prop)(F:Fr)(H:za):
  VOg P ds (o::r) (some (F,H)) K=match zE o.op with|false=>VOg P ds r (stp P ds o F H) K|true=>VCg P ds o F H (VRg P ds r K):=by
 cases h:zE o.op with
 | false=>simp only[VOg,h]
 | true=>simp only[VOg,h];rfl
theorem znx{all:List Oper}{K:Fr→za→Prop}:∀(l:List Oper) (F:Fr) (H:za),VOg P (all.map (·.dst)) l (some (F,H)) K→Run P all true l (slot F) H (fun f H'=>∃ F',f=slot F'∧K F' H')
 | [],F,H,h=>⟨F,rfl,h⟩
 | o::r,F,H,h=>by
  have hcl:zE o.op=false→zk o.op (slot F)=none:=fun hc=>by
   unfold zk;split
   ·rename_i f args ts ho;rw[ho]at hc;simp[zE]at hc
   ·rfl
  rw[zlp]at h;have go:∀ v H',Ex P all true o (slot F) H v H'→VOg P (all.map (·.dst)) r (some (put F o.dst v,H')) K→Run P all true (o::r) (slot F) H (fun f H'=>∃ F',f=slot F'∧K F' H'):=fun v H' he hr=>by refine⟨v,H',he,?_⟩;rw[←zU];exact znx r _ _ hr
  cases hc:zE o.op with
  | false=>
   simp only[hc]at h;unfold stp at h;split at h
   ·rename_i hb;split at h
    ·rename_i v H' hp;exact go v H' (.inr ⟨zq all F o hb,by rw[hcl hc];exact hp⟩) h
    ·rw[zlq]at h;exact h.elim
   ·rename_i hb;exact go _ _ (.inl ⟨zq all F o hb,rfl,rfl⟩) h
   ·rw[zlq]at h;exact h.elim
  | true=>
   simp only[hc]at h;unfold VCg at h;split at h
   ·rename_i hb;split at h
    ·rename_i fn args hp;obtain⟨v,h1,h2⟩:=h;exact go v H (.inr ⟨zq all F o hb,by rw[hp];exact⟨rfl,by have:=h1.1 [];rwa[List.append_nil]at this,h1.2,fun _=>h1.1⟩⟩) h2
    ·exact h.elim
   ·rename_i hb;exact go _ _ (.inl ⟨zq all F o hb,rfl,rfl⟩) h
   ·exact h.elim
theorem zbJ(n:Nat):left n (jD n false)=qR n:=by unfold left;refine qW.2 fun i hi=> ?_;have:=qO.1 hi;simp[jP,this]
theorem zgF(ops:Array Oper):((qR ops.size).filterMap fun i=>ops[i]?)=ops.toList:=by
 have:∀(l:List Oper),((qR l.length).filterMap fun i=>l[i]?)=l:=by
  intro l;induction l with
  | nil=>rfl
  | cons x l ih=>rw[List.length_cons,List.range_succ_eq_map,jK (b:=x) (by rfl),List.filterMap_map];simpa[Function.comp_def]using ih
 have h:=this ops.toList;simpa using h
section rules
variable {E:Env} {Q:Exit→Fr→za→Prop}
theorem PW.drawn{id:Nat}{ops:Array Oper}(hm:P.follows .mixedOrders=true)(hd:zfW E.N ops.toList=true)(h:VOd P (ops.toList.map (·.dst)) ops.toList (some (F,H)) (fun F' H'=>Q .normal F' H')):PW P E (.region id ops true) F H Q:=fun hs C a w hdf hw hf=>by
 refine wp_region_any hm ?_;have hr:=zny (P:=P) _ _ _ h;have hall:∀ i,i<ops.toList.length→zeD (zgf ops.toList) (ops.toList.map (·.dst)) E.N ops.toList i=true:=by intro i hi;unfold zfW at hd;exact jB.1 hd i (qO.2 hi)
 refine ziI (P:=P) hall ops.size (jD ops.size false) (slot F) H C a w.drew sp ?_ (by rw[zbJ];simp) (by rw[zbJ,zgF];exact hr) hdf hw.drew hf ?_
 ·intro i o ho hl j hj;have hi:i<ops.size:=(qN.1 ho).1;simp[jP,hi]at hl
 ·rintro C' f' H' a' w' p1 p2 p3 p4 p5 ⟨F',rfl,p6⟩;exact⟨C',F',H',p1.toN _,p2,p3,((Below.refl C.B w).drew).trans p4,p5,p6⟩
theorem PW.drawg{id:Nat}{ops:Array Oper}(hm:P.follows .mixedOrders=true)(hd:zfW E.N ops.toList true=true)(h:∀ K:Fr→za→Prop,(∀ F' H',Q .normal F' H'→K F' H')→VOg P (ops.toList.map (·.dst)) ops.toList (some (F,H)) K):
  PW P E (.region id ops true) F H Q:=fun hs C a w hdf hw hf=>by
 refine wp_region_any hm ?_;have hr:=znx (P:=P) _ _ _ (h (fun F' H'=>Q .normal F' H') fun _ _ h=>h);have hall:∀ i,i<ops.toList.length→zeD (zgf ops.toList) (ops.toList.map (·.dst)) E.N ops.toList i true=true:=by intro i hi;unfold zfW at hd;exact jB.1 hd i (qO.2 hi)
 refine ziI (P:=P) hall ops.size (jD ops.size false) (slot F) H C a w.drew sp ?_ (by rw[zbJ];simp) (by rw[zbJ,zgF];exact hr) hdf hw.drew hf ?_
 ·intro i o ho hl j hj;have hi:i<ops.size:=(qN.1 ho).1;simp[jP,hi]at hl
 ·rintro C' f' H' a' w' p1 p2 p3 p4 p5 ⟨F',rfl,p6⟩;exact⟨C',F',H',p1.toN _,p2,p3,((Below.refl C.B w).drew).trans p4,p5,p6⟩
theorem PW.draw{id:Nat}{ops:Array Oper}(hm:P.follows .mixedOrders=true)(hd:zfW E.N ops.toList=true)(h:∀ K:Fr→za→Prop,(∀ F' H',Q .normal F' H'→K F' H')→VOd P (ops.toList.map (·.dst)) ops.toList (some (F,H)) K):
  PW P E (.region id ops true) F H Q:=PW.drawn hm hd (h _ fun _ _ h=>h)
end rules
end Go.Proofs.YtpjlfoficnpfoaaGreatDoor.Pm
namespace Go.Proofs.YtpjlfoficnpfoaaGreatDoor.Pm
set_option linter.all false
open Go.RowKit
variable {P:Program} {C:Ctx} {H:za} {w:World} {F:Fr} {a:Act} {N:Nat}
theorem VRel.re{C D:Ctx}(h1:D.M=C.M)(h2:D.mu=C.mu)(h3:D.vs=C.vs)(h4:D.cp=C.cp){x:PV}{u:Value}(h:VRel C x u):VRel D x u:=by
 induction h with
 | nl k=>exact .nl k
 | yl hl _ ih=>exact .yl hl ih
 | int k n=>exact .int k n
 | bool b=>exact .bool b
 | str s=>exact .str s
 | nilp=>exact .nilp
 | ptr hm hv=>exact .ptr (by rw[h2];exact hm) (by rw[h3];exact hv)
 | ptrS v h1 hv hlt=>exact .ptrS v h1 (by rw[h3];exact hv) hlt
 | ip hl hM hc _ ih=>exact .ip hl (by rw[h1];exact hM) hc ih
 | slice hl hM hc _ hcap hmax hf ih=>exact .slice hl (by rw[h1];exact hM) hc ih hcap hmax hf
 | sliceN ad full=>exact .sliceN ad full
 | msl hm hv hcap hmax hg=>exact .msl (by rw[h2];exact hm) (by rw[h3];exact hv) hcap hmax (by rw[h4];exact hg)
 | mslE hm hv hmax=>exact .mslE (by rw[h2];exact hm) (by rw[h3];exact hv) hmax
 | mslG ad hm hv=>exact .mslG ad (by rw[h2,h4];exact hm) (by rw[h3];exact hv)
 | mp hm hv hb=>exact .mp (by rw[h2];exact hm) (by rw[h3];exact hv) (by rw[h4];exact hb)
 | mpS v h1 hv hlt=>exact .mpS v h1 (by rw[h3];exact hv) hlt
 | mslS v h1 hv hlt=>exact .mslS v h1 (by rw[h3];exact hv) hlt
 | agg hl hc _ ih=>exact .agg hl hc ih
 | tup hl _ ih=>exact .tup hl ih
 | func hl hl' _ _ ih ih'=>exact .func hl hl' ih ih'
 | undef v=>exact .undef v
def Vs(E:Env)(F:Fr)(H:za)(F1:Fr)(H1:za):Prop:=HSc E.H0→∀(C:Ctx) (a:Act) (w:World),WRel C H w→FRel C E.N (slot F) a→∃ C',CLeN E.H0.length C C'∧WRel C' H1 w∧FRel C' E.N (slot F1) a
section rules
variable {E:Env} {Q:Exit→Fr→za→Prop} {F1:Fr} {H1:za}
theorem PW.view{c:Code}(hv:Vs E F H F1 H1)(h:PW P E c F1 H1 Q):PW P E c F H Q:=fun hs C a w hd hw hf=>by obtain⟨C',q1,q2,q3⟩:=hv hs C a w hw hf;exact wp_mono (h hs C' a w hd q2 q3) fun _ _ _ hp=>hp.trans q1 (.refl _ _)
theorem PL.view{c:Code}(hv:Vs E F H F1 H1)(h:PL P E c F1 H1 Q):PL P E c F H Q:=fun hs C a w hd hw hf=>by obtain⟨C',q1,q2,q3⟩:=hv hs C a w hw hf;intro b k cs;obtain⟨e2,a2,w2,hq2,harr2⟩:=h hs C' a w hd q2 q3 b k cs;exact⟨e2,a2,w2,hq2.trans q1 (.refl _ _),harr2⟩
theorem Vs.trans{F2:Fr}{H2:za}(h:Vs E F H F1 H1)(k:Vs E F1 H1 F2 H2):Vs E F H F2 H2:=fun hs C a w hw hf=>by obtain⟨C1,q1,q2,q3⟩:=h hs C a w hw hf;obtain⟨C2,r1,r2,r3⟩:=k hs C1 a w q2 q3;exact⟨C2,q1.trans r1,r2,r3⟩
theorem Vs.keep(ks:List Nat):Vs E F H (kp ks F) H:=fun _ C _ _ hw hf=>⟨C,.refl C,hw,hf.keep ks⟩
theorem PW.eq{c:Code}(hF:F=F1)(hH:H=H1)(h:PW P E c F1 H1 Q):PW P E c F H Q:=by subst hF hH;exact h
theorem PL.eq{c:Code}(hF:F=F1)(hH:H=H1)(h:PL P E c F1 H1 Q):PL P E c F H Q:=by subst hF hH;exact h
theorem PW.at{c:Code}(ks:List Nat)(h:PW P E c F1 H1 Q)(hF:kp ks F=F1)(hH:H=H1):PW P E c F H Q:=by subst hF hH;exact h.keep ks
theorem PL.at{c:Code}(ks:List Nat)(h:PL P E c F1 H1 Q)(hF:kp ks F=F1)(hH:H=H1):PL P E c F H Q:=by subst hF hH;exact h.keep ks
theorem PW.rgv{id:Nat}{ops:Array Oper}(ks:List Nat)(d:Nat)(v:PV)(hd:ops.toList.all (zI E.N)=true)(h:VO P (ops.toList.map (·.dst)) ops.toList (some (F,H)) (fun F' H'=>kp (d::ks) F'=(d,v)::kp ks F∧H'=H))(hq:Q .normal ((d,v)::kp ks F) H):
  PW P E (.region id ops false) F H Q:=PW.rg1 (d::ks) _ H hd h hq
theorem PW.to{x y:Code}(ks:List Nat)(F1:Fr)(H1:za)(h:PW P E x F H (zgT (fun F' H'=>kp ks F'=F1∧H'=H1) Q))(hj:PW P E y F1 H1 Q):PW P E (.seq x y) F H Q:=PW.join ks (fun F' H'=>F'=F1∧H'=H1) h (fun F' H' e=>by rw[e.1,e.2];exact hj)
def FzF(n:Nat)(H:za)(F:Fr):Fr→Prop
 | []=>True
 | (t,v)::r=>Fz n H (slot F t) v∧FzF n H F r
theorem FzF.slot{n:Nat}:∀{F1:Fr},FzF n H F F1→∀ t,Pm.slot F1 t= .undef∨Fz n H (Pm.slot F t) (Pm.slot F1 t)
 | [],_,t=>.inl rfl
 | (k,x)::r,h,t=>by
  show(match jH k t with|true=>x|false=>Pm.slot r t)= .undef∨Fz n H (Pm.slot F t) (match jH k t with|true=>x|false=>Pm.slot r t);cases hb:jH k t with
  | true=>exact .inr (by rw[←qT hb];exact h.1)
  | false=>exact FzF.slot h.2 t
theorem Vs.cut(hn:E.H0.length≤H1.length)(hH:HSc E.H0→CutH H H1)(hF:FzF H1.length H F F1):Vs E F H F1 H1:=fun hs C a w hw hf=>by
 obtain⟨g1,g2⟩:=hw.cutN (hH hs);refine⟨_,g1.less hn,g2,hf.1,fun t=> ?_⟩;rcases hF.slot t with h|h
 ·rw[h];exact .undef _
 ·exact h.sound hw (hf.2 t)
theorem Scoped.mono{n m:Nat}(hm:n≤m){x:PV}(h:Scoped n x):Scoped m x:=by
 induction h with
 | nl k=>exact .nl k
 | yl _ ih=>exact .yl ih
 | lp l r=>exact .lp l r
 | int k m=>exact .int k m
 | bool b=>exact .bool b
 | str s=>exact .str s
 | nilp=>exact .nilp
 | undef=>exact .undef
 | ptr h=>exact .ptr om
 | msl h=>exact .msl om
 | mp h=>exact .mp om
 | ip _ ih=>exact .ip ih
 | slice _ ih=>exact .slice ih
 | agg _ ih=>exact .agg ih
 | tup _ ih=>exact .tup ih
 | func _ _ ih ih'=>exact .func ih ih'
def FzC(n:Nat)(H:za):List PV→List PV→Prop
 | [],[]=>True
 | x::xs,y::ys=>Fz n H x y∧FzC n H xs ys
 | _,_=>False
theorem FzC.pw{n:Nat}:∀{xs ys:List PV},FzC n H xs ys→ys.length=xs.length∧∀(j:Nat) (x y:PV),xs[j]? =some x→ys[j]? =some y→Fz n H x y
 | [],[],_=>⟨rfl,fun j x y hx=>by simp at hx⟩
 | x::xs,y::ys,h=>by
  obtain⟨l,q⟩:=FzC.pw h.2;refine⟨by simp[l],fun j a b ha hb=> ?_⟩;cases j with
  | zero=>simp at ha hb;subst ha hb;exact h.1
  | succ j=>exact q j a b (by simpa using ha) (by simpa using hb)
 | [],_::_,h=>h.elim
 | _::_,[],h=>h.elim
theorem FzC.refl{n:Nat}:∀{xs:List PV},(∀ x∈xs,Scoped n x)→FzC n H xs xs
 | [],_=>trivial
 | x::xs,h=>⟨.id (h x sp),FzC.refl fun y hy=>h y (by simp[hy])⟩
theorem FzC.append{n:Nat}:∀{xs ys us vs:List PV},FzC n H xs ys→FzC n H us vs→FzC n H (xs++us) (ys++vs)
 | [],[],_,_,_,h=>h
 | x::xs,y::ys,_,_,h,h'=>⟨h.1,FzC.append h.2 h'⟩
 | [],_::_,_,_,h,_=>h.elim
 | _::_,[],_,_,h,_=>h.elim
theorem Fz.tupC{n:Nat}{xs ys:List PV}(h:FzC n H xs ys):Fz n H (.tup xs) (.tup ys):=.tup h.pw.1 h.pw.2
theorem Fz.aggC{n:Nat}{xs ys:List PV}(h:FzC n H xs ys):Fz n H (.agg xs) (.agg ys):=.agg h.pw.1 h.pw.2
theorem Fz.sliceC{n len:Nat}{f f':Bool}{xs ys:List PV}(h:FzC n H xs ys)(hf:f'=true→f=true):Fz n H (.slice xs len f) (.slice ys len f'):=.slice h.pw.1 h.pw.2 hf
theorem Fz.mslC{n id ver len sz e:Nat}{g:Bool}{xs ys:List PV}(hn:n≤id)(hk:H[id]? =some ⟨e,ver,xs⟩)(hl:xs.length=len * sz)(h:FzC n H xs ys):Fz n H (.msl id ver 0 len sz g) (.slice ys len false):=by
 have ht:((xs.drop 0).take (len * sz))=xs:=by rw[jJ,←hl,jA]
 exact .msl hn hk rfl (by simp only;omega) (by simp only;rw[ht];exact h.pw.1) (by simp only;rw[ht];exact h.pw.2)
def FzL(n:Nat)(H:za):List Blk→List Blk→Prop
 | [],[]=>True
 | k::r,k1::r1=>k1.e=k.e∧k1.ver=k.ver∧FzC n H k.cells k1.cells∧FzL n H r r1
 | _,_=>False
theorem FzL.get{n:Nat}:∀{L L1:List Blk},FzL n H L L1→L1.length=L.length∧∀(j:Nat) (k1:Blk),L1[j]? =some k1→∃ k,L[j]? =some k∧k1.e=k.e∧k1.ver=k.ver∧FzC n H k.cells k1.cells
 | [],[],_=>⟨rfl,fun j k h=>by simp at h⟩
 | k::r,k1::r1,h=>by
  obtain⟨h1,h2,h3,h4⟩:=h;obtain⟨l,q⟩:=FzL.get h4;refine⟨by simp[l],fun j k' hk'=> ?_⟩;cases j with
  | zero=>simp at hk';subst hk';exact⟨k,rfl,h1,h2,h3⟩
  | succ j=>exact q j k' (by simpa using hk')
 | [],_::_,h=>h.elim
 | _::_,[],h=>h.elim
theorem FzL.refl{n:Nat}:∀{L:List Blk},(∀ k∈L,∀ x∈k.cells,Scoped n x)→FzL n H L L
 | [],_=>trivial
 | k::r,h=>⟨rfl,rfl,FzC.refl (h k sp),FzL.refl fun k' hk'=>h k' (by simp[hk'])⟩
theorem CutH.of{A L K L1:za}(hA:HSc A)(hL:FzL (A++L1).length (A++L++K) L L1):CutH (A++L++K) (A++L1):=by
 obtain⟨l,q⟩:=hL.get;refine⟨by simp[l],fun j k1 hk1=> ?_⟩;by_cases hj:j<A.length
 ·rw[qI hj]at hk1;refine⟨k1,by rw[qZ,qI hj];exact hk1,rfl,rfl,rfl,fun i x y hx hy=> ?_⟩;rw[hx]at hy;injection hy with hy;subst hy;exact .id ((hA j k1 hk1 x (qU hx)).mono sp)
 ·rw[jI om]at hk1;obtain⟨k,hk,h1,h2,h3⟩:=q _ k1 hk1;have hlt:=(qB.1 hk).1;exact⟨k,by rw[qZ,jI om,qI hlt];exact hk,h1,h2,h3.pw.1,h3.pw.2⟩
theorem CutH.base{A K:za}(hA:HSc A):CutH (A++K) A:=by have:=CutH.of (A:=A) (L:=[]) (K:=K) (L1:=[]) hA trivial;simpa using this
theorem HSc.set{A:za}(hA:HSc A){id:Nat}{k:Blk}(hk:∀ x∈k.cells,Scoped A.length x):HSc (A.set id k):=fun j k' hk' x hx=>by
 rw[List.length_set];rw[qD]at hk';split at hk'
 ·split at hk'
  ·injection hk' with hk';subst hk';exact hk x hx
  ·cases hk'
 ·exact hA j k' hk' x hx
theorem Vs.trim{K:za}(hA:HSc E.H0→HSc H1)(hn:E.H0.length≤H1.length)(hH:H=H1++K)(hF:FzF H1.length H F F1):Vs E F H F1 H1:=Vs.cut hn (fun hs=>by rw[hH];exact CutH.base (hA hs)) hF
theorem Fin.cut{A K H':za}{v v':PV}(hH:H'=A++K)(hl:H.length=A.length)(hA:HSc H→HSc A)(hv:Fz A.length H' v' v):Fin H v A v' H':=by subst hH;exact .inr (.inr fun hs=>⟨om,CutH.base (hA hs),hv⟩)
theorem Fin.base{K:za}{v v':PV}(hv:Fz H.length (H++K) v' v):Fin H v H v' (H++K):=Fin.cut rfl rfl (fun h=>h) hv
theorem Fin.more{A L K L1 H':za}{v v':PV}(hH:H'=A++L++K)(hl:H.length=A.length)(hA:HSc H→HSc A)(hL:FzL (A++L1).length H' L L1)(hv:Fz (A++L1).length H' v' v):Fin H v (A++L1) v' H':=by subst hH;exact .inr (.inr fun hs=>⟨by simp;omega,CutH.of (hA hs) hL,hv⟩)
theorem Fin.now{v:PV}{H1:za}:Fin H v H1 v H1:=.inl ⟨rfl,rfl⟩
theorem ziw{id sz:Nat}(hm:C.mu[id]? =some none∧C.cp[id]? =some 0)(hv:C.vs[id]? =some 0){u:Value}(h:VRel C (.slice [] 0 true) u):VRel C (.msl id 0 0 0 sz true) u:=by
 cases h with
 | slice hl hM hc hR hcap hmax hf=>rw[hf rfl];exact .mslG _ hm hv
 | sliceN=>exact .mslG _ hm hv
theorem Vs.ghost(t e sz:Nat)(hs:slot F t= .slice [] 0 true):Vs E F H ((t,.msl H.length 0 0 0 sz true)::F) (H++[⟨e,0,[]⟩]):=fun _ C a w hw hf=>by
 obtain⟨g1,g2⟩:=hw.ghost e 0;refine⟨_,g1.toN _,g2,hf.1,fun t'=> ?_⟩;show VRel _ (match jH t t' with|true=>_|false=>slot F t') _;cases hb:jH t t' with
 | true=>
  rw[←qT hb];have:=hf.2 t;rw[hs]at this;exact ziw ⟨by simp[Ctx.more,←hw.len],by simp[Ctx.more,←hw.lenc]⟩ (by simp[Ctx.more,←hw.lenv]) (this.mono g1)
 | false=>exact(hf.2 t').mono g1
theorem WRel.recell(hw:WRel C H w){id j:Nat}{k:Blk}{x y:PV}(hk:H[id]? =some k)(hj:k.cells[j]? =some x)(hc:y.cell=true)(hlp:∀ l r,x≠.lp l r)(hR:∀ u,VRel C x u→VRel C y u):WRel C (H.set id ⟨k.e,k.ver,k.cells.set j y⟩) w:=by
 have hid:id<H.length:=(qB.1 hk).1;refine⟨hw.gl,hw.base,hw.tople,hw.imm,by rw[hw.len];simp,by rw[hw.lenv];simp,by rw[hw.lenc];simp,?_,?_,?_,hw.disj,hw.inj,hw.minj⟩
 ·intro i k' hk';rw[qD]at hk';split at hk'
  ·rename_i e;subst e;simp only[hid,if_true,qG.injEq]at hk';subst hk';exact hw.ver id k hk
  ·exact hw.ver i k' hk'
 ·intro i k' hk' hm;rw[qD]at hk';split at hk'
  ·rename_i e;subst e;simp only[hid,if_true,qG.injEq]at hk';subst hk';rcases hw.gho id k hk hm with h0|⟨b,es,clock,q1,q2,q3,q4,q5⟩|⟨b,r,q1,q2,q3,q4⟩
   ·rw[h0.2]at hj;simp at hj
   ·refine .inr (.inl ⟨b,es,clock,q1,q2,q3,by simpa using q4,fun i z e hz he=> ?_⟩);rw[qD]at hz;split at hz
    ·rename_i e;subst e;split at hz
     ·injection hz with hz;subst hz;exact hR _ (q5 j x _ hj he)
     ·cases hz
    ·exact q5 i z _ hz he
   ·rw[q4.1]at hj;cases j with
    | zero=>injection hj with hj;exact absurd hj.symm (hlp _ r)
    | succ j=>simp at hj
  ·exact hw.gho i k' hk' hm
 ·intro i k' b hk' hm;rw[qD]at hk';split at hk'
  ·rename_i e;subst e;simp only[hid,if_true,qG.injEq]at hk';subst hk';obtain⟨cur,q3,q4,q5,q6,q7,q8⟩:=hw.own id k b hk hm;refine⟨cur,q3,q4,q5,fun z hz=> ?_,by simpa using q7,fun i z u hz hu=> ?_⟩
   ·rcases qP hz with hz|hz
    ·exact q6 z hz
    ·rw[hz];exact hc
   ·rw[qD]at hz;split at hz
    ·rename_i e;subst e;split at hz
     ·injection hz with hz;subst hz;exact hR u (q8 j x u hj hu)
     ·cases hz
    ·exact q8 i z u hz hu
  ·exact hw.own i k' b hk' hm
theorem Vs.ghostH{id j:Nat}{k:Blk}(e sz:Nat)(hk:H[id]? =some k)(hj:k.cells[j]? =some (.slice [] 0 true)):
  Vs E F H F (H.set id ⟨k.e,k.ver,k.cells.set j (.msl H.length 0 0 0 sz true)⟩++[⟨e,0,[]⟩]):=fun _ C a w hw hf=>by
 obtain⟨g1,g2⟩:=hw.ghost e 0;have hid:id<H.length:=(qB.1 hk).1;have:=g2.recell (id:=id) (j:=j) (k:=k) (y:=.msl H.length 0 0 0 sz true) (by rw[qI hid];exact hk) hj rfl (fun _ r h=>by cases h) (fun u hu=>ziw ⟨by simp[Ctx.more,←hw.len],by simp[Ctx.more,←hw.lenc]⟩ (by simp[Ctx.more,←hw.lenv]) hu);rw[List.set_append_left _ _ hid]at this;exact⟨_,g1.toN _,this,hf.mono g1⟩
end rules
theorem WRel.grown(hw:WRel C H w){w':World}(hb:Below w.heap.size w w'):WRel C H w':=by
 have hcell:∀ b o u,w.cell? ⟨b,o,none⟩=some u→w'.cell? ⟨b,o,none⟩=some u:=fun b o u hu=>by have hlt:=World.block_lt_of_cell? w ⟨b,o,none⟩ hu;have e:=hb.block b hlt;simp only[World.cell?]at hu ⊢;rw[e];exact hu
 have hsz:=hb.size;refine⟨hw.gl,by have:=hw.base;omega,by have:=hw.tople;omega,fun b o u hu=>hcell _ _ _ (hw.imm b o u hu),hw.len,hw.lenv,hw.lenc,hw.ver,fun id k hk hm=>(hw.gho id k hk hm).imp_right (fun m=>m.mono (.refl _) rfl (fun b es c hp h3=>by rw[hb.block b (qN.1 h3).1];exact h3)),fun id k b hk hm=> ?_,hw.disj,hw.inj,hw.minj⟩;obtain⟨cur,q3,q4,q5,q6,q7,q8⟩:=hw.own id k b hk hm;exact⟨cur,q3,q4,by rw[hb.block b (hw.mu_lt hm)];exact q5,q6,q7,q8⟩
def Ctx.after(C C2:Ctx)(n:Nat):Ctx:={ C with M:=fun b o=>if b<n then C.M b o else C2.M b o }
theorem zln(C C2:Ctx)(hw:WRel C H w):CLe C (C.after C2 w.heap.size):=by
 refine⟨rfl,fun b o u hu=> ?_,rfl,fun b o u hu=> ?_,fun b hb=>.inl hb,fun id ver hv=>⟨ver,hv,jE _,fun _=>⟨rfl,rfl⟩⟩⟩
 ·have:=hw.imm_lt hu;simp only[Ctx.after];rw[if_pos this];exact hu
 ·simp only[Ctx.after]at hu;split at hu
  ·exact .inl hu
  ·have:=hw.tople;exact .inr (.inl om)
theorem ztu{C2:Ctx}{w':World}(hw:WRel C H w)(hb:Below w.heap.size w w')(h2:WRel C2 [] w'):WRel (C.after C2 w.heap.size) H w':=by
 have h:=hw.grown hb;have hle:=zln C C2 hw;refine⟨h.gl.mono hle.M,h.base,h.tople,fun b o u hu=> ?_,h.len,h.lenv,h.lenc,h.ver,fun id k hk hm=>(h.gho id k hk hm).imp_right (fun m=>m.mono hle rfl (fun b es c hp h3=>h3)),fun id k b hk hm=> ?_,fun id b hm o=> ?_,h.inj,h.minj⟩
 ·simp only[Ctx.after]at hu;split at hu
  ·exact h.imm b o u hu
  ·exact h2.imm b o u hu
 ·obtain⟨cur,q3,q4,q5,q6,q7,q8⟩:=h.own id k b hk hm;exact⟨cur,q3,q4,q5,q6,q7,fun j x u hx hu=>(q8 j x u hx hu).mono hle⟩
 ·simp only[Ctx.after];rw[if_pos (hw.mu_lt hm)];exact hw.disj id b hm o
theorem ztv{n:Nat}{C2:Ctx}(hM:∀ b o u,C2.M b o=some u→C.M b o=some u∨n≤b)(hlt:∀ b o u,C.M b o=some u→b<n)(hC:∀ b o u,C.M b o=some u→C2.M b o=some u)(hv0:C2.vs=[]){x:PV}{u:Value}(h:VRel C2 x u):VRel (C.after C2 n) x u:=by
 have key:∀ b o u,C2.M b o=some u→(C.after C2 n).M b o=some u:=fun b o u hu=>by
  simp only[Ctx.after];rcases hM b o u hu with h|h
  ·rw[if_pos (hlt b o u h)];exact h
  ·rw[if_neg om];exact hu
 have no:∀{id ver:Nat},C2.vs[id]? =some ver→False:=fun h=>by rw[hv0]at h;simp at h
 induction h with
 | nl k=>exact .nl k
 | yl hl _ ih=>exact .yl hl ih
 | int k n=>exact .int k n
 | bool b=>exact .bool b
 | str s=>exact .str s
 | nilp=>exact .nilp
 | ptr hm hv=>exact(no hv).elim
 | ptrS v h1 hv hlt=>exact(no hv).elim
 | ip hl hM hc _ ih=>exact .ip hl (fun j u hu=>key _ _ _ (hM j u hu)) hc ih
 | slice hl hM hc _ hcap hmax hf ih=>exact .slice hl (fun j u hu=>key _ _ _ (hM j u hu)) hc ih hcap hmax hf
 | sliceN ad full=>exact .sliceN ad full
 | msl hm hv hcap hmax hg=>exact(no hv).elim
 | mslE hm hv hmax=>exact(no hv).elim
 | mslG ad hm hv=>exact(no hv).elim
 | mslS v h1 hv hlt=>exact(no hv).elim
 | mp hm hv hb=>exact(no hv).elim
 | mpS v h1 hv hlt=>exact(no hv).elim
 | agg hl hc _ ih=>exact .agg hl hc ih
 | tup hl _ ih=>exact .tup hl ih
 | func hl hl' _ _ ih ih'=>exact .func hl hl' ih ih'
 | undef v=>exact .undef v
theorem CallEx.frame{f:FuncId}{args:List PV}{R:PV→Prop}(h:CallEx P f args [] (fun v H'=>R v∧H'=[]))(hs:∀ x∈args,Scoped 0 x):CallEx P f args H (fun v H'=>R v∧H'=H):=by
 refine⟨h.1,fun C us w hw hu=> ?_⟩;have h0:WRel { B:=w.heap.size,M:=C.M,mu:=[],vs:=[],cp:=[],top:=w.heap.size } [] w:=⟨hw.gl,jE _,jE _,hw.imm,rfl,rfl,rfl,fun id k h=>by simp at h,fun id k h=>by simp at h,fun id k b h=>by simp at h,fun id b h=>by simp at h,fun i j b h=>by simp at h,fun i j b h=>by simp at h⟩;have ha:VRels { B:=w.heap.size,M:=C.M,mu:=[],vs:=[],cp:=[],top:=w.heap.size } args us:=⟨hu.1,fun j x u hx hu'=>by
  have:=(hu.2 j x u hx hu').cut (n:=0) (M:=C.M) (fun _ _ _ h=>h) (hs x (qU hx));refine this.re ?_ ?_ ?_ ?_<;>simp[Ctx.cut]⟩
 refine(h.2 _ us w h0 ha).mono ?_;rintro e w' ⟨C2,u,v,H',⟨hR,rfl⟩,q1,q2,q3,q4,q5⟩;refine⟨C.after C2 w.heap.size,u,v,H,⟨hR,rfl⟩,zln C C2 hw,ztu hw q3 q2,q3.mono hw.base,q4,?_⟩;refine ztv (fun b o u hu=> ?_) (fun b o u hu=>hw.imm_lt hu) (fun b o u hu=>q1.M b o u hu) (jC q2.lenv) q5;rcases q1.mnew b o u hu with h|h|h
 ·exact .inl h
 ·exact .inr h
 ·simp at h
theorem CallOk.frame{f:FuncId}{args:List PV}{v:PV}(h:CallOk P f args [] v [])(hs:∀ x∈args,Scoped 0 x):CallOk P f args H v H:=(CallEx.frame (R:=fun v'=>v'=v) h.toEx hs).one
inductive Scal:PV→Prop where
 | int (k:IntKind) (m:Int):Scal (.int k m)
 | bool (b:Bool):Scal (.bool b)
 | str (s:List UInt8):Scal (.str s)
 | nilp:Scal .nilp
 | agg {xs:List PV} (h:∀(j:Nat) (x:PV),xs[j]? =some x→Scal x):Scal (.agg xs)
 | tup {xs:List PV} (h:∀(j:Nat) (x:PV),xs[j]? =some x→Scal x):Scal (.tup xs)
theorem Scal.any{C C':Ctx}{x:PV}(h:Scal x):∀{u:Value},VRel C x u→VRel C' x u:=by
 induction h with
 | int k m=>intro u hv;cases hv;exact .int k m
 | bool b=>intro u hv;cases hv;exact .bool b
 | str s=>intro u hv;cases hv;exact .str _
 | nilp=>intro u hv;cases hv;exact .nilp
 | agg _ ih=>intro u hv;cases hv with|agg hl hc hR=>exact .agg hl hc (fun j x u hx hu=>ih j x hx (hR j x u hx hu))
 | tup _ ih=>intro u hv;cases hv with|tup hl hR=>exact .tup hl (fun j x u hx hu=>ih j x hx (hR j x u hx hu))
theorem WRel.freeze1(hw:WRel C H w){id:Nat}{k:Blk}(hk:H[id]? =some k):∃ C1,CLe C C1∧WRel C1 (H.set id ⟨k.e,k.ver+1,[]⟩) w∧
  ∀(off len sz:Nat) (g:Bool) (u:Value),off+len * sz≤k.cells.length→VRel C (.msl id k.ver off len sz g) u→VRel C1 (.slice ((k.cells.drop off).take (len * sz)) len false) u:=by
 have hid:id<H.length:=(qB.1 hk).1;have e1:=hw.len;have e2:=hw.lenv;have e3:=hw.lenc;obtain⟨m,hm⟩:∃ m,C.mu[id]? =some m:=⟨C.mu[id]'om,qH _⟩;have hge:∀ b o u,C.M b o=some u→(if m=some b then w.cell? ⟨b,o,none⟩else C.M b o)=some u:=fun b o u hu=>by
  split
  ·exact hw.imm b o u hu
  ·exact hu
 have hle:CLe C { B:=C.B,top:=C.top,M:=fun b o=>if m=some b then w.cell? ⟨b,o,none⟩else C.M b o,mu:=C.mu.set id none,vs:=C.vs.set id (k.ver+1),cp:=C.cp.set id 0 }:=by
  refine⟨rfl,hge,rfl,fun b o u hu=> ?_,fun b hb=> ?_,fun i ver hv=> ?_⟩
  ·simp only at hu;split at hu
   ·rename_i hmb;exact .inr (.inr (hmb▸qU hm))
   ·exact .inl hu
  ·rcases qP hb with hb|hb
   ·exact .inl hb
   ·cases hb
  ·by_cases hi:i=id
   ·subst hi;rw[hw.ver i k hk]at hv;injection hv with hv;exact⟨k.ver+1,by simp[e2,hid],om,fun he=>om⟩
   ·exact⟨ver,by rw[qA om];exact hv,jE _,fun _=>⟨by rw[qA om],by rw[qA om]⟩⟩
 refine⟨_,hle,?_,?_⟩
 ·refine⟨hw.gl.mono hge,hw.base,hw.tople,fun b o u hu=> ?_,by simp[e1],by simp[e2],by simp[e3],?_,?_,?_,?_,?_,?_⟩
  ·simp only at hu;split at hu
   ·exact hu
   ·exact hw.imm b o u hu
  ·intro i k' hk';by_cases hi:i=id
   ·subst hi;simp[hid]at hk';subst hk';simp[e2,hid]
   ·rw[qA om]at hk';rw[qA om];exact hw.ver i k' hk'
  ·intro i k' hk' hm';by_cases hi:i=id
   ·subst hi;simp[hid]at hk';subst hk';exact .inl ⟨by simp[e3,hid],rfl⟩
   ·rw[qA om]at hk' hm';rw[qA om];exact(hw.gho i k' hk' hm').imp_right (fun m=>m.mono hle rfl (fun b es c hp h3=>h3))
  ·intro i k' b hk' hm';by_cases hi:i=id
   ·subst hi;simp[e1,hid]at hm'
   ·rw[qA om]at hk' hm';obtain⟨c,q3,q4,q5,q6,q7,q8⟩:=hw.own i k' b hk' hm';exact⟨c,by rw[qA om];exact q3,q4,q5,q6,q7,fun j x u hx hu=>(q8 j x u hx hu).mono hle⟩
  ·intro i b hb o;by_cases hi:i=id
   ·subst hi;simp[e1,hid]at hb
   ·simp only[qA (by omega:id≠i)]at hb;simp only;rw[if_neg (fun e=> ?_)]
    ·exact hw.disj i b hb o
    ·rw[e]at hm;exact hi (hw.inj i id b hb hm)
  ·intro i j b hi hj;have ne:∀{i:Nat},(C.mu.set id none)[i]? =some (some b)→i≠id∧C.mu[i]? =some (some b):=fun{i} h=>by
    by_cases hi:i=id
    ·subst hi;simp[e1,hid]at h
    ·exact⟨hi,by rw[qA om]at h;exact h⟩
   exact hw.inj i j b (ne hi).2 (ne hj).2
  ·intro i j b mi mj ci cj;have ne:∀{i:Nat},(C.mu.set id none)[i]? =some none→(C.cp.set id 0)[i]? =some (b+1)→C.mu[i]? =some none∧C.cp[i]? =some (b+1):=fun{i} h h'=>by
    by_cases hi:i=id
    ·subst hi;simp[e3,hid]at h'
    ·exact⟨by rw[qA om]at h;exact h,by rw[qA om]at h';exact h'⟩
   exact hw.minj i j b (ne mi ci).1 (ne mj cj).1 (ne mi ci).2 (ne mj cj).2
 ·intro off len sz g u ho hv;obtain⟨b,cap,off',q1,rfl,hc1,hc2,ho',_⟩|⟨ad,hgh,h0,rfl⟩:=zbo hw hv (hw.ver id k hk)
  ·rw[hm]at q1;injection q1 with q1;subst q1;obtain⟨cur,q3,q5,q6,q7,q8,q9,q10⟩:=hw.blk hk hm;have hlen:(((cur.toList.take k.cells.length).drop off).take (len * sz)).length=((k.cells.drop off).take (len * sz)).length:=by simp;omega
   refine .slice hlen (fun j u hu=> ?_) (fun x hx=>q6 x (List.mem_of_mem_drop (List.mem_of_mem_take hx))) (fun j x u hx hu=>(((q9.drop off).take (len * sz)) j x u hx hu).mono hle) hc1 hc2 (fun hf=>by cases hf);simp only[if_true];rcases Nat.eq_zero_or_pos len with h0|h0
   ·subst h0;simp at hu
   ·obtain rfl:=ho' h0;have:=((q8.drop off').take (len * sz)) j u hu;rwa[Nat.zero_add]at this
  ·subst h0;have e:(k.cells.drop off).take (0 * sz)=[]:=by simp
   rw[e];exact .sliceN _ _
def Fz1(id:Nat)(k:Blk):List PV→List PV→Prop
 | [],[]=>True
 | x::xs,y::ys=>(x=y∨∃ len sz g,x= .msl id k.ver 0 len sz g∧k.cells.length=len * sz∧y= .slice k.cells len false)∧Fz1 id k xs ys
 | _,_=>False
theorem Fz1.get{id:Nat}{k:Blk}:∀{xs ys:List PV},Fz1 id k xs ys→ys.length=xs.length∧∀(j:Nat) (x y:PV),xs[j]? =some x→ys[j]? =some y→(x=y∨∃ len sz g,x= .msl id k.ver 0 len sz g∧k.cells.length=len * sz∧y= .slice k.cells len false)
 | [],[],_=>⟨rfl,fun j x y hx=>by simp at hx⟩
 | x::xs,y::ys,h=>by
  obtain⟨l,q⟩:=Fz1.get h.2;refine⟨by simp[l],fun j a b ha hb=> ?_⟩;cases j with
  | zero=>simp at ha hb;subst ha hb;exact h.1
  | succ j=>exact q j a b (by simpa using ha) (by simpa using hb)
 | [],_::_,h=>h.elim
 | _::_,[],h=>h.elim
theorem CallEx.frz1{f:FuncId}{args args':List PV}{R:PV→za→Prop}{id:Nat}{k:Blk}(hk:H[id]? =some k)(h:CallEx P f args' (H.set id ⟨k.e,k.ver+1,[]⟩) R)(hz:Fz1 id k args args'):CallEx P f args H R:=by
 refine⟨h.1,fun C us w hw hu=> ?_⟩;obtain⟨C1,hle,hw1,hf⟩:=hw.freeze1 hk;obtain⟨hl,hp⟩:=hz.get;have ha:VRels C1 args' us:=⟨by rw[hu.1,hl],fun j y u hy hu'=>by
  have hj:j<args.length:=by have:=(qB.1 hy).1;omega
  have hv:=hu.2 j _ u (qH hj) hu';rcases hp j _ y (qH hj) hy with e|⟨len,sz,g,e1,e2,e3⟩
  ·rw[←e];exact hv.mono hle
  ·rw[e1]at hv;have:=hf 0 len sz g u om hv;rw[jJ,←e2,jA]at this;rw[e3];exact this⟩
 refine(h.2 C1 us w hw1 ha).mono ?_;rintro e w' ⟨C2,u,v,H',hR,q1,q2,q3,q4,q5⟩;exact⟨C2,u,v,H',hR,hle.trans q1,q2,by rw[←hle.B];exact q3,q4,q5⟩
theorem CallOk.frz1{f:FuncId}{args args':List PV}{v:PV}{H':za}{id:Nat}{k:Blk}(hk:H[id]? =some k)(h:CallOk P f args' (H.set id ⟨k.e,k.ver+1,[]⟩) v H')(hz:Fz1 id k args args'):CallOk P f args H v H':=(CallEx.frz1 hk h.toEx hz).one
theorem Vs.frzCell{E:Env}{id id' j len sz:Nat}{g:Bool}{k k':Blk}(hk:H[id]? =some k)(hk':H[id']? =some k')(hne:id≠id')(hj:k'.cells[j]? =some (.msl id k.ver 0 len sz g))(hl:k.cells.length=len * sz):
  Vs E F H F ((H.set id ⟨k.e,k.ver+1,[]⟩).set id' ⟨k'.e,k'.ver,k'.cells.set j (.slice k.cells len false)⟩):=fun _ C a w hw hf=>by
 obtain⟨C1,hle,hw1,hfz⟩:=hw.freeze1 hk;have hid':id'<H.length:=(qB.1 hk').1;have hid:id<H.length:=(qB.1 hk).1;obtain⟨m,hm⟩:∃ m,C.mu[id']? =some m:=⟨C.mu[id']'(by rw[hw.len];exact hid'),qH _⟩;cases m with
 | none=>
  rcases hw.gho id' k' hk' hm with h0|⟨b,es,clock,q1,q2,q3,q4,q5⟩|⟨b,r,q1,q2,q3,q4⟩
  ·rw[h0.2]at hj;simp at hj
  ·have hj':j<es.size:=by rw[q4];exact(qB.1 hj).1
   obtain⟨b,cap,off',_,e,_⟩|⟨ad,_,_,e⟩:=zbo hw (q5 j _ es[j] hj (qF hj')) (hw.ver id k hk)<;>cases e
  ·rw[q4.1]at hj;cases j with
   | zero=>injection hj with hj;cases hj
   | succ j=>simp at hj
 | some b=>
  obtain⟨cur,q3,q4,q5,q6,q7,q8⟩:=hw.own id' k' b hk' hm;have hk1:(H.set id ⟨k.e,k.ver+1,[]⟩)[id']? =some k':=by rw[qA hne];exact hk'
  refine⟨C1,hle.toN _,?_,hf.mono hle⟩;have hlt:id'<(H.set id ⟨k.e,k.ver+1,[]⟩).length:=by rw[List.length_set];exact hid'
  refine⟨hw1.gl,hw1.base,hw1.tople,hw1.imm,by rw[hw1.len];simp,by rw[hw1.lenv];simp,by rw[hw1.lenc];simp,?_,?_,?_,hw1.disj,hw1.inj,hw1.minj⟩
  ·intro i k2 hk2;rw[qD]at hk2;split at hk2
   ·rename_i e;subst e;simp only[hlt,if_true,qG.injEq]at hk2;subst hk2;exact hw1.ver id' k' hk1
   ·exact hw1.ver i k2 hk2
  ·intro i k2 hk2 hm2;rw[qD]at hk2;split at hk2
   ·rename_i e;subst e;obtain⟨ver',e1,e2,e3⟩:=hle.ids id' k'.ver (hw.ver id' k' hk');have h2:=hw1.ver id' k' hk1;rw[e1]at h2;injection h2 with h2;have:=(e3 h2).1;rw[hm2,hm]at this;cases this
   ·exact hw1.gho i k2 hk2 hm2
  ·intro i k2 b2 hk2 hm2;rw[qD]at hk2;split at hk2
   ·rename_i e;subst e;simp only[hlt,if_true,qG.injEq]at hk2;subst hk2;obtain⟨cur1,r3,r4,r5,r6,r7,r8⟩:=hw1.own id' k' b2 hk1 hm2;have hb:b2=b:=by obtain⟨ver',e1,e2,e3⟩:=hle.ids id' k'.ver (hw.ver id' k' hk');have h2:=hw1.ver id' k' hk1;rw[e1]at h2;injection h2 with h2;have:=(e3 h2).1;rw[hm2,hm]at this;injection this with this;injection this
    subst hb;rw[q5]at r5;injection r5 with r5;injection r5 with r5;subst r5;refine⟨cur,r3,r4,q5,fun z hz=> ?_,by simpa using r7,fun i z u hz hu=> ?_⟩
    ·rcases qP hz with hz|hz
     ·exact r6 z hz
     ·rw[hz];rfl
    ·rw[qD]at hz;split at hz
     ·rename_i e;subst e;split at hz
      ·injection hz with hz;subst hz;have:=hfz 0 len sz g u om (q8 j _ u hj hu);rwa[jJ,←hl,jA]at this
      ·cases hz
     ·exact r8 i z u hz hu
   ·exact hw1.own i k2 b2 hk2 hm2
end Go.Proofs.YtpjlfoficnpfoaaGreatDoor.Pm
