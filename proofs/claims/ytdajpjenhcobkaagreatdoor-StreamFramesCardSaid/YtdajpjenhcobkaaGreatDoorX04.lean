/-
  Parts of the proof. No condition.
-/
import Derived.Test.YtdajpjenhcobkaaGreatDoorX03
import Derived.Orders
open Array renaming mem_toList_iff → qF, getElem?_eq_getElem → qG, getElem?_eq_some_iff → qW, all_eq_true_iff_forall_mem → jG, replicate → jJ, getD_eq_getD_getElem? → jK, toArray_toList → jN, getD → jS
open Bool renaming and_eq_true → qB, not_eq_true' → qK, or_eq_true → qP
open List renaming getElem?_eq_some_iff → qE, getElem?_set_ne → qI, getElem?_set → qL, mem_range → qN, getElem?_append_left → qO, pairwise_cons → qQ, filterMap_append → qR, range → qS, all_eq_true → qT, eq_nil_of_length_eq_zero → qU, mem_map → qV, mem_cons_self → qX, filterMap_cons_some → qY, elem_eq_mem → qZ, mem_filter → jA, mem_append → jB, pairwise_append → jC, exists_cons_of_length_eq_add_one → jD, map_congr_left → jE, mem_filterMap → jF, append_assoc → jH, eq_nil_iff_forall_not_mem → jI, getElem?_append_right → jL, getElem?_eq_getElem → jM, mem_of_getElem? → jO, mem_cons_of_mem → jP, filter_eq_self → jR
open Nat renaming beq → qH, eq_of_beq_eq_true → qJ, le_refl → jQ
open Option renaming some → qA, map_eq_some_iff → qD
open Prod renaming mk → qM
set_option linter.all false
set_option maxRecDepth 100000
set_option maxHeartbeats 32000000
namespace Go.Proofs.YtdajpjenhcobkaaGreatDoor.Pm
open Go.RowKit
variable {P:Program} {C:Ctx} {H:za} {w:World} {F:Fr} {a:Act} {N:Nat}
def zpB(xs:List Operand):List Nat:=xs.filterMap fun| .tmp t=>some t|_=>none
def zrI(ds:List (Option Nat))(o:Oper):List Nat:=match o.guard with|none=>[]|some (j,_)=>match ds[j]? with|some (some d)=>[d]|_=>[]
def ziG(ds:List (Option Nat))(o:Oper):List Nat:=zpB o.op.operands.toList++zrI ds o
def zpa:Builtin->Bool
 | .len| .min| .max=>false
 | _=>true
def eff:Op->Bool
 | .box .. | .alloc .. | .store .. | .makeSlice .. | .makeMap .. | .mapUpdate .. | .insert .. =>true
 | .call { callee:=.builtin b,.. }=>zpa b
 | _=>false
def zD:BinOp->Bool
 | .add| .sub=>true
 | _=>false
def zaZ:Op->Bool
 | .move _| .assign _| .pick .. | .build .. | .buildSlice .. | .unOp .. | .field .. | .index .. | .extract .. =>true
 | .binOp op _ _ y _=>zD op&& !zds y
 | _=>false
def zaD:Op->Bool
 | .call { callee:=.value (.func _),args,.. }=>args.toList.isEmpty
 | _=>false
def clear(ds:List (Option Nat))(x y:Oper):Bool:=match x.dst with
 | none=>true
 | some d=> !((ziG ds y).elem d)&& !(y.dst==some d)
def zrH:Op->Bool
 | .alloc .. | .box .. | .makeSlice .. | .makeMap .. =>true
 | _=>false
def zga(ds:List (Option Nat))(x y:Oper)(g:Bool:=false):Bool:=clear ds x y&&clear ds y x&&((!eff x.op&& !eff y.op)||(zaZ x.op||zaD x.op)||(zaZ y.op||zaD y.op)||(g&&(!eff x.op&&zrH y.op)))
theorem zfs{f g:Nat->PV}{x:Operand}(h:∀ t,x= .tmp t->f t=g t):ev f x=ev g x:=by cases x<;>simp only[ev];simp_all
theorem zer{f g:Nat->PV}{xs:List Operand}(h:∀ x∈xs,ev f x=ev g x):xs.map (ev f)=xs.map (ev g):=jE h
theorem zfV{f g:Nat->PV}{op:Op}(h:∀ x∈op.operands.toList,ev f x=ev g x):pop P op f H=pop P op g H:=by
 cases op;case build t ps=>
  have:ps.toList.map (λp=>(p.1,ev f p.2))=ps.toList.map (λp=>(p.1,ev g p.2)):=jE λp hp=>by rw[h p.2 (by simp[Op.operands];exact⟨_,qF.1 hp⟩)]
  simp only[pop,this]
 case buildSlice t n ps=>
  have:ps.toList.map (λp=>(p.1,ev f p.2))=ps.toList.map (λp=>(p.1,ev g p.2)):=jE λp hp=>by rw[h p.2 (by simp[Op.operands];exact⟨_,qF.1 hp⟩)]
  simp only[pop,this]
 case slice t x l hh m=>
  have e1:ev f x=ev g x:=h x (by simp[Op.operands]);have e2:l.map (ev f)=l.map (ev g):=by cases l with|none=>rfl|some y=>simp[h y (by simp[Op.operands])]
  have e3:hh.map (ev f)=hh.map (ev g):=by cases hh with|none=>rfl|some y=>simp[h y (by simp[Op.operands])]
  have e4:m.map (ev f)=m.map (ev g):=by cases m with|none=>rfl|some y=>simp[h y (by simp[Op.operands])]
  simp only[pop,e1,e2,e3,e4]
 case makeFunc fn a b=>have e1:a.toList.map (ev f)=a.toList.map (ev g):=zer λx hx=>h x (by simp[Op.operands];exact .inl (qF.1 hx));have e2:b.toList.map (ev f)=b.toList.map (ev g):=zer λx hx=>h x (by simp[Op.operands];exact .inr (qF.1 hx));cases fn<;>simp only[pop,e1,e2]
 case call c=>obtain⟨callee,args,ts⟩:=c;have e1:args.toList.map (ev f)=args.toList.map (ev g):=zer λx hx=>h x (by simp[Op.operands,Call.operands];exact .inr (qF.1 hx));cases callee<;>simp only[pop,e1]
 case makeMap t r=>cases r<;>simp only[pop]
 all_goals simp only[pop]
 all_goals simp only[Op.operands,List.mem_cons,List.not_mem_nil,or_false,forall_eq_or_imp,forall_eq]at h
 all_goals simp_all
theorem zbP{f g:Nat->PV}{op:Op}(h:∀ x∈op.operands.toList,ev f x=ev g x):zn op f=zn op g:=by
 unfold zn;split
 .rename_i fn args ts;have e1:ev f fn=ev g fn:=h fn (by simp[Op.operands,Call.operands]);have e2:args.toList.map (ev f)=args.toList.map (ev g):=zer λx hx=>h x (by simp[Op.operands,Call.operands];exact .inr (qF.1 hx));rw[e1,e2]
 .rfl
theorem zc2{f:Nat->PV}{op:Op}{v:PV}{H':za}(h:eff op=false)(hp:pop P op f H=some (v,H')):H'=H:=by
 unfold pop at hp;split at hp<;>first
  | (simp only[qA.injEq,qM.injEq]at hp;exact hp.2.symm)
  | (simp only[qD,qM.injEq]at hp;obtain⟨_,_,_,h2⟩:=hp;exact h2.symm)
  | (simp[eff]at h;done)
  | skip
 .grind
 .grind[qD,qM.injEq]
 .grind
 .rename_i b args ts;simp only[eff]at h;unfold zx at hp;grind[qD,qM.injEq,zpa]
 .cases hp
theorem zmt{op:BinOp}{t:TypeId}{x y v:PV}(ha:zD op=true)(h:zfZ P H op t x y=some v)(K:za):zfZ P K op t x y=some v:=by
 unfold zfZ at h |-;split at h<;>try(exact h)
 .split at h
  .cases op<;>first|(cases ha;done)|(cases h;done)
  .cases h
 .split at h
  .cases op<;>first|(cases ha;done)|(cases h;done)
  .cases h
theorem zaE{f:Nat->PV}{op:Op}{v:PV}{H':za}(h:zaZ op=true)(hp:pop P op f H=some (v,H'))(K:za):H'=H/\pop P op f K=some (v,K):=by
 cases op<;>simp only[zaZ,Bool.false_eq_true]at h<;>simp only[pop]at hp |-;case move=>simp at hp |-;exact⟨hp.2.symm,hp.1⟩
 case assign=>simp at hp |-;exact⟨hp.2.symm,hp.1⟩
 case pick=>split at hp<;>simp at hp |-;all_goals simp_all
 case extract=>split at hp;all_goals grind[qD,qM.injEq]
 case binOp op t x y r=>
  rw[qB]at h;have hn:zds y=false:=by simp_all
  simp only[hn]at hp |-;split at hp;all_goals grind[qD,qM.injEq,zmt]
 all_goals grind[qD,qM.injEq]
theorem zay{K:za}{id:Nat}{k:Blk}(h:H[id]? =some k):(H++K)[id]? =some k:=by grind
theorem zb1(K:za){id ver:Nat}(h:zbK H id ver=true):zbK (H++K) id ver=true:=by unfold zbK at h |-;grind
theorem zl5(K:za){sz:Nat}{x:PV}{c:List PV×Nat}(h:zaT H sz x=some c):zaT (H++K) sz x=some c:=by
 cases x<;>simp only[zaT]at h |-<;>try(exact h)
 grind
theorem zoJ(K:za){t:TypeId}{x v:PV}(h:zdF P H t x=some v):zdF P (H++K) t x=some v:=by
 cases x<;>simp only[zdF]at h |-<;>try(exact h)
 grind
theorem zqH(K:za){x v:PV}(h:ziq H x=some v):ziq (H++K) x=some v:=by
 cases x<;>simp only[ziq]at h |-<;>try(exact h)
 grind[zbK,zb1]
theorem zqX(K:za){op:BinOp}{t:TypeId}{x y v:PV}(h:zfZ P H op t x y=some v):zfZ P (H++K) op t x y=some v:=by
 unfold zfZ at h |-;split at h<;>try(exact h)
 .rename_i id ver off;cases hl:zbK H id ver with
  | false=>rw[hl,Bool.and_false]at h;cases h
  | true=>rw[hl]at h;simp only[zb1 K hl];exact h
 .rename_i id ver off;cases hl:zbK H id ver with
  | false=>rw[hl,Bool.and_false]at h;cases h
  | true=>rw[hl]at h;simp only[zb1 K hl];exact h
theorem zk1(K:za){op:BinOp}{t:TypeId}{x v:PV}(h:zbO P H op t x=some v):zbO P (H++K) op t x=some v:=by unfold zbO at h |-;grind[zb1]
theorem zoP(K:za){s d:TypeId}{x v:PV}(h:zeC P H s d x=some v):zeC P (H++K) s d x=some v:=by unfold zeC at h |-;grind[Option.bind_eq_some_iff,zl5]
theorem zme(K:za){t:TypeId}{x v:PV}{lo hi mx:Option PV}(h:zcQ P H t x lo hi mx=some v):zcQ P (H++K) t x lo hi mx=some v:=by
 unfold zcQ at h |-;split at h<;>try(exact h)
 all_goals grind[zbK,zb1]
theorem zhL(K:za){s:TypeId}{x v:PV}{f:Nat}(h:zav P H s x f=some v):zav P (H++K) s x f=some v:=by
 cases x<;>simp only[zav]at h |-<;>try(exact h)
 grind[zbK,zb1]
theorem zhJ(K:za){t:TypeId}{x i v:PV}(h:zau P H t x i=some v):zau P (H++K) t x i=some v:=by
 unfold zau at h |-;split at h<;>try(exact h)
 all_goals grind[zbK,zb1]
theorem zoI(K:za){t:TypeId}{m k v:PV}{ok:Bool}(h:zdE P H t m k ok=some v):zdE P (H++K) t m k ok=some v:=by
 unfold zdE at h |-;have key:∀ r,zaL P H t m=some r->zaL P (H++K) t m=some r:=λr hr=>by unfold zaL at hr |-;grind
 grind
theorem zqJ(K:za){t:TypeId}{x v:PV}(h:zgx P H t x=some v):zgx P (H++K) t x=some v:=by unfold zgx at h |-;grind[zbK,zb1]
theorem zbR(K:za){a b:Option PV}{v:PV}{H':za}(h:(a.map λv=>(v,H))=some (v,H'))(hab:∀ v,a=some v->b=some v):(b.map λv=>(v,H++K))=some (v,H++K):=by grind[qD,qM.injEq]
theorem ztn(K:za){f:Nat->PV}{op:Op}{v:PV}{H':za}(h:eff op=false)(hp:pop P op f H=some (v,H')):pop P op f (H++K)=some (v,H++K):=by
 cases op<;>try(simp[eff]at h;done)
 case move=>simp only[pop,qA.injEq,qM.injEq]at hp |-;exact⟨hp.1,trivial⟩
 case assign=>simp only[pop,qA.injEq,qM.injEq]at hp |-;exact⟨hp.1,trivial⟩
 case pick=>exact(zaE (by rfl) hp (H++K)).2
 case build=>exact(zaE (by rfl) hp (H++K)).2
 case buildSlice=>exact(zaE (by rfl) hp (H++K)).2
 case unOp=>exact(zaE (by rfl) hp (H++K)).2
 case field=>exact(zaE (by rfl) hp (H++K)).2
 case index=>exact(zaE (by rfl) hp (H++K)).2
 case extract=>exact(zaE (by rfl) hp (H++K)).2
 case load=>simp only[pop]at hp |-;exact zbR K hp λv h=>zoJ K h
 case nilCheck=>simp only[pop]at hp |-;exact zbR K hp λv h=>zqH K h
 case binOp=>
  simp only[pop]at hp |-;split at hp
  .grind[zbR,zk1]
  split at hp;all_goals grind[zbR,zqX]
 case convert=>simp only[pop]at hp |-;exact zbR K hp λv h=>zoP K h
 case makeFunc fn a b=>cases fn<;>simp only[pop,qA.injEq,qM.injEq]at hp |-<;>first|exact⟨hp.1,trivial⟩|cases hp
 case slice=>simp only[pop]at hp |-;exact zbR K hp λv h=>zme K h
 case fieldAddr=>simp only[pop]at hp |-;exact zbR K hp λv h=>zhL K h
 case indexAddr=>simp only[pop]at hp |-;exact zbR K hp λv h=>zhJ K h
 case lookup=>simp only[pop]at hp |-;exact zbR K hp λv h=>zoI K h
 case call c=>
  obtain⟨callee,args,ts⟩:=c;cases callee with
  | builtin b=>
   simp only[pop]at hp |-;simp only[eff]at h;unfold zx at hp |-;split at hp;all_goals grind[zbR,zqJ,zpa]
  | _=>simp only[pop]at hp;cases hp
 all_goals simp_all[pop]
theorem zqF{f:Nat->PV}{op:Op}{v:PV}{H':za}(h:zrH op=true)(hp:pop P op f H=some (v,H')):∃ K,H'=H++K:=by
 cases op<;>try(simp[zrH]at h;done)
 case alloc=>simp only[pop,qD,qM.injEq]at hp;obtain⟨z,_,_,h2⟩:=hp;exact⟨_,h2.symm⟩
 case box=>grind[pop,qA.injEq,qM.injEq]
 case makeSlice=>simp only[pop,zk5]at hp;grind
 case makeMap t r=>
  cases r with
  | none=>simp only[pop,qA.injEq,qM.injEq]at hp;exact⟨_,hp.2.symm⟩
  | some _=>simp only[pop]at hp;cases hp
theorem zlo{f:Nat->PV}{op:Op}(h:zrH op=true):zn op f=none:=by
 unfold zn;split
 .simp[zrH]at h
 .rfl
def Ex(P:Program)(all:List Oper)(g:Bool)(o:Oper)(f:Nat->PV)(H:za)(v:PV)(H':za):Prop:=
 (zby all f o=some false/\v= .tup []/\H'=H)\/
 (zby all f o=some true/\match zn o.op f with|some (fn,args)=>H'=H/\CallOk P fn args H v H/\(zaD o.op=true->∀ K,CallOk P fn args K v K)/\(g=true->∀ K,CallOk P fn args (H++K) v (H++K))|none=>pop P o.op f H=some (v,H'))
def Run(P:Program)(all:List Oper)(g:Bool):List Oper->(Nat->PV)->za->((Nat->PV)->za->Prop)->Prop
 | [],f,H,K=>K f H
 | o::r,f,H,K=>∃ v H',Ex P all g o f H v H'/\Run P all g r (upd f o.dst v) H' K
theorem zcj{f:Nat->PV}{d:Option Nat}{v:PV}{t:Nat}(h:d≠some t):upd f d v t=f t:=by
 cases d with
 | none=>rfl
 | some d=>simp only[upd];rw[if_neg (λe=>h (by rw[e]))]
theorem zhg{f:Nat->PV}{d e:Option Nat}{u v:PV}(h:∀ t,d=some t->e≠some t):upd (upd f d u) e v=upd (upd f e v) d u:=by
 cases d with
 | none=>rfl
 | some d=>
  cases e with
  | none=>rfl
  | some e=>grind[upd]
theorem zff{xs:List Operand}{t:Nat}(h: .tmp t∈xs):t∈zpB xs:=jF.2 ⟨_,h,rfl⟩
theorem zdd{all:List Oper}{f g:Nat->PV}{o:Oper}(h:∀ t∈zrI (all.map (·.dst)) o,f t=g t):zby all f o=zby all g o:=by
 unfold zby;unfold zrI at h;cases hg:o.guard with
 | none=>rfl
 | some jb=>grind
theorem Ex.congr{all:List Oper}{b:Bool}{o:Oper}{f g:Nat->PV}{v:PV}{H':za}(h:∀ t∈ziG (all.map (·.dst)) o,f t=g t)(he:Ex P all b o f H v H'):Ex P all b o g H v H':=by have e1:zby all f o=zby all g o:=zdd λt ht=>h t (jB.2 (.inr ht));have e2:∀ x∈o.op.operands.toList,ev f x=ev g x:=λx hx=>zfs λt ht=>h t (jB.2 (.inl (zff (ht▸hx))));grind[Ex,zbP,zfV]
theorem Ex.noeff{all:List Oper}{g:Bool}{o:Oper}{f:Nat->PV}{v:PV}{H':za}(h:eff o.op=false)(he:Ex P all g o f H v H'):H'=H:=by rcases he with⟨_,_,he⟩|⟨_,he⟩;all_goals grind[zc2]
theorem Ex.pure{all:List Oper}{g:Bool}{o:Oper}{f:Nat->PV}{v:PV}{H':za}(h:zaZ o.op=true\/zaD o.op=true)(he:Ex P all g o f H v H')(K:za):H'=H/\Ex P all g o f K v K:=by
 rcases h with h|h;rotate_left
 .rcases he with⟨h1,h2,h3⟩|⟨h1,h2⟩
  .exact⟨h3,.inl ⟨h1,h2,rfl⟩⟩
  .have hc:∃ fn args,zn o.op f=some (fn,args):=by
    unfold zaD at h;split at h
    .rename_i g args ts ho;rw[ho];exact⟨_,_,rfl⟩
    .cases h
   obtain⟨fn,args,hc⟩:=hc;simp only[hc]at h2;exact⟨h2.1,.inr ⟨h1,by rw[hc];exact⟨rfl,h2.2.2.1 h K,h2.2.2.1,λ_ K'=>h2.2.2.1 h (K++K')⟩⟩⟩
 have hc:zn o.op f=none:=by unfold zn;grind[zaZ]
 rcases he with⟨h1,h2,h3⟩|⟨h1,h2⟩
 .exact⟨h3,.inl ⟨h1,h2,rfl⟩⟩
 .rw[hc]at h2;obtain⟨h3,h4⟩:=zaE h h2 K;exact⟨h3,.inr ⟨h1,by rw[hc];exact h4⟩⟩
theorem zbo{ds:List (Option Nat)}{x y:Oper}(h:clear ds x y=true):∀ t∈ziG ds y,x.dst≠some t:=λt ht he=>by simp_all[clear,qB,qK,qZ]
theorem zgb{ds:List (Option Nat)}{x y:Oper}(h:clear ds x y=true):∀ t,x.dst=some t->y.dst≠some t:=λt he hy=>by simp_all[clear,qB,qK]
theorem Ex.ext{all:List Oper}{o:Oper}{f:Nat->PV}{v:PV}{H':za}(h:eff o.op=false)(he:Ex P all true o f H v H')(K:za):Ex P all true o f (H++K) v (H++K):=by
 rcases he with⟨h1,h2,h3⟩|⟨h1,h2⟩
 .exact .inl ⟨h1,h2,rfl⟩
 .refine .inr ⟨h1,?_⟩;grind[jH,ztn]
theorem Ex.swap{all:List Oper}{g:Bool}{x o:Oper}{f:Nat->PV}{vx v:PV}{Hx H1:za}(hc:zga (all.map (·.dst)) x o g=true)(hx:Ex P all g x f H vx Hx)(ho:Ex P all g o (upd f x.dst vx) Hx v H1):
  ∃ H3,Ex P all g o f H v H3/\Ex P all g x (upd f o.dst v) H3 vx H1/\upd (upd f x.dst vx) o.dst v=upd (upd f o.dst v) x.dst vx:=by
 unfold zga at hc;simp only[qB,qP,qK]at hc;obtain⟨⟨c1,c2⟩,c3⟩:=hc;have ho':Ex P all g o f Hx v H1:=ho.congr λt ht=>zcj (zbo c1 t ht);have hx':∀ K K',Ex P all g x f K vx K'->Ex P all g x (upd f o.dst v) K vx K':=λK K' h=>h.congr λt ht=>(zcj (zbo c2 t ht)).symm;have hcm:=zhg (f:=f) (u:=vx) (v:=v) (zgb c1);rcases c3 with((⟨e1,e2⟩|e1)|e1)|⟨rfl,e1,e2⟩
 .obtain rfl:=hx.noeff e1;obtain rfl:=ho'.noeff e2;exact⟨_,ho',hx' _ _ hx,hcm⟩
 .obtain⟨rfl,hp⟩:=hx.pure e1 H1;exact⟨H1,ho',hx' _ _ hp,hcm⟩
 .obtain⟨rfl,hp⟩:=ho'.pure e1 H;exact⟨H,hp,hx' _ _ hx,hcm⟩
 .obtain rfl:=hx.noeff e1;have hk:∃ K,H1=Hx++K:=by
   rcases ho' with⟨_,_,h3⟩|⟨_,h3⟩
   .simp_all
   grind[zlo,zqF]
  obtain⟨K,rfl⟩:=hk;exact⟨_,ho',hx' _ _ (hx.ext e1 K),hcm⟩
theorem Run.front{all:List Oper}{g:Bool}{K:(Nat->PV)->za->Prop}{o:Oper}{l2:List Oper}:∀(l1:List Oper) (f:Nat->PV) (H:za),Run P all g (l1++o::l2) f H K->(∀ x∈l1,zga (all.map (·.dst)) x o g=true)->
  ∃ v H1,Ex P all g o f H v H1/\Run P all g (l1++l2) (upd f o.dst v) H1 K
 | [],f,H,h,_=>h
 | x::l1,f,H,h,hc=>by obtain⟨vx,Hx,hx,hr⟩:=h;obtain⟨v,H1,ho,hr2⟩:=Run.front l1 _ _ hr (λy hy=>hc y (jP _ hy));obtain⟨H3,g1,g2,g3⟩:=hx.swap (hc x (qX ..)) ho;exact⟨v,H3,g1,vx,H1,g2,g3▸hr2⟩
def bnd(o:Oper):List Nat:=(o.after.toList.filter (Region.binds .any)).map (·.on)
def zcv(ms:List Nat)(o:Oper):Nat:=(bnd o).foldl (λm j=>m|||ms.getD j 0|||2^j) 0
def zgq(ops:List Oper):List Nat:=ops.foldl (λms o=>ms++[zcv ms o]) []
def zeR(ms:List Nat)(ds:List (Option Nat))(N:Nat)(ops:List Oper)(i:Nat)(g:Bool:=false):Bool:=match ops[i]? with
 | none=>false
 | some o=>zU N o&&(bnd o).all (λj=>Nat.blt j i)&&(qH (ms.getD i 0) (zcv ms o))&&(qS i).all λj=>(ms.getD i 0).testBit j||(match ops[j]? with|some x=>zga ds x o g|none=>false)
def zf6(N:Nat)(ops:List Oper)(g:Bool:=false):Bool:=(qS ops.length).all λi=>zeR (zgq ops) (ops.map (·.dst)) N ops i g
theorem zf4(ms:List Nat)(j:Nat):∀(l:List Nat) (m:Nat),(l.foldl (λm j=>m|||ms.getD j 0|||2^j) m).testBit j=true->m.testBit j=true\/∃ k∈l,(ms.getD k 0).testBit j=true\/k=j
 | [],m,h=>.inl h
 | k::l,m,h=>by rcases zf4 ms j l _ h with h|⟨k',hk,h⟩;all_goals grind
theorem zf7{g:Bool}{ms:List Nat}{ds:List (Option Nat)}{ops:List Oper}{i:Nat}{o:Oper}(ho:ops[i]? =some o)(h:zeR ms ds N ops i g=true):
  zU N o=true/\(∀ j∈bnd o,j<i)/\ms.getD i 0=zcv ms o/\∀ j,j<i->(ms.getD i 0).testBit j=true\/∃ x,ops[j]? =some x/\zga ds x o g=true:=by
 unfold zeR at h;simp only[ho,qB,qT,qN,qP]at h;obtain⟨⟨⟨h1,h2⟩,h3⟩,h4⟩:=h;refine⟨h1,λj hj=>by simpa[Nat.blt_eq]using h2 j hj,qJ h3,λj hj=> ?_⟩;rcases h4 j hj with h|h
 .exact .inl h
 .split at h
  .rename_i x hx;exact .inr ⟨x,hx,h⟩
  .cases h
theorem ztE{g:Bool}{ms:List Nat}{ds:List (Option Nat)}{ops:List Oper}(hall:∀ i,i<ops.length->zeR ms ds N ops i g=true){S:Nat->Prop}(down:∀ i o,ops[i]? =some o->S i->∀ j∈bnd o,S j):
  ∀(i:Nat) (o:Oper),ops[i]? =some o->(∀ j∈bnd o,S j)->∀ j,(ms.getD i 0).testBit j=true->S j:=by
 intro i;induction i using Nat.strongRecOn with
 | _ i ih=>intro o ho hp j hj;have hi:=(qE.1 ho).1;obtain⟨_,h2,h3,_⟩:=zf7 ho (hall i hi);rw[h3,zcv]at hj;rcases zf4 ms j _ _ hj with h|⟨k,hk,h⟩;all_goals grind
def left(n:Nat)(listed:Array Bool):List Nat:=(qS n).filter λi=> !listed.getD i true
theorem zb2(n:Nat)(listed:Array Bool):(left n listed).Pairwise (· < ·):=List.Pairwise.filter _ List.pairwise_lt_range
theorem zbg{n i:Nat}{listed:Array Bool}:i∈left n listed↔i<n/\listed.getD i true=false:=by simp[left]
theorem zh1(listed:Array Bool)(i k:Nat)(h:i<listed.size):(listed.setIfInBounds i true).getD k true=if k=i then true else listed.getD k true:=by rw[jK,Array.getElem?_setIfInBounds,jK];grind
theorem zfh{n i:Nat}{listed:Array Bool}{l1 l2:List Nat}(h:i<listed.size)(hl:left n listed=l1++i::l2):left n (listed.setIfInBounds i true)=l1++l2:=by
 have e:left n (listed.setIfInBounds i true)=(left n listed).filter (λk=>k !=i):=by unfold left;rw[List.filter_filter];grind[List.filter_congr,zh1]
 have hs:=zb2 n listed;rw[hl,jC,qQ]at hs;grind[List.filter_cons_of_neg,jR.2]
theorem ziZ{g:Bool}{ops:Array Oper}{Q:Exit->Act->World->Prop}{K:(Nat->PV)->za->Prop}(hall:∀ i,i<ops.toList.length->zeR (zgq ops.toList) (ops.toList.map (·.dst)) N ops.toList i g=true):
  ∀(fuel:Nat) (listed:Array Bool) (f:Nat->PV) (H:za) (C:Ctx) (a:Act) (w:World),listed.size=ops.size->(∀ i o,ops[i]? =some o->listed.getD i true=true->∀ j∈bnd o,listed.getD j true=true)->
   fuel=(left ops.size listed).length->Run P ops.toList g ((left ops.size listed).filterMap λi=>ops[i]?) f H K->a.defers=[]->WRel C H w->FRel C N f a->
   (∀ C' f' H' a' w',CLe C C'->a'.defers=[]->WRel C' H' w'->Below C.B w w'->FRel C' N f' a'->K f' H'->Q .normal a' w')->wpAny P .any ops Q fuel listed a w:=by
 have rdy:∀(listed:Array Bool) (i:Nat),i∈Region.ready .any ops listed↔i∈left ops.size listed/\∃ o,ops[i]? =some o/\∀ e∈o.after.toList,Region.binds .any e=true->listed.getD e.on false=true:=by
  intro listed i;unfold Region.ready;rw[jA,zbg,qN];constructor
  .rintro⟨h1,h2⟩;simp only[qB,qK]at h2;grind[qG,jG,qF.1]
  grind
 intro fuel;induction fuel with
 | zero=>
  intro listed f H C a w hsz hdown hfu hr hd hw hf hQ;have hnil:left ops.size listed=[]:=qU hfu.symm;refine⟨jI.2 λi hi=> ?_,?_⟩
  .simp_all
  .rw[hnil]at hr;exact hQ C f H a w (.refl _) hd hw (.refl _ _) hf hr
 | succ fuel ih=>
  intro listed f H C a w hsz hdown hfu hr hd hw hf hQ;refine⟨λhnone=> ?_,λi hi=> ?_⟩
  .exfalso;obtain⟨i,r,hl⟩:=jD hfu.symm;have hmem:i∈left ops.size listed:=by grind
   have hil:=(zbg.1 hmem).1;have hs:=zb2 ops.size listed;rw[hl,qQ]at hs;have:i∈Region.ready .any ops listed:=by
    refine(rdy listed i).2 ⟨hmem,ops[i],qG hil,λe he hb=> ?_⟩;have hlt:=(zf7 (by simpa using qG hil) (hall i (by simpa using hil))).2.1 e.on (qV.2 ⟨e,jA.2 ⟨he,hb⟩,rfl⟩);have hnm:e.on∉left ops.size listed:=by grind
    have h1:listed.getD e.on true=true:=by
     cases hg:listed.getD e.on true with
     | true=>rfl
     | false=>exact absurd (zbg.2 ⟨om,hg⟩) hnm
    grind
   grind
  .obtain⟨hmem,o,ho,hpre⟩:=(rdy listed i).1 hi;have hil:=(zbg.1 hmem).1;have hoL:ops.toList[i]? =some o:=by grind
   obtain⟨d1,d2,d3,d4⟩:=zf7 hoL (hall i (by simpa using hil));obtain⟨l1,l2,hl⟩:=List.append_of_mem hmem;have hs:=zb2 ops.size listed;rw[hl,jC,qQ]at hs;have hsz':i<listed.size:=om;have getFT:∀ j,listed.getD j false=true->listed.getD j true=true:=λj hj=>by grind
   have hpre':∀ j∈bnd o,listed.getD j true=true:=λj hj=>by obtain⟨e,he,rfl⟩:=qV.1 hj;grind
   rw[hl,qR,qY ho]at hr;have hcomp:∀ x∈l1.filterMap (λi=>ops[i]?),zga (ops.toList.map (·.dst)) x o g=true:=by
    intro x hx;obtain⟨j,hj,hjx⟩:=jF.1 hx;have hji:j<i:=hs.2.2 j hj i (qX ..);rcases d4 j hji with h|⟨x',hx',hc⟩
    .have hS:=ztE (N:=N) hall (S:=λj=>listed.getD j true=true) (λi o ho hS=>hdown i o (by simpa using ho) hS) i o hoL hpre' j h;have hjm:j∈left ops.size listed:=by grind
     rw[(zbg.1 hjm).2]at hS;cases hS
    grind
   obtain⟨v,H1,hex,hrun⟩:=Run.front _ _ _ hr hcomp;rw[<-qR,<-zfh hsz' hl]at hrun;have hdown':∀ i' o',ops[i']? =some o'->(listed.setIfInBounds i true).getD i' true=true->∀ j∈bnd o',(listed.setIfInBounds i true).getD j true=true:=by
    intro i' o' ho' h j hj;rw[zh1 _ _ _ hsz']at h |-;by_cases hi':i'=i
    .grind
    .rw[if_neg hi']at h;split;all_goals grind
   have hfu':fuel=(left ops.size (listed.setIfInBounds i true)).length:=by rw[zfh hsz' hl];grind
   have next:∀ C' u w',CLe C C'->WRel C' H1 w'->Below C.B w w'->FRel C' N (upd f o.dst v) (a.put o.dst u)->wpAny P .any ops Q fuel (listed.setIfInBounds i true) (a.put o.dst u) w':=by intro C' u w' q1 q2 q3 q4;refine ih _ _ _ C' _ w' (by simpa using hsz) hdown' hfu' hrun (by cases hod:o.dst<;>simp[Act.put,hd]) q2 q4 ?_;intro C'' f'' H'' a'' w'' p1 p2 p3 p4 p5 p6;exact hQ C'' f'' H'' a'' w'' (q1.trans p1) p2 p3 (q3.trans (by rw[<-q1.B];exact p4)) p5 p6
   unfold wpOp;rw[ho];simp only;rcases hex with⟨h1,h2,h3⟩|⟨h1,h2⟩
   .have hwant:=zS hf h1;rw[jN]at hwant;rw[if_neg (by rw[hwant];simp)];subst h2 h3;exact next C _ w (.refl _) hw (.refl _ _) (hf.put o.dst (zaQ d1) VRel.undefV)
   .have hwant:=zS hf h1;rw[jN]at hwant;rw[if_pos hwant];left;have hexec:Exec P o f H v H1:=by unfold Exec;split at h2;all_goals grind
    exact zdu d1 hw hf hexec _ _ next
def VCd(P:Program)(ds:List (Option Nat))(o:Oper)(F:Fr)(H:za)(K:Fr->za->Prop):Prop:=
 match zam ds F o with
 | some true=>match zn o.op (slot F)with
  | some (g,args)=>∃ v,(CallOk P g args H v H/\(zaD o.op=true->∀ K,CallOk P g args K v K))/\K (put F o.dst v) H
  | none=>False
 | some false=>K (put F o.dst (.tup [])) H
 | none=>False
def VOd(P:Program)(ds:List (Option Nat)):List Oper->Option (Fr×za)->(Fr->za->Prop)->Prop
 | _,none,_=>False
 | [],some (F,H),K=>K F H
 | o::r,some (F,H),K=>match zJ o.op with
  | false=>VOd P ds r (stp P ds o F H) K
  | true=>VCd P ds o F H λF' H'=>VOd P ds r (some (F',H')) K
def VRd(P:Program)(ds:List (Option Nat))(r:List Oper)(K:Fr->za->Prop)(F:Fr)(H:za):Prop:=VOd P ds r (some (F,H)) K
theorem zum(ds:List (Option Nat))(K:Fr->za->Prop)(F:Fr)(H:za):VOd P ds [] (some (F,H)) K=K F H:=rfl
theorem zii(ds:List (Option Nat))(l:List Oper)(K:Fr->za->Prop):VOd P ds l none K=False:=by cases l<;>rfl
theorem zcA(ds:List (Option Nat))(o:Oper)(r:List Oper)(K:Fr->za->Prop)(F:Fr)(H:za):
  VOd P ds (o::r) (some (F,H)) K=match zJ o.op with|false=>VOd P ds r (stp P ds o F H) K|true=>VCd P ds o F H (VRd P ds r K):=by
 cases h:zJ o.op with
 | false=>simp only[VOd,h]
 | true=>simp only[VOd,h];rfl
theorem VCd.call{ds:List (Option Nat)}{o:Oper}{K:Fr->za->Prop}{g:FuncId}{args:List PV}{v:PV}(h:CallOk P g args H v H)(hp:zaD o.op=true->∀ K,CallOk P g args K v K)(hw:zam ds F o=some true)(hc:zn o.op (slot F)=some (g,args))
  (hk:K (put F o.dst v) H):VCd P ds o F H K:=by
 unfold VCd;rw[hw];simp only[hc];exact⟨v,⟨h,hp⟩,hk⟩
theorem zof{all:List Oper}{K:Fr->za->Prop}:∀(l:List Oper) (F:Fr) (H:za),VOd P (all.map (·.dst)) l (some (F,H)) K->Run P all false l (slot F) H (λf H'=>∃ F',f=slot F'/\K F' H')
 | [],F,H,h=>⟨F,rfl,h⟩
 | o::r,F,H,h=>by
  have hcl:zJ o.op=false->zn o.op (slot F)=none:=λhc=>by unfold zn;grind[zJ]
  rw[zcA]at h;have go:∀ v H',Ex P all false o (slot F) H v H'->VOd P (all.map (·.dst)) r (some (put F o.dst v,H')) K->Run P all false (o::r) (slot F) H (λf H'=>∃ F',f=slot F'/\K F' H'):=λv H' he hr=>by refine⟨v,H',he,?_⟩;rw[<-zae];exact zof r _ _ hr
  cases hc:zJ o.op with
  | false=>
   simp only[hc]at h;unfold stp at h;split at h
   .rename_i hb;split at h
    .rename_i v H' hp;exact go v H' (.inr ⟨zw all F o hb,by rw[hcl hc];exact hp⟩) h
    simp_all[zii]
   .rename_i hb;exact go _ _ (.inl ⟨zw all F o hb,rfl,rfl⟩) h
   .rw[zii]at h;exact h.elim
  | true=>
   simp only[hc]at h;unfold VCd at h;split at h
   .rename_i hb;split at h
    .rename_i g args hp;obtain⟨v,h1,h2⟩:=h;exact go v H (.inr ⟨zw all F o hb,by rw[hp];exact⟨rfl,h1.1,h1.2,λe=>by cases e⟩⟩) h2
    simp_all
   .rename_i hb;exact go _ _ (.inl ⟨zw all F o hb,rfl,rfl⟩) h
   simp_all
def VCg(P:Program)(ds:List (Option Nat))(o:Oper)(F:Fr)(H:za)(K:Fr->za->Prop):Prop:=
 match zam ds F o with
 | some true=>match zn o.op (slot F)with
  | some (g,args)=>∃ v,((∀ L,CallOk P g args (H++L) v (H++L))/\(zaD o.op=true->∀ K,CallOk P g args K v K))/\K (put F o.dst v) H
  | none=>False
 | some false=>K (put F o.dst (.tup [])) H
 | none=>False
def VOg(P:Program)(ds:List (Option Nat)):List Oper->Option (Fr×za)->(Fr->za->Prop)->Prop
 | _,none,_=>False
 | [],some (F,H),K=>K F H
 | o::r,some (F,H),K=>match zJ o.op with
  | false=>VOg P ds r (stp P ds o F H) K
  | true=>VCg P ds o F H λF' H'=>VOg P ds r (some (F',H')) K
def VRg(P:Program)(ds:List (Option Nat))(r:List Oper)(K:Fr->za->Prop)(F:Fr)(H:za):Prop:=VOg P ds r (some (F,H)) K
theorem zul(ds:List (Option Nat))(K:Fr->za->Prop)(F:Fr)(H:za):VOg P ds [] (some (F,H)) K=K F H:=rfl
theorem zlN(ds:List (Option Nat))(l:List Oper)(K:Fr->za->Prop):VOg P ds l none K=False:=by cases l<;>rfl
theorem zlM(ds:List (Option Nat))(o:Oper)(r:List Oper)(K:Fr->za->Prop)(F:Fr)(H:za):
  VOg P ds (o::r) (some (F,H)) K=match zJ o.op with|false=>VOg P ds r (stp P ds o F H) K|true=>VCg P ds o F H (VRg P ds r K):=by
 cases h:zJ o.op with
 | false=>simp only[VOg,h]
 | true=>simp only[VOg,h];rfl
theorem zoe{all:List Oper}{K:Fr->za->Prop}:∀(l:List Oper) (F:Fr) (H:za),VOg P (all.map (·.dst)) l (some (F,H)) K->Run P all true l (slot F) H (λf H'=>∃ F',f=slot F'/\K F' H')
 | [],F,H,h=>⟨F,rfl,h⟩
 | o::r,F,H,h=>by
  have hcl:zJ o.op=false->zn o.op (slot F)=none:=λhc=>by unfold zn;grind[zJ]
  rw[zlM]at h;have go:∀ v H',Ex P all true o (slot F) H v H'->VOg P (all.map (·.dst)) r (some (put F o.dst v,H')) K->Run P all true (o::r) (slot F) H (λf H'=>∃ F',f=slot F'/\K F' H'):=λv H' he hr=>by refine⟨v,H',he,?_⟩;rw[<-zae];exact zoe r _ _ hr
  cases hc:zJ o.op with
  | false=>
   simp only[hc]at h;unfold stp at h;split at h
   .rename_i hb;split at h
    .rename_i v H' hp;exact go v H' (.inr ⟨zw all F o hb,by rw[hcl hc];exact hp⟩) h
    simp_all[zlN]
   .rename_i hb;exact go _ _ (.inl ⟨zw all F o hb,rfl,rfl⟩) h
   .rw[zlN]at h;exact h.elim
  | true=>
   simp only[hc]at h;unfold VCg at h;split at h
   .rename_i hb;split at h
    .rename_i fn args hp;obtain⟨v,h1,h2⟩:=h;exact go v H (.inr ⟨zw all F o hb,by rw[hp];exact⟨rfl,by have:=h1.1 [];rwa[List.append_nil]at this,h1.2,λ_=>h1.1⟩⟩) h2
    simp_all
   .rename_i hb;exact go _ _ (.inl ⟨zw all F o hb,rfl,rfl⟩) h
   simp_all
theorem zb3(n:Nat):left n (jJ n false)=qS n:=by simp_all[left,jR.2,qN.1,jS]
theorem zg8(ops:Array Oper):((qS ops.size).filterMap λi=>ops[i]?)=ops.toList:=by
 have:∀(l:List Oper),((qS l.length).filterMap λi=>l[i]?)=l:=by
  intro l;induction l with
  | nil=>rfl
  | cons x l ih=>simp_all[List.length_cons,List.range_succ_eq_map,qY,List.filterMap_map,Function.comp_def]
 have h:=this ops.toList;simp_all
section rules
variable {E:Env} {Q:Exit->Fr->za->Prop}
theorem PW.drawn{id:Nat}{ops:Array Oper}(hm:P.follows .mixedOrders=true)(hd:zf6 E.N ops.toList=true)(h:VOd P (ops.toList.map (·.dst)) ops.toList (some (F,H)) (λF' H'=>Q .normal F' H')):PW P E (.region id ops true) F H Q:=λhs C a w hdf hw hf=>by
 refine wp_region_any hm ?_;have hr:=zof (P:=P) _ _ _ h;have hall:∀ i,i<ops.toList.length->zeR (zgq ops.toList) (ops.toList.map (·.dst)) E.N ops.toList i=true:=by grind[zf6,qT.1,qN.2]
 refine ziZ (P:=P) hall ops.size (jJ ops.size false) (slot F) H C a w.drew sp ?_ (by rw[zb3];simp) (by rw[zb3,zg8];exact hr) hdf hw.drew hf ?_
 .intro i o ho hl j hj;simp_all[qW.1,jS]
 .rintro C' f' H' a' w' p1 p2 p3 p4 p5 ⟨F',rfl,p6⟩;exact⟨C',F',H',p1.toN _,p2,p3,((Below.refl C.B w).drew).trans p4,p5,p6⟩
theorem PW.drawg{id:Nat}{ops:Array Oper}(hm:P.follows .mixedOrders=true)(hd:zf6 E.N ops.toList true=true)(h:∀ K:Fr->za->Prop,(∀ F' H',Q .normal F' H'->K F' H')->VOg P (ops.toList.map (·.dst)) ops.toList (some (F,H)) K):
  PW P E (.region id ops true) F H Q:=λhs C a w hdf hw hf=>by
 refine wp_region_any hm ?_;have hr:=zoe (P:=P) _ _ _ (h (λF' H'=>Q .normal F' H') λ_ _ h=>h);have hall:∀ i,i<ops.toList.length->zeR (zgq ops.toList) (ops.toList.map (·.dst)) E.N ops.toList i true=true:=by grind[zf6,qT.1,qN.2]
 refine ziZ (P:=P) hall ops.size (jJ ops.size false) (slot F) H C a w.drew sp ?_ (by rw[zb3];simp) (by rw[zb3,zg8];exact hr) hdf hw.drew hf ?_
 .intro i o ho hl j hj;have hi:i<ops.size:=(qW.1 ho).1;simp[jS,hi]at hl
 .rintro C' f' H' a' w' p1 p2 p3 p4 p5 ⟨F',rfl,p6⟩;exact⟨C',F',H',p1.toN _,p2,p3,((Below.refl C.B w).drew).trans p4,p5,p6⟩
theorem PW.draw{id:Nat}{ops:Array Oper}(hm:P.follows .mixedOrders=true)(hd:zf6 E.N ops.toList=true)(h:∀ K:Fr->za->Prop,(∀ F' H',Q .normal F' H'->K F' H')->VOd P (ops.toList.map (·.dst)) ops.toList (some (F,H)) K):
  PW P E (.region id ops true) F H Q:=PW.drawn hm hd (h _ λ_ _ h=>h)
end rules
end Go.Proofs.YtdajpjenhcobkaaGreatDoor.Pm
namespace Go.Proofs.YtdajpjenhcobkaaGreatDoor.Pm
open Go.RowKit
variable {P:Program} {C:Ctx} {H:za} {w:World} {F:Fr} {a:Act} {N:Nat}
theorem VRel.re{C D:Ctx}(h1:D.M=C.M)(h2:D.mu=C.mu)(h3:D.vs=C.vs)(h4:D.cp=C.cp){x:PV}{u:Value}(h:VRel C x u):VRel D x u:=by
 induction h with
 | nl k=>exact .nl k
 | yl hl _ ih=>exact .yl hl ih
 | int k n=>exact .int k n
 | bool b=>exact .bool b
 | str s=>exact .str s
 | nilp=>exact .nilp
 | ptr hm hv=>exact .ptr (by rw[h2];exact hm) (by rw[h3];exact hv)
 | ptrS v h1 hv hlt=>exact .ptrS v h1 (by rw[h3];exact hv) hlt
 | ip hl hM hc _ ih=>exact .ip hl (by rw[h1];exact hM) hc ih
 | slice hl hM hc _ hcap hmax hf ih=>exact .slice hl (by rw[h1];exact hM) hc ih hcap hmax hf
 | sliceN ad full=>exact .sliceN ad full
 | msl hm hv hcap hmax hg=>exact .msl (by rw[h2];exact hm) (by rw[h3];exact hv) hcap hmax (by rw[h4];exact hg)
 | mslE hm hv hmax=>exact .mslE (by rw[h2];exact hm) (by rw[h3];exact hv) hmax
 | mslG ad hm hv=>exact .mslG ad (by rw[h2,h4];exact hm) (by rw[h3];exact hv)
 | mp hm hv hb=>exact .mp (by rw[h2];exact hm) (by rw[h3];exact hv) (by rw[h4];exact hb)
 | mpS v h1 hv hlt=>exact .mpS v h1 (by rw[h3];exact hv) hlt
 | mslS v h1 hv hlt=>exact .mslS v h1 (by rw[h3];exact hv) hlt
 | agg hl hc _ ih=>exact .agg hl hc ih
 | tup hl _ ih=>exact .tup hl ih
 | func hl hl' _ _ ih ih'=>exact .func hl hl' ih ih'
 | undef v=>exact .undef v
def Vs(E:Env)(F:Fr)(H:za)(F1:Fr)(H1:za):Prop:=HSc E.H0->∀(C:Ctx) (a:Act) (w:World),WRel C H w->FRel C E.N (slot F) a->∃ C',CLeN E.H0.length C C'/\WRel C' H1 w/\FRel C' E.N (slot F1) a
section rules
variable {E:Env} {Q:Exit->Fr->za->Prop} {F1:Fr} {H1:za}
theorem PW.view{c:Code}(hv:Vs E F H F1 H1)(h:PW P E c F1 H1 Q):PW P E c F H Q:=λhs C a w hd hw hf=>by obtain⟨C',q1,q2,q3⟩:=hv hs C a w hw hf;exact wp_mono (h hs C' a w hd q2 q3) λ_ _ _ hp=>hp.trans q1 (.refl _ _)
theorem PL.view{c:Code}(hv:Vs E F H F1 H1)(h:PL P E c F1 H1 Q):PL P E c F H Q:=λhs C a w hd hw hf=>by obtain⟨C',q1,q2,q3⟩:=hv hs C a w hw hf;intro b k cs;obtain⟨e2,a2,w2,hq2,harr2⟩:=h hs C' a w hd q2 q3 b k cs;exact⟨e2,a2,w2,hq2.trans q1 (.refl _ _),harr2⟩
theorem Vs.trans{F2:Fr}{H2:za}(h:Vs E F H F1 H1)(k:Vs E F1 H1 F2 H2):Vs E F H F2 H2:=λhs C a w hw hf=>by obtain⟨C1,q1,q2,q3⟩:=h hs C a w hw hf;obtain⟨C2,r1,r2,r3⟩:=k hs C1 a w q2 q3;exact⟨C2,q1.trans r1,r2,r3⟩
theorem Vs.keep(ks:List Nat):Vs E F H (kp ks F) H:=λ_ C _ _ hw hf=>⟨C,.refl C,hw,hf.keep ks⟩
theorem PW.eq{c:Code}(hF:F=F1)(hH:H=H1)(h:PW P E c F1 H1 Q):PW P E c F H Q:=by simp_all
theorem PL.eq{c:Code}(hF:F=F1)(hH:H=H1)(h:PL P E c F1 H1 Q):PL P E c F H Q:=by simp_all
theorem PW.at{c:Code}(ks:List Nat)(h:PW P E c F1 H1 Q)(hF:kp ks F=F1)(hH:H=H1):PW P E c F H Q:=by subst hF hH;exact h.keep ks
theorem PL.at{c:Code}(ks:List Nat)(h:PL P E c F1 H1 Q)(hF:kp ks F=F1)(hH:H=H1):PL P E c F H Q:=by subst hF hH;exact h.keep ks
theorem PW.rgv{id:Nat}{ops:Array Oper}(ks:List Nat)(d:Nat)(v:PV)(hd:ops.toList.all (zU E.N)=true)(h:VO P (ops.toList.map (·.dst)) ops.toList (some (F,H)) (λF' H'=>kp (d::ks) F'=(d,v)::kp ks F/\H'=H))(hq:Q .normal ((d,v)::kp ks F) H):
  PW P E (.region id ops false) F H Q:=PW.rg1 (d::ks) _ H hd h hq
theorem PW.to{x y:Code}(ks:List Nat)(F1:Fr)(H1:za)(h:PW P E x F H (ziA (λF' H'=>kp ks F'=F1/\H'=H1) Q))(hj:PW P E y F1 H1 Q):PW P E (.seq x y) F H Q:=PW.join ks (λF' H'=>F'=F1/\H'=H1) h (λF' H' e=>by rw[e.1,e.2];exact hj)
def FzF(n:Nat)(H:za)(F:Fr):Fr->Prop
 | []=>True
 | (t,v)::r=>Fz n H (slot F t) v/\FzF n H F r
theorem FzF.slot{n:Nat}:∀{F1:Fr},FzF n H F F1->∀ t,Pm.slot F1 t= .undef\/Fz n H (Pm.slot F t) (Pm.slot F1 t)
 | [],_,t=>.inl rfl
 | (k,x)::r,h,t=>by
  show(match qH k t with|true=>x|false=>Pm.slot r t)= .undef\/Fz n H (Pm.slot F t) (match qH k t with|true=>x|false=>Pm.slot r t);cases hb:qH k t with
  | true=>exact .inr (by rw[<-qJ hb];exact h.1)
  | false=>exact FzF.slot h.2 t
theorem Vs.cut(hn:E.H0.length<=H1.length)(hH:HSc E.H0->CutH H H1)(hF:FzF H1.length H F F1):Vs E F H F1 H1:=λhs C a w hw hf=>by
 obtain⟨g1,g2⟩:=hw.cutN (hH hs);refine⟨_,g1.less hn,g2,hf.1,λt=> ?_⟩;rcases hF.slot t with h|h
 .rw[h];exact .undef _
 .exact h.sound hw (hf.2 t)
theorem Scoped.mono{n m:Nat}(hm:n<=m){x:PV}(h:Scoped n x):Scoped m x:=by
 induction h with
 | nl k=>exact .nl k
 | yl _ ih=>exact .yl ih
 | lp l r=>exact .lp l r
 | int k m=>exact .int k m
 | bool b=>exact .bool b
 | str s=>exact .str s
 | nilp=>exact .nilp
 | undef=>exact .undef
 | ptr h=>exact .ptr om
 | msl h=>exact .msl om
 | mp h=>exact .mp om
 | ip _ ih=>exact .ip ih
 | slice _ ih=>exact .slice ih
 | agg _ ih=>exact .agg ih
 | tup _ ih=>exact .tup ih
 | func _ _ ih ih'=>exact .func ih ih'
def FzC(n:Nat)(H:za):List PV->List PV->Prop
 | [],[]=>True
 | x::xs,y::ys=>Fz n H x y/\FzC n H xs ys
 | _,_=>False
theorem FzC.pw{n:Nat}:∀{xs ys:List PV},FzC n H xs ys->ys.length=xs.length/\∀(j:Nat) (x y:PV),xs[j]? =some x->ys[j]? =some y->Fz n H x y
 | [],[],_=>⟨rfl,λj x y hx=>by simp at hx⟩
 | x::xs,y::ys,h=>by
  obtain⟨l,q⟩:=FzC.pw h.2;refine⟨by simp[l],λj a b ha hb=> ?_⟩;cases j with
  | zero=>simp at ha hb;subst ha hb;exact h.1
  | succ j=>exact q j a b (by simpa using ha) (by simpa using hb)
 | [],_::_,h=>h.elim
 | _::_,[],h=>h.elim
theorem FzC.refl{n:Nat}:∀{xs:List PV},(∀ x∈xs,Scoped n x)->FzC n H xs xs
 | [],_=>trivial
 | x::xs,h=>⟨.id (h x sp),FzC.refl λy hy=>h y (by simp[hy])⟩
theorem FzC.append{n:Nat}:∀{xs ys us vs:List PV},FzC n H xs ys->FzC n H us vs->FzC n H (xs++us) (ys++vs)
 | [],[],_,_,_,h=>h
 | x::xs,y::ys,_,_,h,h'=>⟨h.1,FzC.append h.2 h'⟩
 | [],_::_,_,_,h,_=>h.elim
 | _::_,[],_,_,h,_=>h.elim
theorem Fz.tupC{n:Nat}{xs ys:List PV}(h:FzC n H xs ys):Fz n H (.tup xs) (.tup ys):=.tup h.pw.1 h.pw.2
theorem Fz.aggC{n:Nat}{xs ys:List PV}(h:FzC n H xs ys):Fz n H (.agg xs) (.agg ys):=.agg h.pw.1 h.pw.2
theorem Fz.sliceC{n len:Nat}{f f':Bool}{xs ys:List PV}(h:FzC n H xs ys)(hf:f'=true->f=true):Fz n H (.slice xs len f) (.slice ys len f'):=.slice h.pw.1 h.pw.2 hf
theorem Fz.mslC{n id ver len sz e:Nat}{g:Bool}{xs ys:List PV}(hn:n<=id)(hk:H[id]? =some ⟨e,ver,xs⟩)(hl:xs.length=len * sz)(h:FzC n H xs ys):Fz n H (.msl id ver 0 len sz g) (.slice ys len false):=by
 have ht:((xs.drop 0).take (len * sz))=xs:=by grind
 exact .msl hn hk rfl (by simp only;omega) (by simp only;rw[ht];exact h.pw.1) (by simp only;rw[ht];exact h.pw.2)
def FzL(n:Nat)(H:za):List Blk->List Blk->Prop
 | [],[]=>True
 | k::r,k1::r1=>k1.e=k.e/\k1.ver=k.ver/\FzC n H k.cells k1.cells/\FzL n H r r1
 | _,_=>False
theorem FzL.get{n:Nat}:∀{L L1:List Blk},FzL n H L L1->L1.length=L.length/\∀(j:Nat) (k1:Blk),L1[j]? =some k1->∃ k,L[j]? =some k/\k1.e=k.e/\k1.ver=k.ver/\FzC n H k.cells k1.cells
 | [],[],_=>⟨rfl,λj k h=>by simp at h⟩
 | k::r,k1::r1,h=>by
  obtain⟨h1,h2,h3,h4⟩:=h;obtain⟨l,q⟩:=FzL.get h4;grind
 | [],_::_,h=>h.elim
 | _::_,[],h=>h.elim
theorem FzL.refl{n:Nat}:∀{L:List Blk},(∀ k∈L,∀ x∈k.cells,Scoped n x)->FzL n H L L
 | [],_=>trivial
 | k::r,h=>⟨rfl,rfl,FzC.refl (h k sp),FzL.refl λk' hk'=>h k' (by simp[hk'])⟩
theorem CutH.of{A L K L1:za}(hA:HSc A)(hL:FzL (A++L1).length (A++L++K) L L1):CutH (A++L++K) (A++L1):=by
 obtain⟨l,q⟩:=hL.get;refine⟨by simp[l],λj k1 hk1=> ?_⟩;by_cases hj:j<A.length
 .rw[qO hj]at hk1;refine⟨k1,by rw[jH,qO hj];exact hk1,rfl,rfl,rfl,λi x y hx hy=> ?_⟩;rw[hx]at hy;injection hy with hy;subst hy;exact .id ((hA j k1 hk1 x (jO hx)).mono sp)
 .rw[jL om]at hk1;obtain⟨k,hk,h1,h2,h3⟩:=q _ k1 hk1;have hlt:=(qE.1 hk).1;exact⟨k,by rw[jH,jL om,qO hlt];exact hk,h1,h2,h3.pw.1,h3.pw.2⟩
theorem CutH.base{A K:za}(hA:HSc A):CutH (A++K) A:=by have:=CutH.of (A:=A) (L:=[]) (K:=K) (L1:=[]) hA trivial;simp_all
theorem HSc.set{A:za}(hA:HSc A){id:Nat}{k:Blk}(hk:∀ x∈k.cells,Scoped A.length x):HSc (A.set id k):=λj k' hk' x hx=>by
 rw[List.length_set];rw[qL]at hk';split at hk'
 .simp_all
 .exact hA j k' hk' x hx
theorem Vs.trim{K:za}(hA:HSc E.H0->HSc H1)(hn:E.H0.length<=H1.length)(hH:H=H1++K)(hF:FzF H1.length H F F1):Vs E F H F1 H1:=Vs.cut hn (λhs=>by rw[hH];exact CutH.base (hA hs)) hF
theorem Fin.cut{A K H':za}{v v':PV}(hH:H'=A++K)(hl:H.length=A.length)(hA:HSc H->HSc A)(hv:Fz A.length H' v' v):Fin H v A v' H':=by subst hH;exact .inr (.inr λhs=>⟨om,CutH.base (hA hs),hv⟩)
theorem Fin.base{K:za}{v v':PV}(hv:Fz H.length (H++K) v' v):Fin H v H v' (H++K):=Fin.cut rfl rfl (λh=>h) hv
theorem Fin.more{A L K L1 H':za}{v v':PV}(hH:H'=A++L++K)(hl:H.length=A.length)(hA:HSc H->HSc A)(hL:FzL (A++L1).length H' L L1)(hv:Fz (A++L1).length H' v' v):Fin H v (A++L1) v' H':=by subst hH;exact .inr (.inr λhs=>⟨by simp;omega,CutH.of (hA hs) hL,hv⟩)
theorem Fin.now{v:PV}{H1:za}:Fin H v H1 v H1:=.inl ⟨rfl,rfl⟩
theorem ziP{id sz:Nat}(hm:C.mu[id]? =some none/\C.cp[id]? =some 0)(hv:C.vs[id]? =some 0){u:Value}(h:VRel C (.slice [] 0 true) u):VRel C (.msl id 0 0 0 sz true) u:=by
 cases h with
 | slice hl hM hc hR hcap hmax hf=>rw[hf rfl];exact .mslG _ hm hv
 | sliceN=>exact .mslG _ hm hv
theorem Vs.ghost(t e sz:Nat)(hs:slot F t= .slice [] 0 true):Vs E F H ((t,.msl H.length 0 0 0 sz true)::F) (H++[⟨e,0,[]⟩]):=λ_ C a w hw hf=>by
 obtain⟨g1,g2⟩:=hw.ghost e 0;refine⟨_,g1.toN _,g2,hf.1,λt'=> ?_⟩;show VRel _ (match qH t t' with|true=>_|false=>slot F t') _;cases hb:qH t t' with
 | true=>
  rw[<-qJ hb];have:=hf.2 t;rw[hs]at this;exact ziP ⟨by simp[Ctx.more,<-hw.len],by simp[Ctx.more,<-hw.lenc]⟩ (by simp[Ctx.more,<-hw.lenv]) (this.mono g1)
 | false=>exact(hf.2 t').mono g1
theorem WRel.recell(hw:WRel C H w){id j:Nat}{k:Blk}{x y:PV}(hk:H[id]? =some k)(hj:k.cells[j]? =some x)(hc:y.cell=true)(hlp:∀ l r,x≠.lp l r)(hR:∀ u,VRel C x u->VRel C y u):WRel C (H.set id ⟨k.e,k.ver,k.cells.set j y⟩) w:=by
 have hid:id<H.length:=(qE.1 hk).1;refine⟨hw.gl,hw.base,hw.tople,hw.imm,by rw[hw.len];simp,by rw[hw.lenv];simp,by rw[hw.lenc];simp,?_,?_,?_,hw.disj,hw.inj,hw.minj⟩
 .intro i k' hk';rw[qL]at hk';split at hk'
  .rename_i e;subst e;simp only[hid,if_true,qA.injEq]at hk';subst hk';exact hw.ver id k hk
  .exact hw.ver i k' hk'
 .intro i k' hk' hm;rw[qL]at hk';split at hk'
  .rename_i e;subst e;simp only[hid,if_true,qA.injEq]at hk';subst hk';rcases hw.gho id k hk hm with h0|⟨b,es,clock,q1,q2,q3,q4,q5⟩|⟨b,r,q1,q2,q3,q4⟩
   .simp_all
   .refine .inr (.inl ⟨b,es,clock,q1,q2,q3,by simpa using q4,λi z e hz he=> ?_⟩);grind
   grind
  .exact hw.gho i k' hk' hm
 .intro i k' b hk' hm;rw[qL]at hk';split at hk'
  .rename_i e;subst e;simp only[hid,if_true,qA.injEq]at hk';subst hk';obtain⟨cur,q3,q4,q5,q6,q7,q8⟩:=hw.own id k b hk hm;grind
  .exact hw.own i k' b hk' hm
theorem Vs.ghostH{id j:Nat}{k:Blk}(e sz:Nat)(hk:H[id]? =some k)(hj:k.cells[j]? =some (.slice [] 0 true)):
  Vs E F H F (H.set id ⟨k.e,k.ver,k.cells.set j (.msl H.length 0 0 0 sz true)⟩++[⟨e,0,[]⟩]):=λ_ C a w hw hf=>by
 obtain⟨g1,g2⟩:=hw.ghost e 0;have hid:id<H.length:=(qE.1 hk).1;have:=g2.recell (id:=id) (j:=j) (k:=k) (y:=.msl H.length 0 0 0 sz true) (by rw[qO hid];exact hk) hj rfl (λ_ r h=>by cases h) (λu hu=>ziP ⟨by simp[Ctx.more,<-hw.len],by simp[Ctx.more,<-hw.lenc]⟩ (by simp[Ctx.more,<-hw.lenv]) hu);rw[List.set_append_left _ _ hid]at this;exact⟨_,g1.toN _,this,hf.mono g1⟩
end rules
theorem WRel.grown(hw:WRel C H w){w':World}(hb:Below w.heap.size w w'):WRel C H w':=by
 have hcell:∀ b o u,w.cell? ⟨b,o,none⟩=some u->w'.cell? ⟨b,o,none⟩=some u:=λb o u hu=>by have hlt:=World.block_lt_of_cell? w ⟨b,o,none⟩ hu;have e:=hb.block b hlt;simp only[World.cell?]at hu |-;simp_all
 have hsz:=hb.size;refine⟨hw.gl,by have:=hw.base;omega,by have:=hw.tople;omega,λb o u hu=>hcell _ _ _ (hw.imm b o u hu),hw.len,hw.lenv,hw.lenc,hw.ver,λid k hk hm=>(hw.gho id k hk hm).imp_right (λm=>m.mono (.refl _) rfl (λb es c hp h3=>by rw[hb.block b (qW.1 h3).1];exact h3)),λid k b hk hm=> ?_,hw.disj,hw.inj,hw.minj⟩;obtain⟨cur,q3,q4,q5,q6,q7,q8⟩:=hw.own id k b hk hm;exact⟨cur,q3,q4,by rw[hb.block b (hw.mu_lt hm)];exact q5,q6,q7,q8⟩
def Ctx.after(C C2:Ctx)(n:Nat):Ctx:={ C with M:=λb o=>if b<n then C.M b o else C2.M b o }
theorem zlK(C C2:Ctx)(hw:WRel C H w):CLe C (C.after C2 w.heap.size):=by
 refine⟨rfl,λb o u hu=> ?_,rfl,λb o u hu=> ?_,λb hb=>.inl hb,λid ver hv=>⟨ver,hv,jQ _,λ_=>⟨rfl,rfl⟩⟩⟩
 .have:=hw.imm_lt hu;simp_all[Ctx.after]
 .simp only[Ctx.after]at hu;split at hu
  .simp_all
  .have:=hw.tople;exact .inr (.inl om)
theorem zui{C2:Ctx}{w':World}(hw:WRel C H w)(hb:Below w.heap.size w w')(h2:WRel C2 [] w'):WRel (C.after C2 w.heap.size) H w':=by
 have h:=hw.grown hb;have hle:=zlK C C2 hw;refine⟨h.gl.mono hle.M,h.base,h.tople,λb o u hu=> ?_,h.len,h.lenv,h.lenc,h.ver,λid k hk hm=>(h.gho id k hk hm).imp_right (λm=>m.mono hle rfl (λb es c hp h3=>h3)),λid k b hk hm=> ?_,λid b hm o=> ?_,h.inj,h.minj⟩
 .simp only[Ctx.after]at hu;split at hu
  .exact h.imm b o u hu
  .exact h2.imm b o u hu
 .obtain⟨cur,q3,q4,q5,q6,q7,q8⟩:=h.own id k b hk hm;exact⟨cur,q3,q4,q5,q6,q7,λj x u hx hu=>(q8 j x u hx hu).mono hle⟩
 .simp only[Ctx.after];rw[if_pos (hw.mu_lt hm)];exact hw.disj id b hm o
theorem zuj{n:Nat}{C2:Ctx}(hM:∀ b o u,C2.M b o=some u->C.M b o=some u\/n<=b)(hlt:∀ b o u,C.M b o=some u->b<n)(hC:∀ b o u,C.M b o=some u->C2.M b o=some u)(hv0:C2.vs=[]){x:PV}{u:Value}(h:VRel C2 x u):VRel (C.after C2 n) x u:=by
 have key:∀ b o u,C2.M b o=some u->(C.after C2 n).M b o=some u:=λb o u hu=>by grind[Ctx.after]
 have no:∀{id ver:Nat},C2.vs[id]? =some ver->False:=λh=>by simp_all
 induction h with
 | nl k=>exact .nl k
 | yl hl _ ih=>exact .yl hl ih
 | int k n=>exact .int k n
 | bool b=>exact .bool b
 | str s=>exact .str s
 | nilp=>exact .nilp
 | ptr hm hv=>exact(no hv).elim
 | ptrS v h1 hv hlt=>exact(no hv).elim
 | ip hl hM hc _ ih=>exact .ip hl (λj u hu=>key _ _ _ (hM j u hu)) hc ih
 | slice hl hM hc _ hcap hmax hf ih=>exact .slice hl (λj u hu=>key _ _ _ (hM j u hu)) hc ih hcap hmax hf
 | sliceN ad full=>exact .sliceN ad full
 | msl hm hv hcap hmax hg=>exact(no hv).elim
 | mslE hm hv hmax=>exact(no hv).elim
 | mslG ad hm hv=>exact(no hv).elim
 | mslS v h1 hv hlt=>exact(no hv).elim
 | mp hm hv hb=>exact(no hv).elim
 | mpS v h1 hv hlt=>exact(no hv).elim
 | agg hl hc _ ih=>exact .agg hl hc ih
 | tup hl _ ih=>exact .tup hl ih
 | func hl hl' _ _ ih ih'=>exact .func hl hl' ih ih'
 | undef v=>exact .undef v
theorem CallEx.frame{f:FuncId}{args:List PV}{R:PV->Prop}(h:CallEx P f args [] (λv H'=>R v/\H'=[]))(hs:∀ x∈args,Scoped 0 x):CallEx P f args H (λv H'=>R v/\H'=H):=by
 refine⟨h.1,λC us w hw hu=> ?_⟩;have h0:WRel { B:=w.heap.size,M:=C.M,mu:=[],vs:=[],cp:=[],top:=w.heap.size } [] w:=⟨hw.gl,jQ _,jQ _,hw.imm,rfl,rfl,rfl,λid k h=>by simp at h,λid k h=>by simp at h,λid k b h=>by simp at h,λid b h=>by simp at h,λi j b h=>by simp at h,λi j b h=>by simp at h⟩;have ha:VRels { B:=w.heap.size,M:=C.M,mu:=[],vs:=[],cp:=[],top:=w.heap.size } args us:=⟨hu.1,λj x u hx hu'=>by
  have:=(hu.2 j x u hx hu').cut (n:=0) (M:=C.M) (λ_ _ _ h=>h) (hs x (jO hx));refine this.re ?_ ?_ ?_ ?_<;>simp[Ctx.cut]⟩
 refine(h.2 _ us w h0 ha).mono ?_;rintro e w' ⟨C2,u,v,H',⟨hR,rfl⟩,q1,q2,q3,q4,q5⟩;refine⟨C.after C2 w.heap.size,u,v,H,⟨hR,rfl⟩,zlK C C2 hw,zui hw q3 q2,q3.mono hw.base,q4,?_⟩;refine zuj (λb o u hu=> ?_) (λb o u hu=>hw.imm_lt hu) (λb o u hu=>q1.M b o u hu) (qU q2.lenv) q5;rcases q1.mnew b o u hu with h|h|h;all_goals simp_all
theorem CallOk.frame{f:FuncId}{args:List PV}{v:PV}(h:CallOk P f args [] v [])(hs:∀ x∈args,Scoped 0 x):CallOk P f args H v H:=(CallEx.frame (R:=λv'=>v'=v) h.toEx hs).one
inductive Scal:PV->Prop where
 | int (k:IntKind) (m:Int):Scal (.int k m)
 | bool (b:Bool):Scal (.bool b)
 | str (s:List UInt8):Scal (.str s)
 | nilp:Scal .nilp
 | agg {xs:List PV} (h:∀(j:Nat) (x:PV),xs[j]? =some x->Scal x):Scal (.agg xs)
 | tup {xs:List PV} (h:∀(j:Nat) (x:PV),xs[j]? =some x->Scal x):Scal (.tup xs)
theorem Scal.any{C C':Ctx}{x:PV}(h:Scal x):∀{u:Value},VRel C x u->VRel C' x u:=by
 induction h with
 | int k m=>intro u hv;cases hv;exact .int k m
 | bool b=>intro u hv;cases hv;exact .bool b
 | str s=>intro u hv;cases hv;exact .str _
 | nilp=>intro u hv;cases hv;exact .nilp
 | agg _ ih=>intro u hv;cases hv with|agg hl hc hR=>exact .agg hl hc (λj x u hx hu=>ih j x hx (hR j x u hx hu))
 | tup _ ih=>intro u hv;cases hv with|tup hl hR=>exact .tup hl (λj x u hx hu=>ih j x hx (hR j x u hx hu))
theorem WRel.freeze1(hw:WRel C H w){id:Nat}{k:Blk}(hk:H[id]? =some k):∃ C1,CLe C C1/\WRel C1 (H.set id ⟨k.e,k.ver+1,[]⟩) w/\
  ∀(off len sz:Nat) (g:Bool) (u:Value),off+len * sz<=k.cells.length->VRel C (.msl id k.ver off len sz g) u->VRel C1 (.slice ((k.cells.drop off).take (len * sz)) len false) u:=by
 have hid:id<H.length:=(qE.1 hk).1;have e1:=hw.len;have e2:=hw.lenv;have e3:=hw.lenc;obtain⟨m,hm⟩:∃ m,C.mu[id]? =some m:=⟨C.mu[id]'om,jM _⟩;have hge:∀ b o u,C.M b o=some u->(if m=some b then w.cell? ⟨b,o,none⟩else C.M b o)=some u:=λb o u hu=>by
  split
  .exact hw.imm b o u hu
  .exact hu
 have hle:CLe C { B:=C.B,top:=C.top,M:=λb o=>if m=some b then w.cell? ⟨b,o,none⟩else C.M b o,mu:=C.mu.set id none,vs:=C.vs.set id (k.ver+1),cp:=C.cp.set id 0 }:=by
  refine⟨rfl,hge,rfl,λb o u hu=> ?_,λb hb=> ?_,λi ver hv=> ?_⟩
  .grind
  .grind
  .by_cases hi:i=id
   .subst hi;rw[hw.ver i k hk]at hv;simp_all
   grind
 refine⟨_,hle,?_,?_⟩
 .refine⟨hw.gl.mono hge,hw.base,hw.tople,λb o u hu=> ?_,by simp[e1],by simp[e2],by simp[e3],?_,?_,?_,?_,?_,?_⟩
  .simp only at hu;split at hu
   .exact hu
   .exact hw.imm b o u hu
  .intro i k' hk';by_cases hi:i=id
   .subst hi;simp[hid]at hk';subst hk';simp[e2,hid]
   .rw[qI om]at hk';rw[qI om];exact hw.ver i k' hk'
  .intro i k' hk' hm';by_cases hi:i=id
   .subst hi;simp[hid]at hk';subst hk';exact .inl ⟨by simp[e3,hid],rfl⟩
   .rw[qI om]at hk' hm';rw[qI om];exact(hw.gho i k' hk' hm').imp_right (λm=>m.mono hle rfl (λb es c hp h3=>h3))
  .intro i k' b hk' hm';by_cases hi:i=id
   .subst hi;simp[e1,hid]at hm'
   .rw[qI om]at hk' hm';obtain⟨c,q3,q4,q5,q6,q7,q8⟩:=hw.own i k' b hk' hm';exact⟨c,by rw[qI om];exact q3,q4,q5,q6,q7,λj x u hx hu=>(q8 j x u hx hu).mono hle⟩
  .intro i b hb o;by_cases hi:i=id
   .subst hi;simp[e1,hid]at hb
   .simp only[qI (by omega:id≠i)]at hb;simp only;rw[if_neg (λe=> ?_)]
    .exact hw.disj i b hb o
    .rw[e]at hm;exact hi (hw.inj i id b hb hm)
  .intro i j b hi hj;have ne:∀{i:Nat},(C.mu.set id none)[i]? =some (some b)->i≠id/\C.mu[i]? =some (some b):=fun{i} h=>by grind
   exact hw.inj i j b (ne hi).2 (ne hj).2
  .intro i j b mi mj ci cj;have ne:∀{i:Nat},(C.mu.set id none)[i]? =some none->(C.cp.set id 0)[i]? =some (b+1)->C.mu[i]? =some none/\C.cp[i]? =some (b+1):=fun{i} h h'=>by grind
   exact hw.minj i j b (ne mi ci).1 (ne mj cj).1 (ne mi ci).2 (ne mj cj).2
 .intro off len sz g u ho hv;obtain⟨b,cap,off',q1,rfl,hc1,hc2,ho',_⟩|⟨ad,hgh,h0,rfl⟩:=zbv hw hv (hw.ver id k hk)
  .rw[hm]at q1;injection q1 with q1;subst q1;obtain⟨cur,q3,q5,q6,q7,q8,q9,q10⟩:=hw.blk hk hm;have hlen:(((cur.toList.take k.cells.length).drop off).take (len * sz)).length=((k.cells.drop off).take (len * sz)).length:=by simp;omega
   refine .slice hlen (λj u hu=> ?_) (λx hx=>q6 x (List.mem_of_mem_drop (List.mem_of_mem_take hx))) (λj x u hx hu=>(((q9.drop off).take (len * sz)) j x u hx hu).mono hle) hc1 hc2 (λhf=>by cases hf);simp only[if_true];rcases Nat.eq_zero_or_pos len with h0|h0
   .subst h0;simp at hu
   .obtain rfl:=ho' h0;have:=((q8.drop off').take (len * sz)) j u hu;rwa[Nat.zero_add]at this
  .subst h0;have e:(k.cells.drop off).take (0 * sz)=[]:=by simp
   rw[e];exact .sliceN _ _
def Fz1(id:Nat)(k:Blk):List PV->List PV->Prop
 | [],[]=>True
 | x::xs,y::ys=>(x=y\/∃ len sz g,x= .msl id k.ver 0 len sz g/\k.cells.length=len * sz/\y= .slice k.cells len false)/\Fz1 id k xs ys
 | _,_=>False
theorem Fz1.get{id:Nat}{k:Blk}:∀{xs ys:List PV},Fz1 id k xs ys->ys.length=xs.length/\∀(j:Nat) (x y:PV),xs[j]? =some x->ys[j]? =some y->(x=y\/∃ len sz g,x= .msl id k.ver 0 len sz g/\k.cells.length=len * sz/\y= .slice k.cells len false)
 | [],[],_=>⟨rfl,λj x y hx=>by simp at hx⟩
 | x::xs,y::ys,h=>by
  obtain⟨l,q⟩:=Fz1.get h.2;refine⟨by simp[l],λj a b ha hb=> ?_⟩;cases j with
  | zero=>simp at ha hb;subst ha hb;exact h.1
  | succ j=>exact q j a b (by simpa using ha) (by simpa using hb)
 | [],_::_,h=>h.elim
 | _::_,[],h=>h.elim
theorem Vs.frzCell{E:Env}{id id' j len sz:Nat}{g:Bool}{k k':Blk}(hk:H[id]? =some k)(hk':H[id']? =some k')(hne:id≠id')(hj:k'.cells[j]? =some (.msl id k.ver 0 len sz g))(hl:k.cells.length=len * sz):
  Vs E F H F ((H.set id ⟨k.e,k.ver+1,[]⟩).set id' ⟨k'.e,k'.ver,k'.cells.set j (.slice k.cells len false)⟩):=λ_ C a w hw hf=>by
 obtain⟨C1,hle,hw1,hfz⟩:=hw.freeze1 hk;have hid':id'<H.length:=(qE.1 hk').1;have hid:id<H.length:=(qE.1 hk).1;obtain⟨m,hm⟩:∃ m,C.mu[id']? =some m:=⟨C.mu[id']'(by rw[hw.len];exact hid'),jM _⟩;cases m with
 | none=>
  rcases hw.gho id' k' hk' hm with h0|⟨b,es,clock,q1,q2,q3,q4,q5⟩|⟨b,r,q1,q2,q3,q4⟩
  .simp_all
  .have hj':j<es.size:=by grind
   obtain⟨b,cap,off',_,e,_⟩|⟨ad,_,_,e⟩:=zbv hw (q5 j _ es[j] hj (qG hj')) (hw.ver id k hk)<;>cases e
  grind
 | some b=>
  obtain⟨cur,q3,q4,q5,q6,q7,q8⟩:=hw.own id' k' b hk' hm;have hk1:(H.set id ⟨k.e,k.ver+1,[]⟩)[id']? =some k':=by simp_all
  refine⟨C1,hle.toN _,?_,hf.mono hle⟩;have hlt:id'<(H.set id ⟨k.e,k.ver+1,[]⟩).length:=by simp_all
  refine⟨hw1.gl,hw1.base,hw1.tople,hw1.imm,by rw[hw1.len];simp,by rw[hw1.lenv];simp,by rw[hw1.lenc];simp,?_,?_,?_,hw1.disj,hw1.inj,hw1.minj⟩
  .intro i k2 hk2;rw[qL]at hk2;split at hk2
   .rename_i e;subst e;simp only[hlt,if_true,qA.injEq]at hk2;subst hk2;exact hw1.ver id' k' hk1
   .exact hw1.ver i k2 hk2
  .intro i k2 hk2 hm2;rw[qL]at hk2;split at hk2
   .rename_i e;subst e;obtain⟨ver',e1,e2,e3⟩:=hle.ids id' k'.ver (hw.ver id' k' hk');have h2:=hw1.ver id' k' hk1;simp_all
   .exact hw1.gho i k2 hk2 hm2
  .intro i k2 b2 hk2 hm2;rw[qL]at hk2;split at hk2
   .rename_i e;subst e;simp only[hlt,if_true,qA.injEq]at hk2;subst hk2;obtain⟨cur1,r3,r4,r5,r6,r7,r8⟩:=hw1.own id' k' b2 hk1 hm2;have hb:b2=b:=by obtain⟨ver',e1,e2,e3⟩:=hle.ids id' k'.ver (hw.ver id' k' hk');have h2:=hw1.ver id' k' hk1;simp_all
    subst hb;rw[q5]at r5;injection r5 with r5;injection r5 with r5;subst r5;refine⟨cur,r3,r4,q5,λz hz=> ?_,by simpa using r7,λi z u hz hu=> ?_⟩
    .rcases List.mem_or_eq_of_mem_set hz with hz|hz
     .simp_all
     .rw[hz];rfl
    grind
   .exact hw1.own i k2 b2 hk2 hm2
end Go.Proofs.YtdajpjenhcobkaaGreatDoor.Pm
namespace Go.Proofs.YtdajpjenhcobkaaGreatDoor.Pm
open Go.RowKit
variable {P:Program} {C:Ctx} {H:za} {w:World} {F:Fr} {a:Act} {N:Nat}
def eqL{α:Type}(f:α->α->Bool):List α->List α->Bool
 | [],[]=>true
 | x::xs,y::ys=>match f x y with|true=>eqL f xs ys|false=>false
 | _,_=>false
theorem zes{α:Type}{f:α->α->Bool}(hf:∀ x y,f x y=true->x=y):∀{xs ys:List α},eqL f xs ys=true->xs=ys
 | [],[],_=>rfl
 | x::xs,y::ys,h=>by
  simp only[eqL]at h;split at h
  .rename_i h1;rw[hf _ _ h1,zes hf h]
  .cases h
 | [],_::_,h=>by cases h
 | _::_,[],h=>by cases h
def eqb:Nat->PV->PV->Bool
 | 0,_,_=>false
 | _+1,.int k a,.int k' b=>decide (k=k')&&decide (a=b)
 | _+1,.bool a,.bool b=>a==b
 | _+1,.str a,.str b=>decide (a=b)
 | _+1,.nilp,.nilp=>true
 | _+1,.nl a,.nl b=>qH a b
 | _+1,.undef,.undef=>true
 | _+1,.ptr a b c,.ptr a' b' c'=>qH a a'&&qH b b'&&qH c c'
 | n+1,.ip xs o,.ip ys o'=>qH o o'&&eqL (eqb n) xs ys
 | n+1,.slice xs l f,.slice ys l' f'=>qH l l'&&(f==f')&&eqL (eqb n) xs ys
 | _+1,.msl a b c d e g,.msl a' b' c' d' e' g'=>qH a a'&&qH b b'&&qH c c'&&qH d d'&&qH e e'&&(g==g')
 | _+1,.mp a b,.mp a' b'=>qH a a'&&qH b b'
 | n+1,.agg xs,.agg ys=>eqL (eqb n) xs ys
 | n+1,.tup xs,.tup ys=>eqL (eqb n) xs ys
 | n+1,.func f xs us,.func f' ys vs=>qH f f'&&eqL (eqb n) xs ys&&eqL (eqb n) us vs
 | _+1,_,_=>false
theorem zf5:∀(n:Nat) (x y:PV),eqb n x y=true->x=y
 | 0,_,_,h=>by simp[eqb]at h
 | n+1,x,y,h=>by have ih:∀{xs ys:List PV},eqL (eqb n) xs ys=true->xs=ys:=λh=>zes (zf5 n) h;have nb:∀{a b:Nat},qH a b=true->a=b:=λh=>qJ h;cases x<;>cases y<;>simp only[eqb,Bool.false_eq_true,qB,decide_eq_true_eq,beq_iff_eq]at h;all_goals grind
def zr5(a b:Blk):Bool:=qH a.e b.e&&qH a.ver b.ver&&eqL (eqb 20) a.cells b.cells
theorem zlx(a b:Blk)(h:zr5 a b=true):a=b:=by simp only[zr5,qB]at h;cases a;cases b;grind[qJ,zes,zf5]
def eqH(a b:za):Bool:=eqL zr5 a b
theorem ziT{a b:za}(h:eqH a b=true):a=b:=zes zlx h
inductive Task where
 | code (N:Nat) (c:Code) (F:Fr) (H:za)
 | loop (N:Nat) (c:Code) (F:Fr) (H:za)
 | ops (d:Bool) (ds:List (Option Nat)) (l:List Oper) (F:Fr) (H:za)
 | call (f:FuncId) (args:List PV) (H:za)
inductive Res where
 | code (e:Exit) (F:Fr) (H:za)
 | val (v:PV) (H:za)
def zjL(ks:List Nat):Fr->List Nat
 | []=>ks
 | (t,_)::r=>match ks.any (qH t)with|true=>zjL ks r|false=>zjL (t::ks) r
def zbX(P:Program)(ih:Task->Option Res):Task->Option Res
 | .code N c F H=>match c with
  | .skip=>some (.code .normal F H)
  | .region _ ops d=>match ops.toList.all (zU N)&&(!d||(P.follows .mixedOrders&&zf6 N ops.toList))with
   | true=>ih (.ops d (ops.toList.map (·.dst)) ops.toList F H)
   | false=>none
  | .seq x y=>match ih (.code N x F H)with
   | some (.code .normal F1 H1)=>ih (.code N y F1 H1)
   | r=>r
  | .cond c x y=>match ev (slot F) c with
   | .bool true=>ih (.code N x F H)
   | .bool false=>ih (.code N y F H)
   | _=>none
  | .block id x=>match ih (.code N x F H)with
   | some (.code (.exit id') F1 H1)=>match qH id' id with|true=>some (.code .normal F1 H1)|false=>some (.code (.exit id') F1 H1)
   | r=>r
  | .loop x=>ih (.loop N x F H)
  | .exit id=>some (.code (.exit id) F H)
  | .label _=>some (.code .normal F H)
  | .scope x=>match ih (.code N x F H)with
   | some (.code (.goto _) _ _)=>none
   | r=>r
  | .ret=>some (.code .ret F H)
  | _=>none
 | .loop N x F H=>match ih (.code N x F H)with
  | some (.code .normal F1 H1)=>ih (.loop N x (kp (zjL [] F1) F1) H1)
  | r=>r
 | .ops _ _ [] F H=>some (.code .normal F H)
 | .ops d ds (o::r) F H=>match zJ o.op with
  | false=>match stp P ds o F H with
   | some (F1,H1)=>ih (.ops d ds r F1 H1)
   | none=>none
  | true=>match zam ds F o with
   | some true=>match zn o.op (slot F)with
    | some (g,args)=>match d&&zaD o.op with
     | true=>match args,ih (.call g [] [])with
      | [],some (.val v [])=>ih (.ops d ds r (put F o.dst v) H)
      | _,_=>none
     | false=>match ih (.call g args H)with
      | some (.val v H1)=>match !d||eqH H1 H with
       | true=>ih (.ops d ds r (put F o.dst v) H1)
       | false=>none
      | _=>none
    | none=>none
   | some false=>ih (.ops d ds r (put F o.dst (.tup [])) H)
   | none=>none
 | .call f args H=>match P.funcs[f]? with
  | some fn=>match fn.body with
   | some c=>match zaR P f&&Nat.ble args.length fn.ntmps with
    | true=>match ih (.code fn.ntmps c (zcy args 0) H)with
     | some (.code e F1 H1)=>match (match e with| .ret=>true| .normal=>true|_=>false)with
      | true=>match zk P fn.results.toList (slot F1) H1 with
       | some v=>match eqH (H1.take H.length) H with
        | true=>match frz H.length H1 20 v with
         | some v1=>some (.val v1 H)
         | none=>some (.val v H1)
        | false=>some (.val v H1)
       | none=>none
      | false=>none
     | _=>none
    | false=>none
   | none=>none
  | none=>none
noncomputable def zh5(P:Program)(n:Nat):Task->Option Res:=n.rec (λ_=>none) (λ_ ih=>zbX P ih)
def zwR(P:Program):Task->Res->Prop
 | .code N c F H,.code e F1 H1=>∀ H0,PW P ⟨N,H0⟩ c F H (λe' F' H'=>e'=e/\F'=F1/\H'=H1)
 | .loop N c F H,.code e F1 H1=>∀ H0,PL P ⟨N,H0⟩ c F H (λe' F' H'=>e'=e/\F'=F1/\H'=H1)
 | .ops false ds l F H,.code .normal F1 H1=>VO P ds l (some (F,H)) (λF' H'=>F'=F1/\H'=H1)
 | .ops true ds l F H,.code .normal F1 H1=>VOd P ds l (some (F,H)) (λF' H'=>F'=F1/\H'=H1)
 | .call f args H,.val v H1=>CallOk P f args H v H1
 | _,_=>False
theorem zg9{ds:List (Option Nat)}{K K':Fr->za->Prop}(hk:∀ F H,K F H->K' F H):∀{l:List Oper} {s:Option (Fr×za)},VO P ds l s K->VO P ds l s K'
 | l,none,h=>by rw[zkk]at h;exact h.elim
 | [],some (F,H),h=>hk F H h
 | o::r,some (F,H),h=>by
  cases hc:zJ o.op with
  | false=>rw[zog hc]at h |-;exact zg9 hk h
  | true=>
   rw[zfA hc]at h |-;unfold VC at h |-;split at h
   .split at h
    .obtain⟨R,h1,h2⟩:=h;exact⟨R,h1,λv H' hR=>zg9 hk (h2 v H' hR)⟩
    .exact h
   .exact zg9 hk h
   .exact h
theorem zfz{ds:List (Option Nat)}{K K':Fr->za->Prop}(hk:∀ F H,K F H->K' F H):∀{l:List Oper} {s:Option (Fr×za)},VOd P ds l s K->VOd P ds l s K'
 | l,none,h=>by rw[zii]at h;exact h.elim
 | [],some (F,H),h=>hk F H h
 | o::r,some (F,H),h=>by
  rw[zcA]at h |-;cases hc:zJ o.op with
  | false=>rw[hc]at h;exact zfz hk h
  | true=>
   rw[hc]at h;simp only[VCd,VRd]at h |-;split at h
   .split at h
    .obtain⟨v,h1,h2⟩:=h;exact⟨v,h1,zfz hk h2⟩
    .exact h
   .exact zfz hk h
   .exact h
theorem zl1{ih:Task->Option Res}(hih:∀ t r,ih t=some r->zwR P t r):∀ t r,zbX P ih t=some r->zwR P t r:=by
 intro t r h;cases t with
 | code N c F H=>
  have sub:∀{x:Code} {F:Fr} {H:za} {r:Res},ih (.code N x F H)=some r->∃ e F1 H1,r= .code e F1 H1/\∀ H0,PW P ⟨N,H0⟩ x F H (λe' F' H'=>e'=e/\F'=F1/\H'=H1):=fun{x F H r} hx=>by
   have:=hih _ _ hx;cases r with
   | code e F1 H1=>exact⟨e,F1,H1,rfl,this⟩
   | val v H1=>exact this.elim
  cases c with
  | skip=>simp only[zbX,qA.injEq]at h;subst h;exact λH0=>PW.skip ⟨rfl,rfl,rfl⟩
  | exit id=>simp only[zbX,qA.injEq]at h;subst h;exact λH0=>PW.exit ⟨rfl,rfl,rfl⟩
  | label l=>simp only[zbX,qA.injEq]at h;subst h;exact λH0=>PW.label ⟨rfl,rfl,rfl⟩
  | ret=>simp only[zbX,qA.injEq]at h;subst h;exact λH0=>PW.ret ⟨rfl,rfl,rfl⟩
  | scope x=>
   simp only[zbX]at h;cases hx:ih (.code N x F H)with
   | none=>rw[hx]at h;cases h
   | some r1=>
    obtain⟨e,F1,H1,rfl,hp⟩:=sub hx;rw[hx]at h;cases e with
    | goto l=>cases h
    | _=>
     injection h with h;subst h;intro H0;refine .scope ((hp H0).mono ?_);rintro e' F' H' ⟨rfl,rfl,rfl⟩;exact⟨rfl,rfl,rfl⟩
  | region id ops d=>
   simp only[zbX]at h;split at h
   .rename_i hc;simp only[qB,qP,qK]at hc;have:=hih _ _ h;cases d with
    | false=>
     cases r with
     | val v H1=>exact this.elim
     | code e F1 H1=>
      cases e with
      | normal=>
       intro H0;refine .rg hc.1 λK hK=>zg9 (λF' H' hq=>hK _ _ ?_) this;simp_all
      | _=>exact this.elim
    | true=>
     rcases hc.2 with h2|h2
     .cases h2
     .cases r with
      | val v H1=>exact this.elim
      | code e F1 H1=>
       cases e with
       | normal=>
        intro H0;refine .draw h2.1 h2.2 λK hK=>zfz (λF' H' hq=>hK _ _ ?_) this;simp_all
       | _=>exact this.elim
   .cases h
  | seq x y=>
   simp only[zbX]at h;cases hx:ih (.code N x F H)with
   | none=>rw[hx]at h;cases h
   | some rx=>
    obtain⟨e,F1,H1,rfl,hp⟩:=sub hx;rw[hx]at h;cases e with
    | normal=>
     obtain⟨e2,F2,H2,rfl,hp2⟩:=sub h;intro H0;exact .seq ((hp H0).mono λe' F' H' hq=>by obtain⟨rfl,rfl,rfl⟩:=hq;exact hp2 H0)
    | _=>
     simp only[qA.injEq]at h;subst h;intro H0;exact .seq ((hp H0).mono λe' F' H' hq=>by obtain⟨rfl,rfl,rfl⟩:=hq;exact⟨rfl,rfl,rfl⟩)
  | cond c x y=>
   simp only[zbX]at h;split at h
   .rename_i hc;obtain⟨e2,F2,H2,rfl,hp2⟩:=sub h;exact λH0=>PW.cond hc (λ_=>hp2 H0) (λe=>by cases e)
   .rename_i hc;obtain⟨e2,F2,H2,rfl,hp2⟩:=sub h;exact λH0=>PW.cond hc (λe=>by cases e) (λ_=>hp2 H0)
   .cases h
  | block id x=>
   simp only[zbX]at h;cases hx:ih (.code N x F H)with
   | none=>rw[hx]at h;cases h
   | some rx=>
    obtain⟨e,F1,H1,rfl,hp⟩:=sub hx;rw[hx]at h;cases e with
    | exit id'=>
     simp only at h;split at h
     .rename_i hb;simp only[qA.injEq]at h;subst h;intro H0;exact .block ((hp H0).mono λe' F' H' hq=>by
       obtain⟨rfl,rfl,rfl⟩:=hq;simp only[zd8];rw[if_pos (qJ hb)];simp)
     .rename_i hb;simp only[qA.injEq]at h;subst h;intro H0;exact .block ((hp H0).mono λe' F' H' hq=>by
       obtain⟨rfl,rfl,rfl⟩:=hq;simp only[zd8];rw[if_neg (by intro e;rw[e,Nat.beq_refl]at hb;cases hb)];simp)
    | _=>
     simp only[qA.injEq]at h;subst h;intro H0;exact .block ((hp H0).mono λe' F' H' hq=>by obtain⟨rfl,rfl,rfl⟩:=hq;exact⟨rfl,rfl,rfl⟩)
  | loop x=>
   simp only[zbX]at h;have:=hih _ _ h;cases r with
   | val v H1=>exact this.elim
   | code e F1 H1=>exact λH0=>PW.loop (this H0)
  | _=>simp[zbX]at h
 | loop N x F H=>
  simp only[zbX]at h;cases hx:ih (.code N x F H)with
  | none=>rw[hx]at h;cases h
  | some rx=>
   have h1:=hih _ _ hx;cases rx with
   | val v H1=>exact h1.elim
   | code e F1 H1=>
    rw[hx]at h;cases e with
    | normal=>
     have h2:=hih _ _ h;cases r with
     | val v H1=>exact h2.elim
     | code e2 F2 H2=>
      intro H0;refine .round ((h1 H0).mono λe' F' H' hq=> ?_);obtain⟨rfl,rfl,rfl⟩:=hq;exact .keep (zjL [] F') (h2 H0)
    | _=>
     simp only[qA.injEq]at h;subst h;intro H0;exact .round ((h1 H0).mono λe' F' H' hq=>by obtain⟨rfl,rfl,rfl⟩:=hq;exact⟨rfl,rfl,rfl⟩)
 | ops d ds l F H=>
  cases l with
  | nil=>simp only[zbX,qA.injEq]at h;subst h;cases d<;>exact⟨rfl,rfl⟩
  | cons o l=>
   simp only[zbX]at h;have rest:∀{F1:Fr} {H1:za},ih (.ops d ds l F1 H1)=some r->∃ F2 H2,r= .code .normal F2 H2/\(d=false->VO P ds l (some (F1,H1)) (λF' H'=>F'=F2/\H'=H2))/\(d=true->VOd P ds l (some (F1,H1)) (λF' H'=>F'=F2/\H'=H2)):=fun{F1 H1} hx=>by
    have:=hih _ _ hx;cases r with
    | val v H1=>cases d<;>exact this.elim
    | code e F2 H2=>
     cases e with
     | normal=>cases d<;>exact⟨F2,H2,rfl,λe=>(by first|exact this|cases e),λe=>(by first|exact this|cases e)⟩
     | _=>cases d<;>exact this.elim
   split at h
   .rename_i hc;split at h
    .rename_i F1 H1 hs;obtain⟨F2,H2,rfl,h1,h2⟩:=rest h;cases d with
     | false=>show VO P ds (o::l) (some (F,H)) _;rw[zog hc,hs];exact h1 rfl
     | true=>show VOd P ds (o::l) (some (F,H)) _;rw[zcA,hc];show VOd P ds l (stp P ds o F H) _;rw[hs];exact h2 rfl
    .cases h
   .rename_i hc;split at h
    .rename_i ha;split at h
     .rename_i g args hp;split at h
      .rename_i hpc;simp only[qB]at hpc;obtain⟨rfl,hpc⟩:=hpc;split at h
       .rename_i v hcall;have hk:CallOk P g [] [] v []:=hih _ _ hcall;have hall:∀ K,CallOk P g [] K v K:=λK=>hk.frame (λx hx=>by cases hx);obtain⟨F2,H2,rfl,h1,h2⟩:=rest h;show VOd P ds (o::l) (some (F,H)) _;rw[zcA,hc];exact VCd.call (hall H) (λ_=>hall) ha hp (h2 rfl)
       .cases h
      rename_i hpc;split at h
      .rename_i v H1 hcall;split at h
       .rename_i hd;have hk:=hih _ _ hcall;obtain⟨F2,H2,rfl,h1,h2⟩:=rest h;cases d with
        | false=>
         show VO P ds (o::l) (some (F,H)) _;rw[zfA hc];exact VC.call hk ha hp (h1 rfl)
        | true=>have he:H1=H:=ziT (by simpa using hd);subst he;show VOd P ds (o::l) (some (F,H1)) _;rw[zcA,hc];exact VCd.call hk (λe=>by rw[e]at hpc;cases hpc) ha hp (h2 rfl)
       .cases h
      .cases h
     .cases h
    .rename_i ha;obtain⟨F2,H2,rfl,h1,h2⟩:=rest h;cases d with
     | false=>
      show VO P ds (o::l) (some (F,H)) _;rw[zfA hc];unfold VC;rw[ha];exact h1 rfl
     | true=>show VOd P ds (o::l) (some (F,H)) _;rw[zcA,hc];simp only[VCd,ha];exact h2 rfl
    .cases h
 | call f args H=>
  simp only[zbX]at h;split at h
  .rename_i fn hf;split at h
   .rename_i c hb;split at h
    .rename_i hq;simp only[qB]at hq;split at h
     .rename_i e F1 H1 hcode;have hg:=hih _ _ hcode;split at h
      .rename_i he;split at h
       .rename_i v hres;have fin:∀ v1 H2,Fin H v1 H2 v H1->CallOk P f args H v1 H2:=λv1 H2 hfin=>by
         refine .body hf hb rfl rfl rfl hq.1 hq.2 ((hg H).mono λe' F' H' hq=> ?_);obtain⟨rfl,rfl,rfl⟩:=hq;cases e' with
         | ret=>exact⟨v,hres,hfin⟩
         | normal=>exact⟨v,hres,hfin⟩
         | _=>cases he
        split at h
        .rename_i hH;split at h
         .rename_i v1 hz;simp only[qA.injEq]at h;subst h;refine fin v1 H (.inr (.inl ⟨H1.drop H.length,20,?_,rfl,hz⟩));grind[ziT,List.take_append_drop]
         .simp only[qA.injEq]at h;subst h;exact fin v H1 (.inl ⟨rfl,rfl⟩)
        .simp only[qA.injEq]at h;subst h;exact fin v H1 (.inl ⟨rfl,rfl⟩)
       .cases h
      .cases h
     .cases h
    .cases h
   .cases h
  .cases h
theorem zeP:∀(n:Nat) (t:Task) (r:Res),zh5 P n t=some r->zwR P t r
 | 0,t,r,h=>by cases h
 | n+1,t,r,h=>zl1 (zeP n) t r h
theorem CallOk.eval(n:Nat){f:FuncId}{args:List PV}{v:PV}(h:zh5 P n (.call f args [])=some (.val v []))(hs:∀ x∈args,Scoped 0 x):CallOk P f args H v H:=(zeP n _ _ h).frame hs
def zrC:Option Res->Bool
 | some (.val (.bool true) [])=>true
 | _=>false
theorem CallOk.evalT(n:Nat){f:FuncId}(h:zrC (zh5 P n (.call f [] []))=true):CallOk P f [] H (.bool true) H:=by refine .eval n ?_ (λx hx=>by cases hx);grind[zrC]
end Go.Proofs.YtdajpjenhcobkaaGreatDoor.Pm
namespace Go.Proofs.YtdajpjenhcobkaaGreatDoor.Pm
open Go.RowKit
variable {P:Program} {C:Ctx} {H:za} {w:World} {F:Fr} {a:Act} {N:Nat}
def RunG(E:Oper->(Nat->PV)->za->PV->za->Prop):List Oper->(Nat->PV)->za->((Nat->PV)->za->Prop)->Prop
 | [],f,H,K=>K f H
 | o::r,f,H,K=>∃ v H',E o f H v H'/\RunG E r (upd f o.dst v) H' K
def zoh(E:Oper->(Nat->PV)->za->PV->za->Prop)(cmp:Oper->Oper->Bool):Prop:=∀(x o:Oper) (f:Nat->PV) (H:za) (vx:PV) (Hx:za) (v:PV) (H1:za),cmp x o=true->E x f H vx Hx->E o (upd f x.dst vx) Hx v H1->∃ H3,E o f H v H3/\E x (upd f o.dst v) H3 vx H1/\upd (upd f x.dst vx) o.dst v=upd (upd f o.dst v) x.dst vx
def zsG(P:Program)(N:Nat)(ops:Array Oper)(E:Oper->(Nat->PV)->za->PV->za->Prop):Prop:=
 ∀(o:Oper) (f:Nat->PV) (H:za) (v:PV) (H':za) (C:Ctx) (a:Act) (w:World),zU N o=true->WRel C H w->FRel C N f a->E o f H v H'->
  (Region.wanted o (yielded ops a.tmps)=false/\v= .tup []/\H'=H)\/
  (Region.wanted o (yielded ops a.tmps)=true/\∀(next:Act->World->Prop) (Q:Exit->Act->World->Prop),(∀ C' u w',CLe C C'->WRel C' H' w'->Below C.B w w'->FRel C' N (upd f o.dst v) (a.put o.dst u)->next (a.put o.dst u) w')->o.wp P a w next Q)
theorem RunG.front{E:Oper->(Nat->PV)->za->PV->za->Prop}{cmp:Oper->Oper->Bool}{K:(Nat->PV)->za->Prop}{o:Oper}{l2:List Oper}(hs:zoh E cmp):∀(l1:List Oper) (f:Nat->PV) (H:za),RunG E (l1++o::l2) f H K->(∀ x∈l1,cmp x o=true)->
  ∃ v H1,E o f H v H1/\RunG E (l1++l2) (upd f o.dst v) H1 K
 | [],f,H,h,_=>h
 | x::l1,f,H,h,hc=>by obtain⟨vx,Hx,hx,hr⟩:=h;obtain⟨v,H1,ho,hr2⟩:=RunG.front hs l1 _ _ hr (λy hy=>hc y (jP _ hy));obtain⟨H3,g1,g2,g3⟩:=hs x o f H vx Hx v H1 (hc x (qX ..)) hx ho;exact⟨v,H3,g1,vx,H1,g2,g3▸hr2⟩
def zh7(cmp:Oper->Oper->Bool)(ms:List Nat)(N:Nat)(ops:List Oper)(i:Nat):Bool:=match ops[i]? with
 | none=>false
 | some o=>zU N o&&(bnd o).all (λj=>Nat.blt j i)&&(qH (ms.getD i 0) (zcv ms o))&&(qS i).all λj=>(ms.getD i 0).testBit j||(match ops[j]? with|some x=>cmp x o|none=>false)
def zj6(cmp:Oper->Oper->Bool)(N:Nat)(ops:List Oper):Bool:=(qS ops.length).all (zh7 cmp (zgq ops) N ops)
theorem zh6{cmp:Oper->Oper->Bool}{ms:List Nat}{ops:List Oper}{i:Nat}{o:Oper}(ho:ops[i]? =some o)(h:zh7 cmp ms N ops i=true):
  zU N o=true/\(∀ j∈bnd o,j<i)/\ms.getD i 0=zcv ms o/\∀ j,j<i->(ms.getD i 0).testBit j=true\/∃ x,ops[j]? =some x/\cmp x o=true:=by
 unfold zh7 at h;simp only[ho,qB,qT,qN,qP]at h;obtain⟨⟨⟨h1,h2⟩,h3⟩,h4⟩:=h;refine⟨h1,λj hj=>by simpa[Nat.blt_eq]using h2 j hj,qJ h3,λj hj=> ?_⟩;rcases h4 j hj with h|h
 .exact .inl h
 .split at h
  .rename_i x hx;exact .inr ⟨x,hx,h⟩
  .cases h
theorem zro{cmp:Oper->Oper->Bool}{ms:List Nat}{ops:List Oper}(hall:∀ i,i<ops.length->zh7 cmp ms N ops i=true){S:Nat->Prop}(down:∀ i o,ops[i]? =some o->S i->∀ j∈bnd o,S j):
  ∀(i:Nat) (o:Oper),ops[i]? =some o->(∀ j∈bnd o,S j)->∀ j,(ms.getD i 0).testBit j=true->S j:=by
 intro i;induction i using Nat.strongRecOn with
 | _ i ih=>intro o ho hp j hj;have hi:=(qE.1 ho).1;obtain⟨_,h2,h3,_⟩:=zh6 ho (hall i hi);rw[h3,zcv]at hj;rcases zf4 ms j _ _ hj with h|⟨k,hk,h⟩;all_goals grind
theorem zn9{cmp:Oper->Oper->Bool}{E:Oper->(Nat->PV)->za->PV->za->Prop}{ops:Array Oper}{Q:Exit->Act->World->Prop}{K:(Nat->PV)->za->Prop}(hall:∀ i,i<ops.toList.length->zh7 cmp (zgq ops.toList) N ops.toList i=true)
  (hswap:zoh E cmp) (hstep:zsG P N ops E):
  ∀(fuel:Nat) (listed:Array Bool) (f:Nat->PV) (H:za) (C:Ctx) (a:Act) (w:World),listed.size=ops.size->(∀ i o,ops[i]? =some o->listed.getD i true=true->∀ j∈bnd o,listed.getD j true=true)->
   fuel=(left ops.size listed).length->RunG E ((left ops.size listed).filterMap λi=>ops[i]?) f H K->a.defers=[]->WRel C H w->FRel C N f a->
   (∀ C' f' H' a' w',CLe C C'->a'.defers=[]->WRel C' H' w'->Below C.B w w'->FRel C' N f' a'->K f' H'->Q .normal a' w')->wpAny P .any ops Q fuel listed a w:=by
 have rdy:∀(listed:Array Bool) (i:Nat),i∈Region.ready .any ops listed↔i∈left ops.size listed/\∃ o,ops[i]? =some o/\∀ e∈o.after.toList,Region.binds .any e=true->listed.getD e.on false=true:=by
  intro listed i;unfold Region.ready;rw[jA,zbg,qN];constructor
  .rintro⟨h1,h2⟩;simp only[qB,qK]at h2;grind[qG,jG,qF.1]
  grind
 intro fuel;induction fuel with
 | zero=>
  intro listed f H C a w hsz hdown hfu hr hd hw hf hQ;have hnil:left ops.size listed=[]:=qU hfu.symm;refine⟨jI.2 λi hi=> ?_,?_⟩
  .simp_all
  .rw[hnil]at hr;exact hQ C f H a w (.refl _) hd hw (.refl _ _) hf hr
 | succ fuel ih=>
  intro listed f H C a w hsz hdown hfu hr hd hw hf hQ;refine⟨λhnone=> ?_,λi hi=> ?_⟩
  .exfalso;obtain⟨i,r,hl⟩:=jD hfu.symm;have hmem:i∈left ops.size listed:=by grind
   have hil:=(zbg.1 hmem).1;have hs:=zb2 ops.size listed;rw[hl,qQ]at hs;have:i∈Region.ready .any ops listed:=by
    refine(rdy listed i).2 ⟨hmem,ops[i],qG hil,λe he hb=> ?_⟩;have hlt:=(zh6 (by simpa using qG hil) (hall i (by simpa using hil))).2.1 e.on (qV.2 ⟨e,jA.2 ⟨he,hb⟩,rfl⟩);have hnm:e.on∉left ops.size listed:=by grind
    have h1:listed.getD e.on true=true:=by
     cases hg:listed.getD e.on true with
     | true=>rfl
     | false=>exact absurd (zbg.2 ⟨om,hg⟩) hnm
    grind
   grind
  .obtain⟨hmem,o,ho,hpre⟩:=(rdy listed i).1 hi;have hil:=(zbg.1 hmem).1;have hoL:ops.toList[i]? =some o:=by grind
   obtain⟨d1,d2,d3,d4⟩:=zh6 hoL (hall i (by simpa using hil));obtain⟨l1,l2,hl⟩:=List.append_of_mem hmem;have hs:=zb2 ops.size listed;rw[hl,jC,qQ]at hs;have hsz':i<listed.size:=om;have getFT:∀ j,listed.getD j false=true->listed.getD j true=true:=λj hj=>by grind
   have hpre':∀ j∈bnd o,listed.getD j true=true:=λj hj=>by obtain⟨e,he,rfl⟩:=qV.1 hj;grind
   rw[hl,qR,qY ho]at hr;have hcomp:∀ x∈l1.filterMap (λi=>ops[i]?),cmp x o=true:=by
    intro x hx;obtain⟨j,hj,hjx⟩:=jF.1 hx;have hji:j<i:=hs.2.2 j hj i (qX ..);rcases d4 j hji with h|⟨x',hx',hc⟩
    .have hS:=zro (N:=N) hall (S:=λj=>listed.getD j true=true) (λi o ho hS=>hdown i o (by simpa using ho) hS) i o hoL hpre' j h;have hjm:j∈left ops.size listed:=by grind
     rw[(zbg.1 hjm).2]at hS;cases hS
    grind
   obtain⟨v,H1,hex,hrun⟩:=RunG.front hswap _ _ _ hr hcomp;rw[<-qR,<-zfh hsz' hl]at hrun;have hdown':∀ i' o',ops[i']? =some o'->(listed.setIfInBounds i true).getD i' true=true->∀ j∈bnd o',(listed.setIfInBounds i true).getD j true=true:=by
    intro i' o' ho' h j hj;rw[zh1 _ _ _ hsz']at h |-;by_cases hi':i'=i
    .grind
    .rw[if_neg hi']at h;split;all_goals grind
   have hfu':fuel=(left ops.size (listed.setIfInBounds i true)).length:=by rw[zfh hsz' hl];grind
   have next:∀ C' u w',CLe C C'->WRel C' H1 w'->Below C.B w w'->FRel C' N (upd f o.dst v) (a.put o.dst u)->wpAny P .any ops Q fuel (listed.setIfInBounds i true) (a.put o.dst u) w':=by intro C' u w' q1 q2 q3 q4;refine ih _ _ _ C' _ w' (by simpa using hsz) hdown' hfu' hrun (by cases hod:o.dst<;>simp[Act.put,hd]) q2 q4 ?_;intro C'' f'' H'' a'' w'' p1 p2 p3 p4 p5 p6;exact hQ C'' f'' H'' a'' w'' (q1.trans p1) p2 p3 (q3.trans (by rw[<-q1.B];exact p4)) p5 p6
   unfold wpOp;rw[ho];simp only;rcases hstep o f H v H1 C a w d1 hw hf hex with⟨h1,h2,h3⟩|⟨h1,h2⟩
   .rw[if_neg (by rw[h1];simp)];subst h2 h3;exact next C _ w (.refl _) hw (.refl _ _) (hf.put o.dst (zaQ d1) VRel.undefV)
   .rw[if_pos h1];left;exact h2 _ _ next
def zM:PV->List Nat
 | .ptr id _ _=>[id]
 | .msl id _ _ _ _ _=>[id]
 | .mp id _=>[id]
 | _=>[]
def zeD(op:Op)(f:Nat->PV):List Nat:=(op.operands.toList.map λx=>zM (ev f x)).flatten
theorem ziM{op:Op}{f:Nat->PV}{x:Operand}{id:Nat}(hx:x∈op.operands.toList)(hi:id∈zM (ev f x)):id∈zeD op f:=List.mem_flatten.2 ⟨_,qV.2 ⟨x,hx,rfl⟩,hi⟩
def zaP:Op->Bool
 | .nilCheck .. | .fieldAddr .. | .indexAddr .. | .slice .. | .binOp .. =>true
 | .call { callee:=.builtin .len,.. }=>true
 | _=>false
variable {K:za}
def VEq(H K:za)(id:Nat):Prop:=(K[id]?).map Blk.ver=(H[id]?).map Blk.ver
theorem zeO{id:Nat}(h:VEq H K id)(ver:Nat):zbK K id ver=zbK H id ver:=by grind[VEq,zbK]
theorem zvQ{x:PV}(h:∀ id∈zM x,VEq H K id):ziq K x=ziq H x:=by cases x<;>simp only[ziq];grind[zeO,zM]
theorem zvS{op:BinOp}{t:TypeId}{x y:PV}(hx:∀ id∈zM x,VEq H K id)(hy:∀ id∈zM y,VEq H K id):zfZ P K op t x y=zfZ P H op t x y:=by unfold zfZ;grind[zeO,zM]
theorem zoF{op:BinOp}{t:TypeId}{x:PV}(hx:∀ id∈zM x,VEq H K id):zbO P K op t x=zbO P H op t x:=by unfold zbO;grind[zeO,zM]
theorem zqx{t:TypeId}{x:PV}{lo hi mx:Option PV}(hx:∀ id∈zM x,VEq H K id):zcQ P K t x lo hi mx=zcQ P H t x lo hi mx:=by unfold zcQ;grind[zeO,zM]
theorem zjG{s:TypeId}{x:PV}{f:Nat}(hx:∀ id∈zM x,VEq H K id):zav P K s x f=zav P H s x f:=by cases x<;>simp only[zav];grind[zeO,zM]
theorem zjD{t:TypeId}{x i:PV}(hx:∀ id∈zM x,VEq H K id):zau P K t x i=zau P H t x i:=by unfold zau;grind[zeO,zM]
theorem zvR{t:TypeId}{x:PV}(hx:∀ id∈zM x,VEq H K id):zgx P K t x=zgx P H t x:=by unfold zgx;grind[zeO,zM]
theorem zhy{sz:Nat}{x:PV}(hx:∀ id∈zM x,K[id]? =H[id]?):zaT K sz x=zaT H sz x:=by cases x<;>simp only[zaT];simp_all[zM]
theorem ztq{t:TypeId}{x:PV}(hx:∀ id∈zM x,K[id]? =H[id]?):zdF P K t x=zdF P H t x:=by cases x<;>simp only[zdF];simp_all[zM]
theorem ztt{s d:TypeId}{x:PV}(hx:∀ id∈zM x,K[id]? =H[id]?):zeC P K s d x=zeC P H s d x:=by
 unfold zeC;split<;>try rfl
 rw[zhy hx]
theorem ztp{t:TypeId}{m k:PV}{ok:Bool}(hx:∀ id∈zM m,K[id]? =H[id]?):zdE P K t m k ok=zdE P H t m k ok:=by
 have:zaL P K t m=zaL P H t m:=by unfold zaL;grind[zM]
 unfold zdE;rw[this]
theorem zf2{x:Option PV}{v:PV}{H':za}(h:(x.map λv=>(v,H))=some (v,H')):(x.map λv=>(v,K))=some (v,K):=by grind[qD,qM.injEq]
theorem zhG{f:Nat->PV}{op:Op}{v:PV}{H':za}(h:zaP op=true)(hi:∀ id∈zeD op f,VEq H K id)(hp:pop P op f H=some (v,H')):pop P op f K=some (v,K):=by
 have ids:∀ x∈op.operands.toList,∀ id∈zM (ev f x),VEq H K id:=λx hx id hid=>hi id (ziM hx hid);cases op<;>try(simp[zaP]at h;done)
 case nilCheck x=>simp only[pop]at hp |-;rw[zvQ (ids x (by simp[Op.operands]))];exact zf2 hp
 case fieldAddr s x k=>simp only[pop]at hp |-;rw[zjG (ids x (by simp[Op.operands]))];exact zf2 hp
 case indexAddr t x i=>simp only[pop]at hp |-;rw[zjD (ids x (by simp[Op.operands]))];exact zf2 hp
 case slice t x lo hi mx=>simp only[pop]at hp |-;rw[zqx (ids x (by simp[Op.operands]))];exact zf2 hp
 case binOp op t x y z=>
  simp only[pop]at hp |-;split at hp
  .rw[zoF (ids x (by simp[Op.operands]))];exact zf2 hp
  split at hp
  .exact zf2 hp
  .rw[zvS (ids x (by simp[Op.operands])) (ids y (by simp[Op.operands]))];exact zf2 hp
 case call c=>
  obtain⟨callee,args,ts⟩:=c;cases callee with
  | builtin b=>
   cases b<;>try(simp[zaP]at h;done)
   have key:∀(tl:List TypeId) (al:List PV),(∀ x∈al,∀ id∈zM x,VEq H K id)->zx P H .len tl al=some (v,H')->zx P K .len tl al=some (v,K):=λtl al hal hq=>by
    match tl,al,hq with
    | [t],[x],hq=>
     simp only[zx]at hq |-;rw[zvR (hal x sp)];exact zf2 hq
    | [],_,hq=>simp[zx]at hq
    | _::_::_,_,hq=>simp[zx]at hq
    | [_],[],hq=>simp[zx]at hq
    | [_],_::_::_,hq=>simp[zx]at hq
   simp only[pop]at hp |-;refine key _ _ (λx hx id hid=> ?_) hp;obtain⟨y,hy,rfl⟩:=qV.1 hx;exact ids y (by simp[Op.operands,Call.operands];exact qF.1 hy) id hid
  | _=>simp[zaP]at h
theorem zk0{f:Nat->PV}{op:Op}{v:PV}{H':za}(h:eff op=false)(hi:∀ id∈zeD op f,K[id]? =H[id]?)(hp:pop P op f H=some (v,H')):pop P op f K=some (v,K):=by
 have ids:∀ x∈op.operands.toList,∀ id∈zM (ev f x),K[id]? =H[id]? :=λx hx id hid=>hi id (ziM hx hid);cases hl:zaP op with
 | true=>exact zhG hl (λid hid=>by unfold VEq;rw[hi id hid]) hp
 | false=>
 cases hpu:zaZ op with
 | true=>exact(zaE hpu hp K).2
 | false=>
 cases op<;>try(simp[eff]at h;done)
 all_goals try(simp[zaP]at hl;done)
 all_goals try(simp[zaZ]at hpu;done)
 case load t x=>simp only[pop]at hp |-;rw[ztq (ids x (by simp[Op.operands]))];exact zf2 hp
 case convert s d x=>simp only[pop]at hp |-;rw[ztt (ids x (by simp[Op.operands]))];exact zf2 hp
 case lookup t m k ok=>simp only[pop]at hp |-;rw[ztp (ids m (by simp[Op.operands]))];exact zf2 hp
 case makeFunc fn x y=>cases fn<;>simp only[pop,qA.injEq,qM.injEq]at hp |-<;>first|exact⟨hp.1,trivial⟩|cases hp
 case call c=>
  obtain⟨callee,args,ts⟩:=c;cases callee with
  | builtin b=>
   simp only[eff]at h;simp only[pop]at hp |-;unfold zx at hp |-;split at hp
   .simp[zaP]at hl
   .simp[zpa]at h
   .simp[zpa]at h
   .exact zf2 hp
   .exact zf2 hp
   .cases hp
  | _=>simp only[pop]at hp;cases hp
 all_goals simp_all[pop]
structure Ag(ws rs:List Nat)(H K:za):Prop where
 len:K.length=H.length
 all:∀ i,i∉ws->K[i]? =H[i]?
 ver:∀ i,i∉rs->VEq H K i
theorem Ag.refl(ws rs:List Nat)(H:za):Ag ws rs H H:=⟨rfl,λ_ _=>rfl,λ_ _=>rfl⟩
theorem Ag.symm{ws rs:List Nat}{H K:za}(h:Ag ws rs H K):Ag ws rs K H:=⟨h.len.symm,λi hi=>(h.all i hi).symm,λi hi=>(h.ver i hi).symm⟩
theorem Ag.trans{ws rs:List Nat}{H K L:za}(h:Ag ws rs H K)(k:Ag ws rs K L):Ag ws rs H L:=⟨k.len.trans h.len,λi hi=>(k.all i hi).trans (h.all i hi),λi hi=>Eq.trans (k.ver i hi) (h.ver i hi)⟩
theorem Ag.set{ws rs:List Nat}{H:za}{id:Nat}{k b:Blk}(hk:H[id]? =some k)(hw:id∈ws)(hv:b.ver=k.ver\/id∈rs):Ag ws rs H (H.set id b):=by have hid:id<H.length:=(qE.1 hk).1;refine⟨by simp,λi hi=> ?_,λi hi=> ?_⟩;all_goals grind[qI,VEq,List.getElem?_set_self]
def rsv(rs:List (Nat×Nat))(d:Option Nat):Option Nat:=match d with
 | none=>none
 | some d=>match rs with
  | []=>none
  | (t,r)::l=>match qH t d with|true=>some r|false=>rsv l (some d)
def zmu(P:Program)(elem:TypeId)(r:Nat)(H:za):Option (PV×za):=match zaz P elem,H[r]? with
 | some z,some k=>if k.e=elem/\k.ver=0 then some (.ptr r 1 0,H.set r ⟨elem,1,z⟩)else none
 | _,_=>none
def zhA(rs:List (Nat×Nat))(o:Oper):Option (TypeId×Nat):=match o.op with
 | .alloc elem=>match rsv rs o.dst with|some r=>some (elem,r)|none=>none
 | _=>none
def zjB(P:Program)(rs:List (Nat×Nat))(o:Oper)(f:Nat->PV)(H:za):Option (PV×za):=match zhA rs o with
 | some (elem,r)=>zmu P elem r H
 | none=>pop P o.op f H
def zbT:Op->Bool
 | .store .. =>true
 | _=>false
def zoq(op:Op)(f:Nat->PV):Option Nat:=match op with
 | .store _ x _=>match ev f x with
  | .ptr id _ _=>some id
  | _=>none
 | _=>none
def znx(ids ws:List Nat):Bool:=ids.all λi=> !(ws.elem i)
def zlD(ws:List Nat)(rs:List (Nat×Nat))(o:Oper)(f:Nat->PV):Bool:=match zhA rs o with
 | some (_,r)=>ws.elem r&&(rs.map (·.2)).elem r
 | none=>match zbT o.op with
  | true=>match zoq o.op f with|some id=>ws.elem id|none=>false
  | false=>match zaZ o.op||eff o.op with
   | true=>true
   | false=>match zaP o.op with
    | true=>znx (zeD o.op f) (rs.map (·.2))
    | false=>znx (zeD o.op f) ws
def ExH(P:Program)(all:List Oper)(ws:List Nat)(rs:List (Nat×Nat))(o:Oper)(f:Nat->PV)(H:za)(v:PV)(H':za):Prop:=
 (zby all f o=some false/\v= .tup []/\H'=H)\/
 (zby all f o=some true/\match zn o.op f with
  | some (fn,args)=>H'=H/\∀ K,Ag ws (rs.map (·.2)) H K->CallOk P fn args K v K
  | none=>zjB P rs o f H=some (v,H')/\zlD ws rs o f=true)
def zwj(rs:List (Nat×Nat))(o:Oper):Bool:=zbT o.op||(zhA rs o).isSome
def zwk(rs:List (Nat×Nat))(o:Oper):Bool:= !eff o.op&& !(zhA rs o).isSome
theorem zkU{rs:List (Nat×Nat)}{o:Oper}{f:Nat->PV}{er:TypeId×Nat}(h:zhA rs o=some er):zn o.op f=none:=by
 unfold zhA at h;split at h
 .rename_i elem ho;rw[ho];rfl
 .cases h
theorem zjk{op:Op}{f:Nat->PV}(h:zbT op=true):zn op f=none:=by cases op<;>first|(simp[zbT]at h;done)|rfl
theorem zmg{rs:List (Nat×Nat)}{o:Oper}{f g:Nat->PV}(h:∀ x∈o.op.operands.toList,ev f x=ev g x):zjB P rs o f H=zjB P rs o g H:=by grind[zjB,zfV]
theorem zmV{ws:List Nat}{rs:List (Nat×Nat)}{o:Oper}{f g:Nat->PV}(h:∀ x∈o.op.operands.toList,ev f x=ev g x):zlD ws rs o f=zlD ws rs o g:=by
 have e1:zeD o.op f=zeD o.op g:=by unfold zeD;congr 1;simp_all
 have e2:zoq o.op f=zoq o.op g:=by
  unfold zoq;split
  .rename_i t x y ho;rw[ho]at h;rw[h x (by simp[Op.operands])]
  .rfl
 unfold zlD;rw[e1,e2]
theorem ExH.congr{all:List Oper}{ws:List Nat}{rs:List (Nat×Nat)}{o:Oper}{f g:Nat->PV}{v:PV}{H':za}(h:∀ t∈ziG (all.map (·.dst)) o,f t=g t)(he:ExH P all ws rs o f H v H'):ExH P all ws rs o g H v H':=by have e1:zby all f o=zby all g o:=zdd λt ht=>h t (jB.2 (.inr ht));have e2:∀ x∈o.op.operands.toList,ev f x=ev g x:=λx hx=>zfs λt ht=>h t (jB.2 (.inl (zff (ht▸hx))));grind[ExH,zbP,zmg,zmV]
theorem zlf{ids ws:List Nat}(h:znx ids ws=true):∀ i∈ids,i∉ws:=λi hi hw=>by have:=qT.1 h i hi;simp_all
theorem ExH.move{all:List Oper}{ws:List Nat}{rs:List (Nat×Nat)}{o:Oper}{f:Nat->PV}{v:PV}{H' K:za}(hr:zwk rs o=true\/zaZ o.op=true)(he:ExH P all ws rs o f H v H'):H'=H/\(Ag ws (rs.map (·.2)) H K->ExH P all ws rs o f K v K):=by
 have hres:zhA rs o=none:=by
  rcases hr with hr|hr
  .simp_all[zwk,qB,qK,zhA,none]
  grind[zhA,zaZ]
 rcases he with⟨h1,h2,h3⟩|⟨h1,h2⟩
 .exact⟨h3,λ_=>.inl ⟨h1,h2,rfl⟩⟩
 .split at h2
  .rename_i fn args hc;exact⟨h2.1,λha=>.inr ⟨h1,by rw[hc];exact⟨rfl,λL hL=>h2.2 L (ha.trans hL)⟩⟩⟩
  .rename_i hc;obtain⟨hp,hk⟩:=h2;have hpp:pop P o.op f H=some (v,H'):=by simp_all[zjB]
   have heff:eff o.op=false\/zaZ o.op=true:=by simp_all[zwk,qB,qK]
   have hH:H'=H:=by
    rcases heff with h|h
    .exact zc2 h hpp
    .exact(zaE h hpp H).1
   refine⟨hH,λha=>.inr ⟨h1,?_⟩⟩;rw[hc];refine⟨?_,hk⟩;unfold zjB;rw[hres];cases hpu:zaZ o.op with
   | true=>exact(zaE hpu hpp K).2
   | false=>
    have he':eff o.op=false:=by simp_all
    have hst:zbT o.op=false:=by
     cases hs:zbT o.op with
     | false=>rfl
     | true=>cases ho:o.op<;>rw[ho]at hs he'<;>simp[zbT,eff]at hs he'
    unfold zlD at hk;rw[hres,hst,hpu,he']at hk;simp only[Bool.or_self]at hk;cases hl:zaP o.op with
    | true=>
     rw[hl]at hk;exact zhG hl (λid hid=>ha.ver id (zlf hk id hid)) hpp
    | false=>rw[hl]at hk;exact zk0 he' (λid hid=>ha.all id (zlf hk id hid)) hpp
theorem ExH.write{all:List Oper}{ws:List Nat}{rs:List (Nat×Nat)}{o:Oper}{f:Nat->PV}{v:PV}{H':za}(hr:zwj rs o=true)(he:ExH P all ws rs o f H v H'):Ag ws (rs.map (·.2)) H H':=by
 rcases he with⟨_,_,h3⟩|⟨_,h2⟩
 .rw[h3];exact .refl _ _ _
 .have hc:zn o.op f=none:=by
   simp only[zwj,qP]at hr;rcases hr with hr|hr
   .exact zjk hr
   .obtain⟨er,her⟩:=Option.isSome_iff_exists.1 hr;exact zkU her
  rw[hc]at h2;obtain⟨hp,hk⟩:=h2;unfold zjB at hp;unfold zlD at hk;cases hres:zhA rs o with
  | some er=>
   obtain⟨elem,r⟩:=er;rw[hres]at hp hk;simp only[qB]at hk;simp only[zmu]at hp;split at hp
   .rename_i z k hz hkk;split at hp
    .rename_i hq;simp only[qA.injEq,qM.injEq]at hp;rw[<-hp.2];exact .set hkk (by have:=hk.1;rw[qZ]at this;simpa using this) (.inr (by have:=hk.2;rw[qZ]at this;simpa using this))
    .cases hp
   .cases hp
  | none=>
   rw[hres]at hp hk;have hs:zbT o.op=true:=by simp_all[zwj,qP]
   rw[hs]at hk;simp only at hk hp;cases ho:o.op<;>rw[ho]at hs hk hp<;>try(simp[zbT]at hs;done)
   rename_i t x y;simp only[zoq]at hk;simp only[pop,qD,qM.injEq]at hp;obtain⟨H2,h1,_,rfl⟩:=hp;unfold zdl at h1;split at h1
   .rename_i id ver off hx;rw[hx]at hk;simp only at hk;split at h1
    .rename_i k hkk;split at h1
     .simp only[qD]at h1;obtain⟨c,_,rfl⟩:=h1;exact .set hkk (by rw[qZ]at hk;simpa using hk) (.inl rfl)
     .cases h1
    .cases h1
   .cases h1
def stpH(P:Program)(ws:List Nat)(rs:List (Nat×Nat))(ds:List (Option Nat))(o:Oper)(F:Fr)(H:za):Option (Fr×za):=
 match zam ds F o with
 | none=>none
 | some b=>cond b (match zlD ws rs o (slot F)with
  | true=>(match zjB P rs o (slot F) H with|some (v,H')=>some (put F o.dst v,H')|none=>none)
  | false=>none) (some (put F o.dst (.tup []),H))
def VCk(P:Program)(ws:List Nat)(rs:List (Nat×Nat))(o:Oper)(F:Fr)(H:za)(K:Fr->za->Prop):Prop:=
 match zn o.op (slot F)with
 | some (g,args)=>∃ v,(∀ L,Ag ws (rs.map (·.2)) H L->CallOk P g args L v L)/\K (put F o.dst v) H
 | none=>False
def VCh(P:Program)(ws:List Nat)(rs:List (Nat×Nat))(ds:List (Option Nat))(o:Oper)(F:Fr)(H:za)(K:Fr->za->Prop):Prop:=
 match zam ds F o with
 | none=>False
 | some b=>(b=true->VCk P ws rs o F H K)/\(b=false->K (put F o.dst (.tup [])) H)
theorem Vs.place{E:Env}(e:Nat):Vs E F H F (H++[⟨e,0,[]⟩]):=λ_ C a w hw hf=>by obtain⟨g1,g2⟩:=hw.ghost e 0;exact⟨_,g1.toN _,g2,hf.mono g1⟩
theorem zt3{i j:Nat}{l:List Nat}(h:i≠j):(j::l).elem i=l.elem i:=by simp_all
theorem zr6(i:Nat)(l:List Nat):(i::l).elem i=true:=by simp
theorem zo9(i:Nat):([]:List Nat).elem i=false:=rfl
end Go.Proofs.YtdajpjenhcobkaaGreatDoor.Pm
namespace Go.Proofs.YtdajpjenhcobkaaGreatDoor.Pm
open Go.RowKit
variable {P:Program} {H:za} {F:Fr}
section rules
variable {E:Env} {Q:Exit->Fr->za->Prop}
theorem PWr.rg{l id:Nat}{ops:Array Oper}(hd:ops.toList.all (zU E.N)=true)(hn:ops.toList.all zbQ=true)(lo:∀ F H,¬ Q .outgrown F H)(h:∀ K:Fr->za->Prop,(∀ F' H',Q .normal F' H'->K F' H')->VO P (ops.toList.map (·.dst)) ops.toList (some (F,H)) K):
  PWr P E l (.region id ops false) F H Q:=PWr.region hd hn lo (zaS _ _ _ (h _ λ_ _ h=>h))
theorem PWr.at{l:Nat}{c:Code}{F2:Fr}{H2:za}(ks:List Nat)(h:PWr P E l c F2 H2 Q)(hF:kp ks F=F2)(hH:H=H2):PWr P E l c F H Q:=PWr.keep ks (by rw[hF,hH];exact h)
theorem PWr.mono{l:Nat}{c:Code}{Q':Exit->Fr->za->Prop}(h:PWr P E l c F H Q)(hq:∀ e F H,Q e F H->Q' e F H):PWr P E l c F H Q':=λhs C a w hd hw hf=>wpIn_mono (h hs C a w hd hw hf) λ_ _ _ ⟨C',F',H',q1,q2,q3,q4,q5,q6⟩=>⟨C',F',H',q1,q2,q3,q4,q5,hq _ _ _ q6⟩
end rules
section rules
variable {E:Env} {D:List Deferred} {Q:Exit->List Deferred->Fr->za->Prop}
theorem PWM.rg{id:Nat}{ops:Array Oper}(hd:ops.toList.all (zU E.N)=true)(hn:ops.toList.all zbQ=true)(h:∀ K:Fr->za->Prop,(∀ F' H',Q .normal D F' H'->K F' H')->VO P (ops.toList.map (·.dst)) ops.toList (some (F,H)) K):
  PWM P E (.region id ops false) D F H Q:=PWM.region hd hn (zaS _ _ _ (h _ λ_ _ h=>h))
theorem PWM.at{c:Code}{F2:Fr}{H2:za}(ks:List Nat)(h:PWM P E c D F2 H2 Q)(hF:kp ks F=F2)(hH:H=H2):PWM P E c D F H Q:=PWM.keep ks (by rw[hF,hH];exact h)
theorem PWM.view{c:Code}{F2:Fr}{H2:za}(hv:Vs E F H F2 H2)(h:PWM P E c D F2 H2 Q):PWM P E c D F H Q:=λhs C a w hd hw hf=>by obtain⟨C2,g1,g2,g3⟩:=hv hs C a w hw hf;exact wpIn_mono (h hs C2 a w hd g2 g3) λ_ _ _ hp=>hp.trans g1 (.refl _ _)
end rules
end Go.Proofs.YtdajpjenhcobkaaGreatDoor.Pm
