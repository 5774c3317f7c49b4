/-
  Parts of the proof, put together in one text. No condition.
-/
import Derived.Test.YtjgmdlcjbgiekaaGreatDoorQ10
import Derived.Orders
namespace Go.Proofs.YtjgmdlcjbgiekaaGreatDoor.Pm
set_option linter.all false
open Go.RowKit
variable {P:Program} {C:Ctx} {H:za} {w:World} {F:Fr} {a:Act} {N:Nat}
def znS (xs:List Operand):List Nat:=xs.filterMap fun| .tmp t=>some t|_=>none
def zpX (ds:List (Option Nat)) (o:Oper):List Nat:=match o.guard with|none=>[]|some (j,_)=>match ds[j]? with|some (some d)=>[d]|_=>[]
def zhA (ds:List (Option Nat)) (o:Oper):List Nat:=znS o.op.operands.toList++zpX ds o
def zli:Builtin→Bool
 | .len| .min| .max=>false
 | _=>true
def eff:Op→Bool
 | .box .. | .alloc .. | .store .. | .makeSlice .. | .makeMap .. | .mapUpdate .. | .insert .. =>true
 | .call { callee:=.builtin b,.. }=>zli b
 | _=>false
def zaF:BinOp→Bool
 | .add| .sub=>true
 | _=>false
def zaL:Op→Bool
 | .move _| .assign _| .pick .. | .build .. | .buildSlice .. | .unOp .. | .field .. | .index .. | .extract .. =>true
 | .binOp op _ _ y _=>zaF op&& !zcV y
 | _=>false
def zan:Op→Bool
 | .call { callee:=.value (.func _),args,.. }=>args.toList.isEmpty
 | _=>false
def clear (ds:List (Option Nat)) (x y:Oper):Bool:=match x.dst with
 | none=>true
 | some d=> !((zhA ds y).elem d)&& !(y.dst==some d)
def zpW:Op→Bool
 | .alloc .. | .box .. | .makeSlice .. | .makeMap .. =>true
 | _=>false
def zfi (ds:List (Option Nat)) (x y:Oper) (g:Bool:=false):Bool:=clear ds x y&&clear ds y x&&((!eff x.op&& !eff y.op)||(zaL x.op||zan x.op)||(zaL y.op||zan y.op)||(g&&(!eff x.op&&zpW y.op)))
theorem zeB {f g:Nat→PV} {x:Operand} (h:∀ t,x= .tmp t→f t=g t):ev f x=ev g x:=by
 cases x<;>simp only [ev]
 exact h _ rfl
theorem zdM {f g:Nat→PV} {xs:List Operand} (h:∀ x∈xs,ev f x=ev g x):xs.map (ev f)=xs.map (ev g):=List.map_congr_left h
theorem ze0 {f g:Nat→PV} {op:Op} (h:∀ x∈op.operands.toList,ev f x=ev g x):pop P op f H=pop P op g H:=by
 cases op
 case build t ps=>
  have:ps.toList.map (fun p=>(p.1,ev f p.2))=ps.toList.map (fun p=>(p.1,ev g p.2)):=List.map_congr_left fun p hp=>by rw [h p.2 (by simp [Op.operands];exact ⟨_,Array.mem_toList_iff.1 hp⟩)]
  simp only [pop,this]
 case buildSlice t n ps=>
  have:ps.toList.map (fun p=>(p.1,ev f p.2))=ps.toList.map (fun p=>(p.1,ev g p.2)):=List.map_congr_left fun p hp=>by rw [h p.2 (by simp [Op.operands];exact ⟨_,Array.mem_toList_iff.1 hp⟩)]
  simp only [pop,this]
 case slice t x l hh m=>
  have e1:ev f x=ev g x:=h x (by simp [Op.operands])
  have e2:l.map (ev f)=l.map (ev g):=by cases l with|none=>rfl|some y=>simp [h y (by simp [Op.operands])]
  have e3:hh.map (ev f)=hh.map (ev g):=by cases hh with|none=>rfl|some y=>simp [h y (by simp [Op.operands])]
  have e4:m.map (ev f)=m.map (ev g):=by cases m with|none=>rfl|some y=>simp [h y (by simp [Op.operands])]
  simp only [pop,e1,e2,e3,e4]
 case makeFunc fn a b=>
  have e1:a.toList.map (ev f)=a.toList.map (ev g):=zdM fun x hx=>h x (by simp [Op.operands];exact .inl (Array.mem_toList_iff.1 hx))
  have e2:b.toList.map (ev f)=b.toList.map (ev g):=zdM fun x hx=>h x (by simp [Op.operands];exact .inr (Array.mem_toList_iff.1 hx))
  cases fn<;>simp only [pop,e1,e2]
 case call c=>
  obtain ⟨callee,args,ts⟩:=c
  have e1:args.toList.map (ev f)=args.toList.map (ev g):=zdM fun x hx=>h x (by simp [Op.operands,Call.operands];exact .inr (Array.mem_toList_iff.1 hx))
  cases callee<;>simp only [pop,e1]
 case makeMap t r=>cases r<;>simp only [pop]
 all_goals simp only [pop]
 all_goals simp only [Op.operands,List.mem_cons,List.not_mem_nil,or_false,forall_eq_or_imp,forall_eq] at h
 all_goals simp only [h]
theorem zbv {f g:Nat→PV} {op:Op} (h:∀ x∈op.operands.toList,ev f x=ev g x):zr op f=zr op g:=by
 unfold zr
 split
 ·rename_i fn args ts
  have e1:ev f fn=ev g fn:=h fn (by simp [Op.operands,Call.operands])
  have e2:args.toList.map (ev f)=args.toList.map (ev g):=zdM fun x hx=>h x (by simp [Op.operands,Call.operands];exact .inr (Array.mem_toList_iff.1 hx))
  rw [e1,e2]
 ·rfl
theorem zcz {f:Nat→PV} {op:Op} {v:PV} {H':za} (h:eff op=false) (hp:pop P op f H=some (v,H')):H'=H:=by
 unfold pop at hp
 split at hp<;>first
  | (simp only [Option.some.injEq,Prod.mk.injEq] at hp;exact hp.2.symm)
  | (simp only [Option.map_eq_some_iff,Prod.mk.injEq] at hp;obtain ⟨_,_,_,h2⟩:=hp;exact h2.symm)
  | (simp [eff] at h;done)
  | skip
 ·split at hp<;>simp at hp<;>exact hp.2.symm
 ·split at hp
  ·simp only [Option.map_eq_some_iff,Prod.mk.injEq] at hp;obtain ⟨_,_,_,h2⟩:=hp;exact h2.symm
  ·split at hp<;>(simp only [Option.map_eq_some_iff,Prod.mk.injEq] at hp;obtain ⟨_,_,_,h2⟩:=hp;exact h2.symm)
 ·split at hp
  ·simp only [Option.map_eq_some_iff,Prod.mk.injEq] at hp;obtain ⟨_,_,_,h2⟩:=hp;exact h2.symm
  ·cases hp
 ·rename_i b args ts
  simp only [eff] at h
  unfold zy at hp
  split at hp<;>first
   | (simp only [Option.map_eq_some_iff,Prod.mk.injEq] at hp;obtain ⟨_,_,_,h2⟩:=hp;exact h2.symm)
   | (simp [zli] at h;done)
   | (cases hp;done)
 ·cases hp
theorem zkW {op:BinOp} {t:TypeId} {x y v:PV} (ha:zaF op=true) (h:ze5 P H op t x y=some v) (K:za):ze5 P K op t x y=some v:=by
 unfold ze5 at h ⊢
 split at h<;>try (exact h)
 ·split at h
  ·cases op<;>first|(cases ha;done)|(cases h;done)
  ·cases h
 ·split at h
  ·cases op<;>first|(cases ha;done)|(cases h;done)
  ·cases h
theorem zao {f:Nat→PV} {op:Op} {v:PV} {H':za} (h:zaL op=true) (hp:pop P op f H=some (v,H')) (K:za):H'=H∧pop P op f K=some (v,K):=by
 cases op<;>simp only [zaL,Bool.false_eq_true] at h<;>simp only [pop] at hp ⊢
 case move=>simp at hp ⊢;exact ⟨hp.2.symm,hp.1⟩
 case assign=>simp at hp ⊢;exact ⟨hp.2.symm,hp.1⟩
 case pick=>
  split at hp<;>simp at hp ⊢
  ·exact ⟨hp.2.symm,hp.1⟩
  ·exact ⟨hp.2.symm,hp.1⟩
 case extract=>
  split at hp
  ·simp only [Option.map_eq_some_iff,Prod.mk.injEq] at hp ⊢
   obtain ⟨u,h1,h2,h3⟩:=hp
   exact ⟨h3.symm,u,h1,h2,trivial⟩
  ·cases hp
 case binOp op t x y r=>
  rw [Bool.and_eq_true] at h
  have hn:zcV y=false:=by simpa using h.2
  simp only [hn] at hp ⊢
  split at hp
  ·simp only [Option.map_eq_some_iff,Prod.mk.injEq] at hp ⊢
   obtain ⟨u,h1,h2,h3⟩:=hp
   exact ⟨h3.symm,u,h1,h2,trivial⟩
  ·rename_i hne
   simp only [Option.map_eq_some_iff,Prod.mk.injEq] at hp ⊢
   obtain ⟨u,h1,h2,h3⟩:=hp
   exact ⟨h3.symm,u,zkW h.1 h1 K,h2,trivial⟩
 all_goals
  simp only [Option.map_eq_some_iff,Prod.mk.injEq] at hp ⊢
  obtain ⟨u,h1,h2,h3⟩:=hp
  exact ⟨h3.symm,u,h1,h2,trivial⟩
theorem zY {K:za} {id:Nat} {k:Blk} (h:H[id]? =some k):(H++K)[id]? =some k:=by rw [List.getElem?_append_left (List.getElem?_eq_some_iff.1 h).1];exact h
theorem zaZ (K:za) {id ver:Nat} (h:zbd H id ver=true):zbd (H++K) id ver=true:=by
 unfold zbd at h ⊢
 cases hk:H[id]? with
 | none=>rw [hk] at h;cases h
 | some k=>rw [hk] at h;rw [zY hk];exact h
theorem zkz (K:za) {sz:Nat} {x:PV} {c:List PV×Nat} (h:zaI H sz x=some c):zaI (H++K) sz x=some c:=by
 cases x<;>simp only [zaI] at h ⊢<;>try (exact h)
 case msl id ver off len s g=>
  cases hk:H[id]? with
  | none=>rw [hk] at h;cases h
  | some k=>rw [hk] at h;rw [zY hk];exact h
theorem zna (K:za) {t:TypeId} {x v:PV} (h:zc8 P H t x=some v):zc8 P (H++K) t x=some v:=by
 cases x<;>simp only [zc8] at h ⊢<;>try (exact h)
 case ptr id ver off=>
  cases hk:H[id]? with
  | none=>rw [hk] at h;cases h
  | some k=>rw [hk] at h;rw [zY hk];exact h
theorem zo3 (K:za) {x v:PV} (h:zhg H x=some v):zhg (H++K) x=some v:=by
 cases x<;>simp only [zhg] at h ⊢<;>try (exact h)
 case ptr id ver off=>
  cases hl:zbd H id ver with
  | false=>rw [hl] at h;cases h
  | true=>rw [hl] at h;rw [zaZ K hl];exact h
theorem zph (K:za) {op:BinOp} {t:TypeId} {x y v:PV} (h:ze5 P H op t x y=some v):ze5 P (H++K) op t x y=some v:=by
 unfold ze5 at h ⊢
 split at h<;>try (exact h)
 ·rename_i id ver off
  cases hl:zbd H id ver with
  | false=>rw [hl,Bool.and_false] at h;cases h
  | true=>rw [hl] at h;simp only [zaZ K hl];exact h
 ·rename_i id ver off
  cases hl:zbd H id ver with
  | false=>rw [hl,Bool.and_false] at h;cases h
  | true=>rw [hl] at h;simp only [zaZ K hl];exact h
theorem zjw (K:za) {op:BinOp} {t:TypeId} {x v:PV} (h:zbu P H op t x=some v):zbu P (H++K) op t x=some v:=by
 unfold zbu at h ⊢
 split at h<;>try (exact h)
 split at h<;>try (exact h)
 split at h
 ·rename_i hn
  rw [if_pos ⟨hn.1,zaZ K hn.2⟩];exact h
 ·cases h
theorem zng (K:za) {s d:TypeId} {x v:PV} (h:zdT P H s d x=some v):zdT P (H++K) s d x=some v:=by
 unfold zdT at h ⊢
 split at h<;>try (exact h)
 split at h<;>try (exact h)
 simp only [Option.bind_eq_some_iff] at h ⊢
 obtain ⟨c,h1,h2⟩:=h
 exact ⟨c,zkz K h1,h2⟩
theorem zkI (K:za) {t:TypeId} {x v:PV} {lo hi mx:Option PV} (h:zcr P H t x lo hi mx=some v):zcr P (H++K) t x lo hi mx=some v:=by
 unfold zcr at h ⊢
 split at h<;>try (exact h)
 ·rename_i e id ver off len sz g hu
  cases hl:zbd H id ver with
  | false=>rw [hl] at h;split at h<;>first|(rename_i h9;cases h9;done)|cases h
  | true=>rw [hl] at h;simp only [zaZ K hl];exact h
 ·rename_i len e id ver off hu
  cases hl:zbd H id ver with
  | false=>rw [hl] at h;split at h<;>first|(rename_i h9;cases h9;done)|cases h
  | true=>rw [hl] at h;simp only [zaZ K hl];exact h
theorem zgE (K:za) {s:TypeId} {x v:PV} {f:Nat} (h:zai P H s x f=some v):zai P (H++K) s x f=some v:=by
 cases x<;>simp only [zai] at h ⊢<;>try (exact h)
 case ptr id ver off=>
  cases hl:zbd H id ver with
  | false=>rw [hl] at h;repeat' split at h<;>first|(cases h;done)|skip
  | true=>rw [hl] at h;simp only [zaZ K hl];exact h
theorem zgC (K:za) {t:TypeId} {x i v:PV} (h:zah P H t x i=some v):zah P (H++K) t x i=some v:=by
 unfold zah at h ⊢
 split at h<;>try (exact h)
 ·rename_i e id ver off len sz g k i hu
  cases hl:zbd H id ver with
  | false=>rw [hl] at h;split at h<;>first|(rename_i h9;cases h9;done)|cases h
  | true=>rw [hl] at h;simp only [zaZ K hl];exact h
 ·rename_i len e id ver off k i hu
  cases hl:zbd H id ver with
  | false=>rw [hl] at h;split at h<;>first|(rename_i h9;cases h9;done)|cases h
  | true=>rw [hl] at h;simp only [zaZ K hl];exact h
theorem zm9 (K:za) {t:TypeId} {m k v:PV} {ok:Bool} (h:zc7 P H t m k ok=some v):zc7 P (H++K) t m k ok=some v:=by
 unfold zc7 at h ⊢
 have key:∀ r,zap P H t m=some r→zap P (H++K) t m=some r:=fun r hr=>by
  unfold zap at hr ⊢
  split at hr
  ·rename_i kt e id ver hu
   split at hr
   ·rename_i d b hs hb
    simp only [hs,zY hb]
    exact hr
   ·cases hr
  ·cases hr
 cases hm:zap P H t m with
 | none=>rw [hm] at h;cases h
 | some r=>rw [hm] at h;rw [key r hm];exact h
theorem zo5 (K:za) {t:TypeId} {x v:PV} (h:ze1 P H t x=some v):ze1 P (H++K) t x=some v:=by
 unfold ze1 at h ⊢
 split at h<;>try (exact h)
 ·rename_i e id ver off n sz g hu
  cases hl:zbd H id ver with
  | false=>rw [hl] at h;cases h
  | true=>rw [hl] at h;simp only [zaZ K hl];exact h
theorem zaQ (K:za) {a b:Option PV} {v:PV} {H':za} (h:(a.map fun v=>(v,H))=some (v,H')) (hab:∀ v,a=some v→b=some v):(b.map fun v=>(v,H++K))=some (v,H++K):=by
 simp only [Option.map_eq_some_iff,Prod.mk.injEq] at h ⊢
 obtain ⟨u,h1,h2,_⟩:=h
 exact ⟨u,hab u h1,h2,trivial⟩
theorem zrB (K:za) {f:Nat→PV} {op:Op} {v:PV} {H':za} (h:eff op=false) (hp:pop P op f H=some (v,H')):pop P op f (H++K)=some (v,H++K):=by
 cases op<;>try (simp [eff] at h;done)
 case move=>simp only [pop,Option.some.injEq,Prod.mk.injEq] at hp ⊢;exact ⟨hp.1,trivial⟩
 case assign=>simp only [pop,Option.some.injEq,Prod.mk.injEq] at hp ⊢;exact ⟨hp.1,trivial⟩
 case pick=>exact (zao (by rfl) hp (H++K)).2
 case build=>exact (zao (by rfl) hp (H++K)).2
 case buildSlice=>exact (zao (by rfl) hp (H++K)).2
 case unOp=>exact (zao (by rfl) hp (H++K)).2
 case field=>exact (zao (by rfl) hp (H++K)).2
 case index=>exact (zao (by rfl) hp (H++K)).2
 case extract=>exact (zao (by rfl) hp (H++K)).2
 case load=>simp only [pop] at hp ⊢;exact zaQ K hp fun v h=>zna K h
 case nilCheck=>simp only [pop] at hp ⊢;exact zaQ K hp fun v h=>zo3 K h
 case binOp=>
  simp only [pop] at hp ⊢
  split at hp
  ·exact zaQ K hp fun v h=>zjw K h
  split at hp
  ·exact zaQ K hp fun v h=>h
  ·exact zaQ K hp fun v h=>zph K h
 case convert=>simp only [pop] at hp ⊢;exact zaQ K hp fun v h=>zng K h
 case makeFunc fn a b=>cases fn<;>simp only [pop,Option.some.injEq,Prod.mk.injEq] at hp ⊢<;>first|exact ⟨hp.1,trivial⟩|cases hp
 case slice=>simp only [pop] at hp ⊢;exact zaQ K hp fun v h=>zkI K h
 case fieldAddr=>simp only [pop] at hp ⊢;exact zaQ K hp fun v h=>zgE K h
 case indexAddr=>simp only [pop] at hp ⊢;exact zaQ K hp fun v h=>zgC K h
 case lookup=>simp only [pop] at hp ⊢;exact zaQ K hp fun v h=>zm9 K h
 case call c=>
  obtain ⟨callee,args,ts⟩:=c
  cases callee with
  | builtin b=>
   simp only [pop] at hp ⊢
   simp only [eff] at h
   unfold zy at hp ⊢
   split at hp
   ·exact zaQ K hp fun v h=>zo5 K h
   ·simp [zli] at h
   ·simp [zli] at h
   ·exact zaQ K hp fun v h=>h
   ·exact zaQ K hp fun v h=>h
   ·cases hp
  | _=>simp only [pop] at hp;cases hp
 all_goals (simp only [pop] at hp;cases hp)
theorem zo1 {f:Nat→PV} {op:Op} {v:PV} {H':za} (h:zpW op=true) (hp:pop P op f H=some (v,H')):∃ K,H'=H++K:=by
 cases op<;>try (simp [zpW] at h;done)
 case alloc=>simp only [pop,Option.map_eq_some_iff,Prod.mk.injEq] at hp;obtain ⟨z,_,_,h2⟩:=hp;exact ⟨_,h2.symm⟩
 case box=>
  simp only [pop] at hp
  split at hp
  ·simp only [Option.some.injEq,Prod.mk.injEq] at hp;exact ⟨_,hp.2.symm⟩
  ·cases hp
 case makeSlice=>
  simp only [pop,zjA] at hp
  split at hp
  ·split at hp
   ·split at hp
    ·simp only [Option.some.injEq,Prod.mk.injEq] at hp;exact ⟨_,hp.2.symm⟩
    ·cases hp
   ·cases hp
  ·cases hp
 case makeMap t r=>
  cases r with
  | none=>simp only [pop,Option.some.injEq,Prod.mk.injEq] at hp;exact ⟨_,hp.2.symm⟩
  | some _=>simp only [pop] at hp;cases hp
theorem zjW {f:Nat→PV} {op:Op} (h:zpW op=true):zr op f=none:=by
 unfold zr
 split
 ·simp [zpW] at h
 ·rfl
def Ex (P:Program) (all:List Oper) (g:Bool) (o:Oper) (f:Nat→PV) (H:za) (v:PV) (H':za):Prop:=
 (za7 all f o=some false∧v= .tup []∧H'=H)∨
 (za7 all f o=some true∧match zr o.op f with|some (fn,args)=>H'=H∧CallOk P fn args H v H∧(zan o.op=true→∀ K,CallOk P fn args K v K)∧(g=true→∀ K,CallOk P fn args (H++K) v (H++K))|none=>pop P o.op f H=some (v,H'))
def Run (P:Program) (all:List Oper) (g:Bool):List Oper→(Nat→PV)→za→((Nat→PV)→za→Prop)→Prop
 | [],f,H,K=>K f H
 | o::r,f,H,K=>∃ v H',Ex P all g o f H v H'∧Run P all g r (upd f o.dst v) H' K
theorem zb0 {f:Nat→PV} {d:Option Nat} {v:PV} {t:Nat} (h:d≠some t):upd f d v t=f t:=by
 cases d with
 | none=>rfl
 | some d=>simp only [upd];rw [if_neg (fun e=>h (by rw [e]))]
theorem zgd {f:Nat→PV} {d e:Option Nat} {u v:PV} (h:∀ t,d=some t→e≠some t):upd (upd f d u) e v=upd (upd f e v) d u:=by
 cases d with
 | none=>rfl
 | some d=>
  cases e with
  | none=>rfl
  | some e=>
   have hne:e≠d:=fun he=>h d rfl (by rw [he])
   funext t
   simp only [upd]
   by_cases h1:d=t<;>by_cases h2:e=t<;>simp_all
theorem zeq {xs:List Operand} {t:Nat} (h: .tmp t∈xs):t∈znS xs:=List.mem_filterMap.2 ⟨_,h,rfl⟩
theorem zcL {all:List Oper} {f g:Nat→PV} {o:Oper} (h:∀ t∈zpX (all.map (·.dst)) o,f t=g t):za7 all f o=za7 all g o:=by
 unfold za7
 unfold zpX at h
 cases hg:o.guard with
 | none=>rfl
 | some jb=>
  obtain ⟨j,b⟩:=jb
  simp only [hg] at h ⊢
  cases hj:all[j]? with
  | none=>rfl
  | some x=>
   cases hd:x.dst with
   | none=>simp [hd]
   | some d=>
    have:=h d (by simp [hj,hd])
    simp [hd,this]
theorem Ex.congr {all:List Oper} {b:Bool} {o:Oper} {f g:Nat→PV} {v:PV} {H':za} (h:∀ t∈zhA (all.map (·.dst)) o,f t=g t) (he:Ex P all b o f H v H'):Ex P all b o g H v H':=by
 have e1:za7 all f o=za7 all g o:=zcL fun t ht=>h t (List.mem_append.2 (.inr ht))
 have e2:∀ x∈o.op.operands.toList,ev f x=ev g x:=fun x hx=>zeB fun t ht=>h t (List.mem_append.2 (.inl (zeq (ht▸hx))))
 unfold Ex at he ⊢
 rw [←e1,←zbv e2,←ze0 e2]
 exact he
theorem Ex.noeff {all:List Oper} {g:Bool} {o:Oper} {f:Nat→PV} {v:PV} {H':za} (h:eff o.op=false) (he:Ex P all g o f H v H'):H'=H:=by
 rcases he with ⟨_,_,he⟩|⟨_,he⟩
 ·exact he
 ·split at he
  ·exact he.1
  ·exact zcz h he
theorem Ex.pure {all:List Oper} {g:Bool} {o:Oper} {f:Nat→PV} {v:PV} {H':za} (h:zaL o.op=true∨zan o.op=true) (he:Ex P all g o f H v H') (K:za):H'=H∧Ex P all g o f K v K:=by
 rcases h with h|h
 rotate_left
 ·rcases he with ⟨h1,h2,h3⟩|⟨h1,h2⟩
  ·exact ⟨h3,.inl ⟨h1,h2,rfl⟩⟩
  ·have hc:∃ fn args,zr o.op f=some (fn,args):=by
    unfold zan at h
    split at h
    ·rename_i g args ts ho;rw [ho];exact ⟨_,_,rfl⟩
    ·cases h
   obtain ⟨fn,args,hc⟩:=hc
   simp only [hc] at h2
   exact ⟨h2.1,.inr ⟨h1,by rw [hc];exact ⟨rfl,h2.2.2.1 h K,h2.2.2.1,fun _ K'=>h2.2.2.1 h (K++K')⟩⟩⟩
 have hc:zr o.op f=none:=by
  unfold zr
  split
  ·rename_i ho;rw [ho] at h;simp [zaL] at h
  ·rfl
 rcases he with ⟨h1,h2,h3⟩|⟨h1,h2⟩
 ·exact ⟨h3,.inl ⟨h1,h2,rfl⟩⟩
 ·rw [hc] at h2
  obtain ⟨h3,h4⟩:=zao h h2 K
  exact ⟨h3,.inr ⟨h1,by rw [hc];exact h4⟩⟩
theorem za4 {ds:List (Option Nat)} {x y:Oper} (h:clear ds x y=true):∀ t∈zhA ds y,x.dst≠some t:=fun t ht he=>by
 unfold clear at h
 rw [he] at h
 simp only [Bool.and_eq_true,Bool.not_eq_true'] at h
 have:=h.1
 rw [List.elem_eq_mem,decide_eq_false_iff_not] at this
 exact this ht
theorem zfj {ds:List (Option Nat)} {x y:Oper} (h:clear ds x y=true):∀ t,x.dst=some t→y.dst≠some t:=fun t he hy=>by
 unfold clear at h
 rw [he] at h
 simp only [Bool.and_eq_true,Bool.not_eq_true'] at h
 have:=h.2
 rw [hy] at this
 simp at this
theorem Ex.ext {all:List Oper} {o:Oper} {f:Nat→PV} {v:PV} {H':za} (h:eff o.op=false) (he:Ex P all true o f H v H') (K:za):Ex P all true o f (H++K) v (H++K):=by
 rcases he with ⟨h1,h2,h3⟩|⟨h1,h2⟩
 ·exact .inl ⟨h1,h2,rfl⟩
 ·refine .inr ⟨h1,?_⟩
  split at h2
  ·exact ⟨rfl,h2.2.2.2 rfl K,h2.2.2.1,fun _ K'=>by rw [List.append_assoc];exact h2.2.2.2 rfl (K++K')⟩
  ·exact zrB K h h2
theorem Ex.swap {all:List Oper} {g:Bool} {x o:Oper} {f:Nat→PV} {vx v:PV} {Hx H1:za} (hc:zfi (all.map (·.dst)) x o g=true) (hx:Ex P all g x f H vx Hx) (ho:Ex P all g o (upd f x.dst vx) Hx v H1):
  ∃ H3,Ex P all g o f H v H3∧Ex P all g x (upd f o.dst v) H3 vx H1∧upd (upd f x.dst vx) o.dst v=upd (upd f o.dst v) x.dst vx:=by
 unfold zfi at hc
 simp only [Bool.and_eq_true,Bool.or_eq_true,Bool.not_eq_true'] at hc
 obtain ⟨⟨c1,c2⟩,c3⟩:=hc
 have ho':Ex P all g o f Hx v H1:=ho.congr fun t ht=>zb0 (za4 c1 t ht)
 have hx':∀ K K',Ex P all g x f K vx K'→Ex P all g x (upd f o.dst v) K vx K':=fun K K' h=>h.congr fun t ht=>(zb0 (za4 c2 t ht)).symm
 have hcm:=zgd (f:=f) (u:=vx) (v:=v) (zfj c1)
 rcases c3 with ((⟨e1,e2⟩|e1)|e1)|⟨rfl,e1,e2⟩
 ·obtain rfl:=hx.noeff e1
  obtain rfl:=ho'.noeff e2
  exact ⟨_,ho',hx' _ _ hx,hcm⟩
 ·obtain ⟨rfl,hp⟩:=hx.pure e1 H1
  exact ⟨H1,ho',hx' _ _ hp,hcm⟩
 ·obtain ⟨rfl,hp⟩:=ho'.pure e1 H
  exact ⟨H,hp,hx' _ _ hx,hcm⟩
 ·obtain rfl:=hx.noeff e1
  have hk:∃ K,H1=Hx++K:=by
   rcases ho' with ⟨_,_,h3⟩|⟨_,h3⟩
   ·exact ⟨[],by rw [h3,List.append_nil]⟩
   ·rw [zjW e2] at h3
    exact zo1 e2 h3
  obtain ⟨K,rfl⟩:=hk
  exact ⟨_,ho',hx' _ _ (hx.ext e1 K),hcm⟩
theorem Run.front {all:List Oper} {g:Bool} {K:(Nat→PV)→za→Prop} {o:Oper} {l2:List Oper}:∀ (l1:List Oper) (f:Nat→PV) (H:za),Run P all g (l1++o::l2) f H K→(∀ x∈l1,zfi (all.map (·.dst)) x o g=true)→
  ∃ v H1,Ex P all g o f H v H1∧Run P all g (l1++l2) (upd f o.dst v) H1 K
 | [],f,H,h,_=>h
 | x::l1,f,H,h,hc=>by
  obtain ⟨vx,Hx,hx,hr⟩:=h
  obtain ⟨v,H1,ho,hr2⟩:=Run.front l1 _ _ hr (fun y hy=>hc y (List.mem_cons_of_mem _ hy))
  obtain ⟨H3,g1,g2,g3⟩:=hx.swap (hc x (List.mem_cons_self ..)) ho
  exact ⟨v,H3,g1,vx,H1,g2,g3▸hr2⟩
def bnd (o:Oper):List Nat:=(o.after.toList.filter (Region.binds .any)).map (·.on)
def zb9 (ms:List Nat) (o:Oper):Nat:=(bnd o).foldl (fun m j=>m|||ms.getD j 0|||2^j) 0
def zfw (ops:List Oper):List Nat:=ops.foldl (fun ms o=>ms++[zb9 ms o]) []
def zd7 (ms:List Nat) (ds:List (Option Nat)) (N:Nat) (ops:List Oper) (i:Nat) (g:Bool:=false):Bool:=match ops[i]? with
 | none=>false
 | some o=>zR N o&&(bnd o).all (fun j=>Nat.blt j i)&&(Nat.beq (ms.getD i 0) (zb9 ms o))&&(List.range i).all fun j=>(ms.getD i 0).testBit j||(match ops[j]? with|some x=>zfi ds x o g|none=>false)
def zfd (N:Nat) (ops:List Oper) (g:Bool:=false):Bool:=(List.range ops.length).all fun i=>zd7 (zfw ops) (ops.map (·.dst)) N ops i g
theorem zfa (ms:List Nat) (j:Nat):∀ (l:List Nat) (m:Nat),(l.foldl (fun m j=>m|||ms.getD j 0|||2^j) m).testBit j=true→m.testBit j=true∨∃ k∈l,(ms.getD k 0).testBit j=true∨k=j
 | [],m,h=>.inl h
 | k::l,m,h=>by
  rcases zfa ms j l _ h with h|⟨k',hk,h⟩
  ·rw [Nat.testBit_or,Nat.testBit_or,Bool.or_eq_true,Bool.or_eq_true,Nat.testBit_two_pow] at h
   rcases h with (h|h)|h
   ·exact .inl h
   ·exact .inr ⟨k,List.mem_cons_self ..,.inl h⟩
   ·exact .inr ⟨k,List.mem_cons_self ..,.inr (of_decide_eq_true h)⟩
  ·exact .inr ⟨k',List.mem_cons_of_mem _ hk,h⟩
theorem zfe {g:Bool} {ms:List Nat} {ds:List (Option Nat)} {ops:List Oper} {i:Nat} {o:Oper} (ho:ops[i]? =some o) (h:zd7 ms ds N ops i g=true):
  zR N o=true∧(∀ j∈bnd o,j<i)∧ms.getD i 0=zb9 ms o∧∀ j,j<i→(ms.getD i 0).testBit j=true∨∃ x,ops[j]? =some x∧zfi ds x o g=true:=by
 unfold zd7 at h
 simp only [ho,Bool.and_eq_true,List.all_eq_true,List.mem_range,Bool.or_eq_true] at h
 obtain ⟨⟨⟨h1,h2⟩,h3⟩,h4⟩:=h
 refine ⟨h1,fun j hj=>by simpa [Nat.blt_eq] using h2 j hj,Nat.eq_of_beq_eq_true h3,fun j hj=> ?_⟩
 rcases h4 j hj with h|h
 ·exact .inl h
 ·split at h
  ·rename_i x hx;exact .inr ⟨x,hx,h⟩
  ·cases h
theorem zrU {g:Bool} {ms:List Nat} {ds:List (Option Nat)} {ops:List Oper} (hall:∀ i,i<ops.length→zd7 ms ds N ops i g=true) {S:Nat→Prop} (down:∀ i o,ops[i]? =some o→S i→∀ j∈bnd o,S j):
  ∀ (i:Nat) (o:Oper),ops[i]? =some o→(∀ j∈bnd o,S j)→∀ j,(ms.getD i 0).testBit j=true→S j:=by
 intro i
 induction i using Nat.strongRecOn with
 | _ i ih=>
  intro o ho hp j hj
  have hi:=(List.getElem?_eq_some_iff.1 ho).1
  obtain ⟨_,h2,h3,_⟩:=zfe ho (hall i hi)
  rw [h3,zb9] at hj
  rcases zfa ms j _ _ hj with h|⟨k,hk,h⟩
  ·simp at h
  ·rcases h with h|rfl
   ·have hki:=h2 k hk
    have hkl:k<ops.length:=by omega
    exact ih k hki ops[k] (List.getElem?_eq_getElem hkl) (down k _ (List.getElem?_eq_getElem hkl) (hp k hk)) j h
   ·exact hp k hk
def left (n:Nat) (listed:Array Bool):List Nat:=(List.range n).filter fun i=> !listed.getD i true
theorem zbI (n:Nat) (listed:Array Bool):(left n listed).Pairwise (· < ·):=List.Pairwise.filter _ List.pairwise_lt_range
theorem zaX {n i:Nat} {listed:Array Bool}:i∈left n listed↔i<n∧listed.getD i true=false:=by simp [left]
theorem zgT (listed:Array Bool) (i k:Nat) (h:i<listed.size):(listed.setIfInBounds i true).getD k true=if k=i then true else listed.getD k true:=by
 rw [Array.getD_eq_getD_getElem?,Array.getElem?_setIfInBounds,Array.getD_eq_getD_getElem?]
 by_cases hk:i=k
 ·subst hk;simp [h]
 ·rw [if_neg hk,if_neg (fun e=>hk e.symm)]
theorem zet {n i:Nat} {listed:Array Bool} {l1 l2:List Nat} (h:i<listed.size) (hl:left n listed=l1++i::l2):left n (listed.setIfInBounds i true)=l1++l2:=by
 have e:left n (listed.setIfInBounds i true)=(left n listed).filter (fun k=>k !=i):=by
  unfold left
  rw [List.filter_filter]
  refine List.filter_congr fun k _=> ?_
  rw [zgT listed i k h]
  by_cases hk:k=i
  ·simp [hk]
  ·simp [hk]
 have hs:=zbI n listed
 rw [hl,List.pairwise_append,List.pairwise_cons] at hs
 rw [e,hl,List.filter_append,List.filter_cons_of_neg (by simp),List.filter_eq_self.2,List.filter_eq_self.2]
 ·intro k hk;have:=hs.2.1.1 k hk;simp;omega
 ·intro k hk;have:=hs.2.2 k hk i (List.mem_cons_self ..);simp;omega
theorem zhO {g:Bool} {ops:Array Oper} {Q:Exit→Act→World→Prop} {K:(Nat→PV)→za→Prop} (hall:∀ i,i<ops.toList.length→zd7 (zfw ops.toList) (ops.toList.map (·.dst)) N ops.toList i g=true):
  ∀ (fuel:Nat) (listed:Array Bool) (f:Nat→PV) (H:za) (C:Ctx) (a:Act) (w:World),listed.size=ops.size→(∀ i o,ops[i]? =some o→listed.getD i true=true→∀ j∈bnd o,listed.getD j true=true)→
   fuel=(left ops.size listed).length→Run P ops.toList g ((left ops.size listed).filterMap fun i=>ops[i]?) f H K→a.defers=[]→WRel C H w→FRel C N f a→
   (∀ C' f' H' a' w',CLe C C'→a'.defers=[]→WRel C' H' w'→Below C.B w w'→FRel C' N f' a'→K f' H'→Q .normal a' w')→wpAny P .any ops Q fuel listed a w:=by
 have rdy:∀ (listed:Array Bool) (i:Nat),i∈Region.ready .any ops listed↔i∈left ops.size listed∧∃ o,ops[i]? =some o∧∀ e∈o.after.toList,Region.binds .any e=true→listed.getD e.on false=true:=by
  intro listed i
  unfold Region.ready
  rw [List.mem_filter,zaX,List.mem_range]
  constructor
  ·rintro ⟨h1,h2⟩
   simp only [Bool.and_eq_true,Bool.not_eq_true'] at h2
   refine ⟨⟨h1,h2.1⟩,ops[i],Array.getElem?_eq_getElem h1,fun e he hb=> ?_⟩
   have h3:=h2.2
   rw [Array.getElem?_eq_getElem h1] at h3
   simp only [Option.map_some,Option.getD_some,Array.all_eq_true_iff_forall_mem] at h3
   have:=h3 e (Array.mem_toList_iff.1 he)
   simpa [hb] using this
  ·rintro ⟨⟨h1,h2⟩,o,ho,h3⟩
   refine ⟨h1,?_⟩
   simp only [h2,Bool.not_false,Bool.true_and,ho,Option.map_some,Option.getD_some,Array.all_eq_true_iff_forall_mem]
   intro e he
   cases hb:Region.binds .any e with
   | false=>rfl
   | true=>simp [h3 e (Array.mem_toList_iff.2 he) hb]
 intro fuel
 induction fuel with
 | zero=>
  intro listed f H C a w hsz hdown hfu hr hd hw hf hQ
  have hnil:left ops.size listed=[]:=List.eq_nil_of_length_eq_zero hfu.symm
  refine ⟨List.eq_nil_iff_forall_not_mem.2 fun i hi=> ?_,?_⟩
  ·have:=((rdy listed i).1 hi).1
   rw [hnil] at this
   simp at this
  ·rw [hnil] at hr
   exact hQ C f H a w (.refl _) hd hw (.refl _ _) hf hr
 | succ fuel ih=>
  intro listed f H C a w hsz hdown hfu hr hd hw hf hQ
  refine ⟨fun hnone=> ?_,fun i hi=> ?_⟩
  ·exfalso
   obtain ⟨i,r,hl⟩:=List.exists_cons_of_length_eq_add_one hfu.symm
   have hmem:i∈left ops.size listed:=by rw [hl];exact List.mem_cons_self ..
   have hil:=(zaX.1 hmem).1
   have hs:=zbI ops.size listed
   rw [hl,List.pairwise_cons] at hs
   have:i∈Region.ready .any ops listed:=by
    refine (rdy listed i).2 ⟨hmem,ops[i],Array.getElem?_eq_getElem hil,fun e he hb=> ?_⟩
    have hlt:=(zfe (by simpa using Array.getElem?_eq_getElem hil) (hall i (by simpa using hil))).2.1 e.on (List.mem_map.2 ⟨e,List.mem_filter.2 ⟨he,hb⟩,rfl⟩)
    have hnm:e.on∉left ops.size listed:=by
     rw [hl]
     intro hm
     rcases List.mem_cons.1 hm with h|h
     ·omega
     ·have:=hs.1 _ h;omega
    have h1:listed.getD e.on true=true:=by
     cases hg:listed.getD e.on true with
     | true=>rfl
     | false=>exact absurd (zaX.2 ⟨by omega,hg⟩) hnm
    have h2:e.on<listed.size:=by omega
    rw [Array.getD_eq_getD_getElem?,Array.getElem?_eq_getElem h2] at h1 ⊢
    exact h1
   rw [hnone] at this
   simp at this
  ·obtain ⟨hmem,o,ho,hpre⟩:=(rdy listed i).1 hi
   have hil:=(zaX.1 hmem).1
   have hoL:ops.toList[i]? =some o:=by simpa using ho
   obtain ⟨d1,d2,d3,d4⟩:=zfe hoL (hall i (by simpa using hil))
   obtain ⟨l1,l2,hl⟩:=List.append_of_mem hmem
   have hs:=zbI ops.size listed
   rw [hl,List.pairwise_append,List.pairwise_cons] at hs
   have hsz':i<listed.size:=by omega
   have getFT:∀ j,listed.getD j false=true→listed.getD j true=true:=fun j hj=>by
    rw [Array.getD_eq_getD_getElem?] at hj ⊢
    cases hg:listed[j]? with
    | none=>rw [hg] at hj;simp at hj
    | some b=>rw [hg] at hj;simpa using hj
   have hpre':∀ j∈bnd o,listed.getD j true=true:=fun j hj=>by
    obtain ⟨e,he,rfl⟩:=List.mem_map.1 hj
    obtain ⟨he1,he2⟩:=List.mem_filter.1 he
    exact getFT _ (hpre e he1 he2)
   rw [hl,List.filterMap_append,List.filterMap_cons_some ho] at hr
   have hcomp:∀ x∈l1.filterMap (fun i=>ops[i]?),zfi (ops.toList.map (·.dst)) x o g=true:=by
    intro x hx
    obtain ⟨j,hj,hjx⟩:=List.mem_filterMap.1 hx
    have hji:j<i:=hs.2.2 j hj i (List.mem_cons_self ..)
    rcases d4 j hji with h|⟨x',hx',hc⟩
    ·have hS:=zrU (N:=N) hall (S:=fun j=>listed.getD j true=true) (fun i o ho hS=>hdown i o (by simpa using ho) hS) i o hoL hpre' j h
     have hjm:j∈left ops.size listed:=by rw [hl];exact List.mem_append.2 (.inl hj)
     rw [(zaX.1 hjm).2] at hS
     cases hS
    ·have:ops[j]? =some x':=by simpa using hx'
     simp only [this,Option.some.injEq] at hjx
     subst hjx
     exact hc
   obtain ⟨v,H1,hex,hrun⟩:=Run.front _ _ _ hr hcomp
   rw [←List.filterMap_append,←zet hsz' hl] at hrun
   have hdown':∀ i' o',ops[i']? =some o'→(listed.setIfInBounds i true).getD i' true=true→∀ j∈bnd o',(listed.setIfInBounds i true).getD j true=true:=by
    intro i' o' ho' h j hj
    rw [zgT _ _ _ hsz'] at h ⊢
    by_cases hi':i'=i
    ·subst hi'
     rw [ho] at ho'
     injection ho' with ho'
     subst ho'
     split
     ·rfl
     ·exact hpre' j hj
    ·rw [if_neg hi'] at h
     split
     ·rfl
     ·exact hdown i' o' ho' h j hj
   have hfu':fuel=(left ops.size (listed.setIfInBounds i true)).length:=by
    rw [zet hsz' hl]
    rw [hl] at hfu
    simp at hfu ⊢
    omega
   have next:∀ C' u w',CLe C C'→WRel C' H1 w'→Below C.B w w'→FRel C' N (upd f o.dst v) (a.put o.dst u)→wpAny P .any ops Q fuel (listed.setIfInBounds i true) (a.put o.dst u) w':=by
    intro C' u w' q1 q2 q3 q4
    refine ih _ _ _ C' _ w' (by simpa using hsz) hdown' hfu' hrun (by cases hod:o.dst<;>simp [Act.put,hd]) q2 q4 ?_
    intro C'' f'' H'' a'' w'' p1 p2 p3 p4 p5 p6
    exact hQ C'' f'' H'' a'' w'' (q1.trans p1) p2 p3 (q3.trans (by rw [←q1.B];exact p4)) p5 p6
   unfold wpOp
   rw [ho]
   simp only
   rcases hex with ⟨h1,h2,h3⟩|⟨h1,h2⟩
   ·have hwant:=zP hf h1
    rw [Array.toArray_toList] at hwant
    rw [if_neg (by rw [hwant];simp)]
    subst h2 h3
    exact next C _ w (.refl _) hw (.refl _ _) (hf.put o.dst (zas d1) VRel.undefV)
   ·have hwant:=zP hf h1
    rw [Array.toArray_toList] at hwant
    rw [if_pos hwant]
    left
    have hexec:Exec P o f H v H1:=by
     unfold Exec
     split at h2
     ·rename_i fn args hc;rw [hc];obtain ⟨rfl,h2⟩:=h2;exact h2.1
     ·rename_i hc;rw [hc];exact h2
    exact zcY d1 hw hf hexec _ _ next
def VCd (P:Program) (ds:List (Option Nat)) (o:Oper) (F:Fr) (H:za) (K:Fr→za→Prop):Prop:=
 match zac ds F o with
 | some true=>match zr o.op (slot F) with
  | some (g,args)=>∃ v,(CallOk P g args H v H∧(zan o.op=true→∀ K,CallOk P g args K v K))∧K (put F o.dst v) H
  | none=>False
 | some false=>K (put F o.dst (.tup [])) H
 | none=>False
def VOd (P:Program) (ds:List (Option Nat)):List Oper→Option (Fr×za)→(Fr→za→Prop)→Prop
 | _,none,_=>False
 | [],some (F,H),K=>K F H
 | o::r,some (F,H),K=>match zJ o.op with
  | false=>VOd P ds r (stp P ds o F H) K
  | true=>VCd P ds o F H fun F' H'=>VOd P ds r (some (F',H')) K
def VRd (P:Program) (ds:List (Option Nat)) (r:List Oper) (K:Fr→za→Prop) (F:Fr) (H:za):Prop:=VOd P ds r (some (F,H)) K
theorem zsQ (ds:List (Option Nat)) (K:Fr→za→Prop) (F:Fr) (H:za):VOd P ds [] (some (F,H)) K=K F H:=rfl
theorem zha (ds:List (Option Nat)) (l:List Oper) (K:Fr→za→Prop):VOd P ds l none K=False:=by cases l<;>rfl
theorem zcg (ds:List (Option Nat)) (o:Oper) (r:List Oper) (K:Fr→za→Prop) (F:Fr) (H:za):
  VOd P ds (o::r) (some (F,H)) K=match zJ o.op with|false=>VOd P ds r (stp P ds o F H) K|true=>VCd P ds o F H (VRd P ds r K):=by
 cases h:zJ o.op with
 | false=>simp only [VOd,h]
 | true=>simp only [VOd,h];rfl
theorem VCd.call {ds:List (Option Nat)} {o:Oper} {K:Fr→za→Prop} {g:FuncId} {args:List PV} {v:PV} (h:CallOk P g args H v H) (hp:zan o.op=true→∀ K,CallOk P g args K v K) (hw:zac ds F o=some true) (hc:zr o.op (slot F)=some (g,args))
  (hk:K (put F o.dst v) H):VCd P ds o F H K:=by
 unfold VCd
 rw [hw]
 simp only [hc]
 exact ⟨v,⟨h,hp⟩,hk⟩
theorem zmN {all:List Oper} {K:Fr→za→Prop}:∀ (l:List Oper) (F:Fr) (H:za),VOd P (all.map (·.dst)) l (some (F,H)) K→Run P all false l (slot F) H (fun f H'=>∃ F',f=slot F'∧K F' H')
 | [],F,H,h=>⟨F,rfl,h⟩
 | o::r,F,H,h=>by
  have hcl:zJ o.op=false→zr o.op (slot F)=none:=fun hc=>by
   unfold zr
   split
   ·rename_i f args ts ho;rw [ho] at hc;simp [zJ] at hc
   ·rfl
  rw [zcg] at h
  have go:∀ v H',Ex P all false o (slot F) H v H'→VOd P (all.map (·.dst)) r (some (put F o.dst v,H')) K→Run P all false (o::r) (slot F) H (fun f H'=>∃ F',f=slot F'∧K F' H'):=fun v H' he hr=>by
   refine ⟨v,H',he,?_⟩
   rw [←zX]
   exact zmN r _ _ hr
  cases hc:zJ o.op with
  | false=>
   simp only [hc] at h
   unfold stp at h
   split at h
   ·rename_i hb
    split at h
    ·rename_i v H' hp
     exact go v H' (.inr ⟨zu all F o hb,by rw [hcl hc];exact hp⟩) h
    ·rw [zha] at h;exact h.elim
   ·rename_i hb
    exact go _ _ (.inl ⟨zu all F o hb,rfl,rfl⟩) h
   ·rw [zha] at h;exact h.elim
  | true=>
   simp only [hc] at h
   unfold VCd at h
   split at h
   ·rename_i hb
    split at h
    ·rename_i g args hp
     obtain ⟨v,h1,h2⟩:=h
     exact go v H (.inr ⟨zu all F o hb,by rw [hp];exact ⟨rfl,h1.1,h1.2,fun e=>by cases e⟩⟩) h2
    ·exact h.elim
   ·rename_i hb
    exact go _ _ (.inl ⟨zu all F o hb,rfl,rfl⟩) h
   ·exact h.elim
def VCg (P:Program) (ds:List (Option Nat)) (o:Oper) (F:Fr) (H:za) (K:Fr→za→Prop):Prop:=
 match zac ds F o with
 | some true=>match zr o.op (slot F) with
  | some (g,args)=>∃ v,((∀ L,CallOk P g args (H++L) v (H++L))∧(zan o.op=true→∀ K,CallOk P g args K v K))∧K (put F o.dst v) H
  | none=>False
 | some false=>K (put F o.dst (.tup [])) H
 | none=>False
def VOg (P:Program) (ds:List (Option Nat)):List Oper→Option (Fr×za)→(Fr→za→Prop)→Prop
 | _,none,_=>False
 | [],some (F,H),K=>K F H
 | o::r,some (F,H),K=>match zJ o.op with
  | false=>VOg P ds r (stp P ds o F H) K
  | true=>VCg P ds o F H fun F' H'=>VOg P ds r (some (F',H')) K
def VRg (P:Program) (ds:List (Option Nat)) (r:List Oper) (K:Fr→za→Prop) (F:Fr) (H:za):Prop:=VOg P ds r (some (F,H)) K
theorem zsP (ds:List (Option Nat)) (K:Fr→za→Prop) (F:Fr) (H:za):VOg P ds [] (some (F,H)) K=K F H:=rfl
theorem zki (ds:List (Option Nat)) (l:List Oper) (K:Fr→za→Prop):VOg P ds l none K=False:=by cases l<;>rfl
theorem zkh (ds:List (Option Nat)) (o:Oper) (r:List Oper) (K:Fr→za→Prop) (F:Fr) (H:za):
  VOg P ds (o::r) (some (F,H)) K=match zJ o.op with|false=>VOg P ds r (stp P ds o F H) K|true=>VCg P ds o F H (VRg P ds r K):=by
 cases h:zJ o.op with
 | false=>simp only [VOg,h]
 | true=>simp only [VOg,h];rfl
theorem zmM {all:List Oper} {K:Fr→za→Prop}:∀ (l:List Oper) (F:Fr) (H:za),VOg P (all.map (·.dst)) l (some (F,H)) K→Run P all true l (slot F) H (fun f H'=>∃ F',f=slot F'∧K F' H')
 | [],F,H,h=>⟨F,rfl,h⟩
 | o::r,F,H,h=>by
  have hcl:zJ o.op=false→zr o.op (slot F)=none:=fun hc=>by
   unfold zr
   split
   ·rename_i f args ts ho;rw [ho] at hc;simp [zJ] at hc
   ·rfl
  rw [zkh] at h
  have go:∀ v H',Ex P all true o (slot F) H v H'→VOg P (all.map (·.dst)) r (some (put F o.dst v,H')) K→Run P all true (o::r) (slot F) H (fun f H'=>∃ F',f=slot F'∧K F' H'):=fun v H' he hr=>by
   refine ⟨v,H',he,?_⟩
   rw [←zX]
   exact zmM r _ _ hr
  cases hc:zJ o.op with
  | false=>
   simp only [hc] at h
   unfold stp at h
   split at h
   ·rename_i hb
    split at h
    ·rename_i v H' hp
     exact go v H' (.inr ⟨zu all F o hb,by rw [hcl hc];exact hp⟩) h
    ·rw [zki] at h;exact h.elim
   ·rename_i hb
    exact go _ _ (.inl ⟨zu all F o hb,rfl,rfl⟩) h
   ·rw [zki] at h;exact h.elim
  | true=>
   simp only [hc] at h
   unfold VCg at h
   split at h
   ·rename_i hb
    split at h
    ·rename_i fn args hp
     obtain ⟨v,h1,h2⟩:=h
     exact go v H (.inr ⟨zu all F o hb,by rw [hp];exact ⟨rfl,by have:=h1.1 [];rwa [List.append_nil] at this,h1.2,fun _=>h1.1⟩⟩) h2
    ·exact h.elim
   ·rename_i hb
    exact go _ _ (.inl ⟨zu all F o hb,rfl,rfl⟩) h
   ·exact h.elim
theorem zbJ (n:Nat):left n (Array.replicate n false)=List.range n:=by
 unfold left
 refine List.filter_eq_self.2 fun i hi=> ?_
 have:=List.mem_range.1 hi
 simp [Array.getD,this]
theorem zf6 (ops:Array Oper):((List.range ops.size).filterMap fun i=>ops[i]?)=ops.toList:=by
 have:∀ (l:List Oper),((List.range l.length).filterMap fun i=>l[i]?)=l:=by
  intro l
  induction l with
  | nil=>rfl
  | cons x l ih=>
   rw [List.length_cons,List.range_succ_eq_map,List.filterMap_cons_some (b:=x) (by rfl),List.filterMap_map]
   simpa [Function.comp_def] using ih
 have h:=this ops.toList
 simpa using h
section rules
variable {E:Env} {Q:Exit→Fr→za→Prop}
theorem PW.drawn {id:Nat} {ops:Array Oper} (hm:P.follows .mixedOrders=true) (hd:zfd E.N ops.toList=true) (h:VOd P (ops.toList.map (·.dst)) ops.toList (some (F,H)) (fun F' H'=>Q .normal F' H')):PW P E (.region id ops true) F H Q:=fun hs C a w hdf hw hf=>by
 refine wp_region_any hm ?_
 have hr:=zmN (P:=P) _ _ _ h
 have hall:∀ i,i<ops.toList.length→zd7 (zfw ops.toList) (ops.toList.map (·.dst)) E.N ops.toList i=true:=by
  intro i hi
  unfold zfd at hd
  exact List.all_eq_true.1 hd i (List.mem_range.2 hi)
 refine zhO (P:=P) hall ops.size (Array.replicate ops.size false) (slot F) H C a w.drew (by simp) ?_ (by rw [zbJ];simp) (by rw [zbJ,zf6];exact hr) hdf hw.drew hf ?_
 ·intro i o ho hl j hj
  have hi:i<ops.size:=(Array.getElem?_eq_some_iff.1 ho).1
  simp [Array.getD,hi] at hl
 ·rintro C' f' H' a' w' p1 p2 p3 p4 p5 ⟨F',rfl,p6⟩
  exact ⟨C',F',H',p1.toN _,p2,p3,((Below.refl C.B w).drew).trans p4,p5,p6⟩
theorem PW.drawg {id:Nat} {ops:Array Oper} (hm:P.follows .mixedOrders=true) (hd:zfd E.N ops.toList true=true) (h:∀ K:Fr→za→Prop,(∀ F' H',Q .normal F' H'→K F' H')→VOg P (ops.toList.map (·.dst)) ops.toList (some (F,H)) K):
  PW P E (.region id ops true) F H Q:=fun hs C a w hdf hw hf=>by
 refine wp_region_any hm ?_
 have hr:=zmM (P:=P) _ _ _ (h (fun F' H'=>Q .normal F' H') fun _ _ h=>h)
 have hall:∀ i,i<ops.toList.length→zd7 (zfw ops.toList) (ops.toList.map (·.dst)) E.N ops.toList i true=true:=by
  intro i hi
  unfold zfd at hd
  exact List.all_eq_true.1 hd i (List.mem_range.2 hi)
 refine zhO (P:=P) hall ops.size (Array.replicate ops.size false) (slot F) H C a w.drew (by simp) ?_ (by rw [zbJ];simp) (by rw [zbJ,zf6];exact hr) hdf hw.drew hf ?_
 ·intro i o ho hl j hj
  have hi:i<ops.size:=(Array.getElem?_eq_some_iff.1 ho).1
  simp [Array.getD,hi] at hl
 ·rintro C' f' H' a' w' p1 p2 p3 p4 p5 ⟨F',rfl,p6⟩
  exact ⟨C',F',H',p1.toN _,p2,p3,((Below.refl C.B w).drew).trans p4,p5,p6⟩
theorem PW.draw {id:Nat} {ops:Array Oper} (hm:P.follows .mixedOrders=true) (hd:zfd E.N ops.toList=true) (h:∀ K:Fr→za→Prop,(∀ F' H',Q .normal F' H'→K F' H')→VOd P (ops.toList.map (·.dst)) ops.toList (some (F,H)) K):
  PW P E (.region id ops true) F H Q:=PW.drawn hm hd (h _ fun _ _ h=>h)
end rules
end Go.Proofs.YtjgmdlcjbgiekaaGreatDoor.Pm
