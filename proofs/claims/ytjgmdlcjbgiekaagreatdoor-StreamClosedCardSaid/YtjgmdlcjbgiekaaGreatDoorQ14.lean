/-
  Parts of the proof, put together in one text. No condition.
-/
import Derived.Test.YtjgmdlcjbgiekaaGreatDoorQ13
namespace Go.Proofs.YtjgmdlcjbgiekaaGreatDoor.Pm
set_option linter.all false
open Go.RowKit
variable {P:Program} {C:Ctx} {H:za} {w:World} {F:Fr} {a:Act} {N:Nat}
def RunG (E:Oper→(Nat→PV)→za→PV→za→Prop):List Oper→(Nat→PV)→za→((Nat→PV)→za→Prop)→Prop
 | [],f,H,K=>K f H
 | o::r,f,H,K=>∃ v H',E o f H v H'∧RunG E r (upd f o.dst v) H' K
def zmP (E:Oper→(Nat→PV)→za→PV→za→Prop) (cmp:Oper→Oper→Bool):Prop:=
 ∀ (x o:Oper) (f:Nat→PV) (H:za) (vx:PV) (Hx:za) (v:PV) (H1:za),cmp x o=true→E x f H vx Hx→E o (upd f x.dst vx) Hx v H1→∃ H3,E o f H v H3∧E x (upd f o.dst v) H3 vx H1∧upd (upd f x.dst vx) o.dst v=upd (upd f o.dst v) x.dst vx
def zqN (P:Program) (N:Nat) (ops:Array Oper) (E:Oper→(Nat→PV)→za→PV→za→Prop):Prop:=
 ∀ (o:Oper) (f:Nat→PV) (H:za) (v:PV) (H':za) (C:Ctx) (a:Act) (w:World),zR N o=true→WRel C H w→FRel C N f a→E o f H v H'→
  (Region.wanted o (yielded ops a.tmps)=false∧v= .tup []∧H'=H)∨
  (Region.wanted o (yielded ops a.tmps)=true∧∀ (next:Act→World→Prop) (Q:Exit→Act→World→Prop),(∀ C' u w',CLe C C'→WRel C' H' w'→Below C.B w w'→FRel C' N (upd f o.dst v) (a.put o.dst u)→next (a.put o.dst u) w')→o.wp P a w next Q)
theorem RunG.front {E:Oper→(Nat→PV)→za→PV→za→Prop} {cmp:Oper→Oper→Bool} {K:(Nat→PV)→za→Prop} {o:Oper} {l2:List Oper} (hs:zmP E cmp):∀ (l1:List Oper) (f:Nat→PV) (H:za),RunG E (l1++o::l2) f H K→(∀ x∈l1,cmp x o=true)→
  ∃ v H1,E o f H v H1∧RunG E (l1++l2) (upd f o.dst v) H1 K
 | [],f,H,h,_=>h
 | x::l1,f,H,h,hc=>by
  obtain ⟨vx,Hx,hx,hr⟩:=h
  obtain ⟨v,H1,ho,hr2⟩:=RunG.front hs l1 _ _ hr (fun y hy=>hc y (List.mem_cons_of_mem _ hy))
  obtain ⟨H3,g1,g2,g3⟩:=hs x o f H vx Hx v H1 (hc x (List.mem_cons_self ..)) hx ho
  exact ⟨v,H3,g1,vx,H1,g2,g3▸hr2⟩
def zg2 (cmp:Oper→Oper→Bool) (ms:List Nat) (N:Nat) (ops:List Oper) (i:Nat):Bool:=match ops[i]? with
 | none=>false
 | some o=>zR N o&&(bnd o).all (fun j=>Nat.blt j i)&&(Nat.beq (ms.getD i 0) (zb9 ms o))&&(List.range i).all fun j=>(ms.getD i 0).testBit j||(match ops[j]? with|some x=>cmp x o|none=>false)
def ziG (cmp:Oper→Oper→Bool) (N:Nat) (ops:List Oper):Bool:=(List.range ops.length).all (zg2 cmp (zfw ops) N ops)
theorem zg1 {cmp:Oper→Oper→Bool} {ms:List Nat} {ops:List Oper} {i:Nat} {o:Oper} (ho:ops[i]? =some o) (h:zg2 cmp ms N ops i=true):
  zR N o=true∧(∀ j∈bnd o,j<i)∧ms.getD i 0=zb9 ms o∧∀ j,j<i→(ms.getD i 0).testBit j=true∨∃ x,ops[j]? =some x∧cmp x o=true:=by
 unfold zg2 at h
 simp only [ho,Bool.and_eq_true,List.all_eq_true,List.mem_range,Bool.or_eq_true] at h
 obtain ⟨⟨⟨h1,h2⟩,h3⟩,h4⟩:=h
 refine ⟨h1,fun j hj=>by simpa [Nat.blt_eq] using h2 j hj,Nat.eq_of_beq_eq_true h3,fun j hj=> ?_⟩
 rcases h4 j hj with h|h
 ·exact .inl h
 ·split at h
  ·rename_i x hx;exact .inr ⟨x,hx,h⟩
  ·cases h
theorem zpC {cmp:Oper→Oper→Bool} {ms:List Nat} {ops:List Oper} (hall:∀ i,i<ops.length→zg2 cmp ms N ops i=true) {S:Nat→Prop} (down:∀ i o,ops[i]? =some o→S i→∀ j∈bnd o,S j):
  ∀ (i:Nat) (o:Oper),ops[i]? =some o→(∀ j∈bnd o,S j)→∀ j,(ms.getD i 0).testBit j=true→S j:=by
 intro i
 induction i using Nat.strongRecOn with
 | _ i ih=>
  intro o ho hp j hj
  have hi:=(List.getElem?_eq_some_iff.1 ho).1
  obtain ⟨_,h2,h3,_⟩:=zg1 ho (hall i hi)
  rw [h3,zb9] at hj
  rcases zfa ms j _ _ hj with h|⟨k,hk,h⟩
  ·simp at h
  ·rcases h with h|rfl
   ·have hki:=h2 k hk
    have hkl:k<ops.length:=by omega
    exact ih k hki ops[k] (List.getElem?_eq_getElem hkl) (down k _ (List.getElem?_eq_getElem hkl) (hp k hk)) j h
   ·exact hp k hk
theorem zmJ {cmp:Oper→Oper→Bool} {E:Oper→(Nat→PV)→za→PV→za→Prop} {ops:Array Oper} {Q:Exit→Act→World→Prop} {K:(Nat→PV)→za→Prop} (hall:∀ i,i<ops.toList.length→zg2 cmp (zfw ops.toList) N ops.toList i=true)
  (hswap:zmP E cmp) (hstep:zqN P N ops E):
  ∀ (fuel:Nat) (listed:Array Bool) (f:Nat→PV) (H:za) (C:Ctx) (a:Act) (w:World),listed.size=ops.size→(∀ i o,ops[i]? =some o→listed.getD i true=true→∀ j∈bnd o,listed.getD j true=true)→
   fuel=(left ops.size listed).length→RunG E ((left ops.size listed).filterMap fun i=>ops[i]?) f H K→a.defers=[]→WRel C H w→FRel C N f a→
   (∀ C' f' H' a' w',CLe C C'→a'.defers=[]→WRel C' H' w'→Below C.B w w'→FRel C' N f' a'→K f' H'→Q .normal a' w')→wpAny P .any ops Q fuel listed a w:=by
 have rdy:∀ (listed:Array Bool) (i:Nat),i∈Region.ready .any ops listed↔i∈left ops.size listed∧∃ o,ops[i]? =some o∧∀ e∈o.after.toList,Region.binds .any e=true→listed.getD e.on false=true:=by
  intro listed i
  unfold Region.ready
  rw [List.mem_filter,zaX,List.mem_range]
  constructor
  ·rintro ⟨h1,h2⟩
   simp only [Bool.and_eq_true,Bool.not_eq_true'] at h2
   refine ⟨⟨h1,h2.1⟩,ops[i],Array.getElem?_eq_getElem h1,fun e he hb=> ?_⟩
   have h3:=h2.2
   rw [Array.getElem?_eq_getElem h1] at h3
   simp only [Option.map_some,Option.getD_some,Array.all_eq_true_iff_forall_mem] at h3
   have:=h3 e (Array.mem_toList_iff.1 he)
   simpa [hb] using this
  ·rintro ⟨⟨h1,h2⟩,o,ho,h3⟩
   refine ⟨h1,?_⟩
   simp only [h2,Bool.not_false,Bool.true_and,ho,Option.map_some,Option.getD_some,Array.all_eq_true_iff_forall_mem]
   intro e he
   cases hb:Region.binds .any e with
   | false=>rfl
   | true=>simp [h3 e (Array.mem_toList_iff.2 he) hb]
 intro fuel
 induction fuel with
 | zero=>
  intro listed f H C a w hsz hdown hfu hr hd hw hf hQ
  have hnil:left ops.size listed=[]:=List.eq_nil_of_length_eq_zero hfu.symm
  refine ⟨List.eq_nil_iff_forall_not_mem.2 fun i hi=> ?_,?_⟩
  ·have:=((rdy listed i).1 hi).1
   rw [hnil] at this
   simp at this
  ·rw [hnil] at hr
   exact hQ C f H a w (.refl _) hd hw (.refl _ _) hf hr
 | succ fuel ih=>
  intro listed f H C a w hsz hdown hfu hr hd hw hf hQ
  refine ⟨fun hnone=> ?_,fun i hi=> ?_⟩
  ·exfalso
   obtain ⟨i,r,hl⟩:=List.exists_cons_of_length_eq_add_one hfu.symm
   have hmem:i∈left ops.size listed:=by rw [hl];exact List.mem_cons_self ..
   have hil:=(zaX.1 hmem).1
   have hs:=zbI ops.size listed
   rw [hl,List.pairwise_cons] at hs
   have:i∈Region.ready .any ops listed:=by
    refine (rdy listed i).2 ⟨hmem,ops[i],Array.getElem?_eq_getElem hil,fun e he hb=> ?_⟩
    have hlt:=(zg1 (by simpa using Array.getElem?_eq_getElem hil) (hall i (by simpa using hil))).2.1 e.on (List.mem_map.2 ⟨e,List.mem_filter.2 ⟨he,hb⟩,rfl⟩)
    have hnm:e.on∉left ops.size listed:=by
     rw [hl]
     intro hm
     rcases List.mem_cons.1 hm with h|h
     ·omega
     ·have:=hs.1 _ h;omega
    have h1:listed.getD e.on true=true:=by
     cases hg:listed.getD e.on true with
     | true=>rfl
     | false=>exact absurd (zaX.2 ⟨by omega,hg⟩) hnm
    have h2:e.on<listed.size:=by omega
    rw [Array.getD_eq_getD_getElem?,Array.getElem?_eq_getElem h2] at h1 ⊢
    exact h1
   rw [hnone] at this
   simp at this
  ·obtain ⟨hmem,o,ho,hpre⟩:=(rdy listed i).1 hi
   have hil:=(zaX.1 hmem).1
   have hoL:ops.toList[i]? =some o:=by simpa using ho
   obtain ⟨d1,d2,d3,d4⟩:=zg1 hoL (hall i (by simpa using hil))
   obtain ⟨l1,l2,hl⟩:=List.append_of_mem hmem
   have hs:=zbI ops.size listed
   rw [hl,List.pairwise_append,List.pairwise_cons] at hs
   have hsz':i<listed.size:=by omega
   have getFT:∀ j,listed.getD j false=true→listed.getD j true=true:=fun j hj=>by
    rw [Array.getD_eq_getD_getElem?] at hj ⊢
    cases hg:listed[j]? with
    | none=>rw [hg] at hj;simp at hj
    | some b=>rw [hg] at hj;simpa using hj
   have hpre':∀ j∈bnd o,listed.getD j true=true:=fun j hj=>by
    obtain ⟨e,he,rfl⟩:=List.mem_map.1 hj
    obtain ⟨he1,he2⟩:=List.mem_filter.1 he
    exact getFT _ (hpre e he1 he2)
   rw [hl,List.filterMap_append,List.filterMap_cons_some ho] at hr
   have hcomp:∀ x∈l1.filterMap (fun i=>ops[i]?),cmp x o=true:=by
    intro x hx
    obtain ⟨j,hj,hjx⟩:=List.mem_filterMap.1 hx
    have hji:j<i:=hs.2.2 j hj i (List.mem_cons_self ..)
    rcases d4 j hji with h|⟨x',hx',hc⟩
    ·have hS:=zpC (N:=N) hall (S:=fun j=>listed.getD j true=true) (fun i o ho hS=>hdown i o (by simpa using ho) hS) i o hoL hpre' j h
     have hjm:j∈left ops.size listed:=by rw [hl];exact List.mem_append.2 (.inl hj)
     rw [(zaX.1 hjm).2] at hS
     cases hS
    ·have:ops[j]? =some x':=by simpa using hx'
     simp only [this,Option.some.injEq] at hjx
     subst hjx
     exact hc
   obtain ⟨v,H1,hex,hrun⟩:=RunG.front hswap _ _ _ hr hcomp
   rw [←List.filterMap_append,←zet hsz' hl] at hrun
   have hdown':∀ i' o',ops[i']? =some o'→(listed.setIfInBounds i true).getD i' true=true→∀ j∈bnd o',(listed.setIfInBounds i true).getD j true=true:=by
    intro i' o' ho' h j hj
    rw [zgT _ _ _ hsz'] at h ⊢
    by_cases hi':i'=i
    ·subst hi'
     rw [ho] at ho'
     injection ho' with ho'
     subst ho'
     split
     ·rfl
     ·exact hpre' j hj
    ·rw [if_neg hi'] at h
     split
     ·rfl
     ·exact hdown i' o' ho' h j hj
   have hfu':fuel=(left ops.size (listed.setIfInBounds i true)).length:=by
    rw [zet hsz' hl]
    rw [hl] at hfu
    simp at hfu ⊢
    omega
   have next:∀ C' u w',CLe C C'→WRel C' H1 w'→Below C.B w w'→FRel C' N (upd f o.dst v) (a.put o.dst u)→wpAny P .any ops Q fuel (listed.setIfInBounds i true) (a.put o.dst u) w':=by
    intro C' u w' q1 q2 q3 q4
    refine ih _ _ _ C' _ w' (by simpa using hsz) hdown' hfu' hrun (by cases hod:o.dst<;>simp [Act.put,hd]) q2 q4 ?_
    intro C'' f'' H'' a'' w'' p1 p2 p3 p4 p5 p6
    exact hQ C'' f'' H'' a'' w'' (q1.trans p1) p2 p3 (q3.trans (by rw [←q1.B];exact p4)) p5 p6
   unfold wpOp
   rw [ho]
   simp only
   rcases hstep o f H v H1 C a w d1 hw hf hex with ⟨h1,h2,h3⟩|⟨h1,h2⟩
   ·rw [if_neg (by rw [h1];simp)]
    subst h2 h3
    exact next C _ w (.refl _) hw (.refl _ _) (hf.put o.dst (zas d1) VRel.undefV)
   ·rw [if_pos h1]
    left
    exact h2 _ _ next
def zH:PV→List Nat
 | .ptr id _ _=>[id]
 | .msl id _ _ _ _ _=>[id]
 | .mp id _=>[id]
 | _=>[]
def zdU (op:Op) (f:Nat→PV):List Nat:=(op.operands.toList.map fun x=>zH (ev f x)).flatten
theorem zhD {op:Op} {f:Nat→PV} {x:Operand} {id:Nat} (hx:x∈op.operands.toList) (hi:id∈zH (ev f x)):id∈zdU op f:=List.mem_flatten.2 ⟨_,List.mem_map.2 ⟨x,hx,rfl⟩,hi⟩
def zaC:Op→Bool
 | .nilCheck .. | .fieldAddr .. | .indexAddr .. | .slice .. | .binOp .. =>true
 | .call { callee:=.builtin .len,.. }=>true
 | _=>false
variable {K:za}
def VEq (H K:za) (id:Nat):Prop:=(K[id]?).map Blk.ver=(H[id]?).map Blk.ver
theorem zct {id:Nat} (h:VEq H K id) (ver:Nat):zbd K id ver=zbd H id ver:=by
 unfold VEq at h
 unfold zbd
 cases h1:H[id]? <;>cases h2:K[id]? <;>rw [h1,h2] at h<;>simp at h
 simp [h]
theorem zt6 {x:PV} (h:∀ id∈zH x,VEq H K id):zhg K x=zhg H x:=by
 cases x<;>simp only [zhg]
 rename_i id ver off
 rw [zct (h id (by simp [zH]))]
theorem zt9 {op:BinOp} {t:TypeId} {x y:PV} (hx:∀ id∈zH x,VEq H K id) (hy:∀ id∈zH y,VEq H K id):ze5 P K op t x y=ze5 P H op t x y:=by
 unfold ze5
 split<;>try rfl
 ·rename_i id ver off;rw [zct (hx id (by simp [zH]))]
 ·rename_i id ver off;rw [zct (hy id (by simp [zH]))]
theorem zm6 {op:BinOp} {t:TypeId} {x:PV} (hx:∀ id∈zH x,VEq H K id):zbu P K op t x=zbu P H op t x:=by
 unfold zbu
 split<;>try rfl
 split<;>try rfl
 rename_i id ver off n sz g
 rw [zct (hx id (by simp [zH]))]
theorem zoT {t:TypeId} {x:PV} {lo hi mx:Option PV} (hx:∀ id∈zH x,VEq H K id):zcr P K t x lo hi mx=zcr P H t x lo hi mx:=by
 unfold zcr
 split<;>try rfl
 ·rename_i e id ver off len sz g hu;rw [zct (hx id (by simp [zH]))]
 ·rename_i len e id ver off hu;rw [zct (hx id (by simp [zH]))]
theorem zik {s:TypeId} {x:PV} {f:Nat} (hx:∀ id∈zH x,VEq H K id):zai P K s x f=zai P H s x f:=by
 cases x<;>simp only [zai]
 rename_i id ver off
 simp only [zct (hx id (by simp [zH]))]
theorem zih {t:TypeId} {x i:PV} (hx:∀ id∈zH x,VEq H K id):zah P K t x i=zah P H t x i:=by
 unfold zah
 split<;>try rfl
 ·rename_i e id ver off len sz g k i hu;rw [zct (hx id (by simp [zH]))]
 ·rename_i len e id ver off k i hu;rw [zct (hx id (by simp [zH]))]
theorem zt7 {t:TypeId} {x:PV} (hx:∀ id∈zH x,VEq H K id):ze1 P K t x=ze1 P H t x:=by
 unfold ze1
 split<;>try rfl
 rename_i e id ver off n sz g hu
 rw [zct (hx id (by simp [zH]))]
theorem zgq {sz:Nat} {x:PV} (hx:∀ id∈zH x,K[id]? =H[id]?):zaI K sz x=zaI H sz x:=by
 cases x<;>simp only [zaI]
 rename_i id ver off len s g
 rw [hx id (by simp [zH])]
theorem zrE {t:TypeId} {x:PV} (hx:∀ id∈zH x,K[id]? =H[id]?):zc8 P K t x=zc8 P H t x:=by
 cases x<;>simp only [zc8]
 rename_i id ver off
 rw [hx id (by simp [zH])]
theorem zrH {s d:TypeId} {x:PV} (hx:∀ id∈zH x,K[id]? =H[id]?):zdT P K s d x=zdT P H s d x:=by
 unfold zdT
 split<;>try rfl
 rw [zgq hx]
theorem zrD {t:TypeId} {m k:PV} {ok:Bool} (hx:∀ id∈zH m,K[id]? =H[id]?):zc7 P K t m k ok=zc7 P H t m k ok:=by
 have:zap P K t m=zap P H t m:=by
  unfold zap
  split<;>try rfl
  rename_i kt e id ver hu
  rw [hx id (by simp [zH])]
 unfold zc7
 rw [this]
theorem ze8 {x:Option PV} {v:PV} {H':za} (h:(x.map fun v=>(v,H))=some (v,H')):(x.map fun v=>(v,K))=some (v,K):=by
 simp only [Option.map_eq_some_iff,Prod.mk.injEq] at h ⊢
 obtain ⟨u,h1,h2,_⟩:=h
 exact ⟨u,h1,h2,trivial⟩
theorem zgz {f:Nat→PV} {op:Op} {v:PV} {H':za} (h:zaC op=true) (hi:∀ id∈zdU op f,VEq H K id) (hp:pop P op f H=some (v,H')):pop P op f K=some (v,K):=by
 have ids:∀ x∈op.operands.toList,∀ id∈zH (ev f x),VEq H K id:=fun x hx id hid=>hi id (zhD hx hid)
 cases op<;>try (simp [zaC] at h;done)
 case nilCheck x=>simp only [pop] at hp ⊢;rw [zt6 (ids x (by simp [Op.operands]))];exact ze8 hp
 case fieldAddr s x k=>simp only [pop] at hp ⊢;rw [zik (ids x (by simp [Op.operands]))];exact ze8 hp
 case indexAddr t x i=>simp only [pop] at hp ⊢;rw [zih (ids x (by simp [Op.operands]))];exact ze8 hp
 case slice t x lo hi mx=>simp only [pop] at hp ⊢;rw [zoT (ids x (by simp [Op.operands]))];exact ze8 hp
 case binOp op t x y z=>
  simp only [pop] at hp ⊢
  split at hp
  ·rw [zm6 (ids x (by simp [Op.operands]))];exact ze8 hp
  split at hp
  ·exact ze8 hp
  ·rw [zt9 (ids x (by simp [Op.operands])) (ids y (by simp [Op.operands]))];exact ze8 hp
 case call c=>
  obtain ⟨callee,args,ts⟩:=c
  cases callee with
  | builtin b=>
   cases b<;>try (simp [zaC] at h;done)
   have key:∀ (tl:List TypeId) (al:List PV),(∀ x∈al,∀ id∈zH x,VEq H K id)→zy P H .len tl al=some (v,H')→zy P K .len tl al=some (v,K):=fun tl al hal hq=>by
    match tl,al,hq with
    | [t],[x],hq=>
     simp only [zy] at hq ⊢
     rw [zt7 (hal x (by simp))];exact ze8 hq
    | [],_,hq=>simp [zy] at hq
    | _::_::_,_,hq=>simp [zy] at hq
    | [_],[],hq=>simp [zy] at hq
    | [_],_::_::_,hq=>simp [zy] at hq
   simp only [pop] at hp ⊢
   refine key _ _ (fun x hx id hid=> ?_) hp
   obtain ⟨y,hy,rfl⟩:=List.mem_map.1 hx
   exact ids y (by simp [Op.operands,Call.operands];exact Array.mem_toList_iff.1 hy) id hid
  | _=>simp [zaC] at h
theorem zjv {f:Nat→PV} {op:Op} {v:PV} {H':za} (h:eff op=false) (hi:∀ id∈zdU op f,K[id]? =H[id]?) (hp:pop P op f H=some (v,H')):pop P op f K=some (v,K):=by
 have ids:∀ x∈op.operands.toList,∀ id∈zH (ev f x),K[id]? =H[id]? :=fun x hx id hid=>hi id (zhD hx hid)
 cases hl:zaC op with
 | true=>exact zgz hl (fun id hid=>by unfold VEq;rw [hi id hid]) hp
 | false=>
 cases hpu:zaL op with
 | true=>exact (zao hpu hp K).2
 | false=>
 cases op<;>try (simp [eff] at h;done)
 all_goals try (simp [zaC] at hl;done)
 all_goals try (simp [zaL] at hpu;done)
 case load t x=>simp only [pop] at hp ⊢;rw [zrE (ids x (by simp [Op.operands]))];exact ze8 hp
 case convert s d x=>simp only [pop] at hp ⊢;rw [zrH (ids x (by simp [Op.operands]))];exact ze8 hp
 case lookup t m k ok=>simp only [pop] at hp ⊢;rw [zrD (ids m (by simp [Op.operands]))];exact ze8 hp
 case makeFunc fn x y=>cases fn<;>simp only [pop,Option.some.injEq,Prod.mk.injEq] at hp ⊢<;>first|exact ⟨hp.1,trivial⟩|cases hp
 case call c=>
  obtain ⟨callee,args,ts⟩:=c
  cases callee with
  | builtin b=>
   simp only [eff] at h
   simp only [pop] at hp ⊢
   unfold zy at hp ⊢
   split at hp
   ·simp [zaC] at hl
   ·simp [zli] at h
   ·simp [zli] at h
   ·exact ze8 hp
   ·exact ze8 hp
   ·cases hp
  | _=>simp only [pop] at hp;cases hp
 all_goals (simp only [pop] at hp;cases hp)
structure Ag (ws rs:List Nat) (H K:za):Prop where
 len:K.length=H.length
 all:∀ i,i∉ws→K[i]? =H[i]?
 ver:∀ i,i∉rs→VEq H K i
theorem Ag.refl (ws rs:List Nat) (H:za):Ag ws rs H H:=⟨rfl,fun _ _=>rfl,fun _ _=>rfl⟩
theorem Ag.symm {ws rs:List Nat} {H K:za} (h:Ag ws rs H K):Ag ws rs K H:=⟨h.len.symm,fun i hi=>(h.all i hi).symm,fun i hi=>(h.ver i hi).symm⟩
theorem Ag.trans {ws rs:List Nat} {H K L:za} (h:Ag ws rs H K) (k:Ag ws rs K L):Ag ws rs H L:=⟨k.len.trans h.len,fun i hi=>(k.all i hi).trans (h.all i hi),fun i hi=>Eq.trans (k.ver i hi) (h.ver i hi)⟩
theorem Ag.set {ws rs:List Nat} {H:za} {id:Nat} {k b:Blk} (hk:H[id]? =some k) (hw:id∈ws) (hv:b.ver=k.ver∨id∈rs):Ag ws rs H (H.set id b):=by
 have hid:id<H.length:=(List.getElem?_eq_some_iff.1 hk).1
 refine ⟨by simp,fun i hi=> ?_,fun i hi=> ?_⟩
 ·rw [List.getElem?_set_ne (show id≠i from fun e=>hi (by rw [←e];exact hw))]
 ·unfold VEq
  by_cases e:id=i
  ·subst e
   rcases hv with hv|hv
   ·rw [List.getElem?_set_self hid,hk];simp [hv]
   ·exact absurd hv hi
  ·rw [List.getElem?_set_ne e]
def rsv (rs:List (Nat×Nat)) (d:Option Nat):Option Nat:=match d with
 | none=>none
 | some d=>match rs with
  | []=>none
  | (t,r)::l=>match Nat.beq t d with|true=>some r|false=>rsv l (some d)
def zkX (P:Program) (elem:TypeId) (r:Nat) (H:za):Option (PV×za):=match zk P elem,H[r]? with
 | some z,some k=>if k.e=elem∧k.ver=0 then some (.ptr r 1 0,H.set r ⟨elem,1,z⟩) else none
 | _,_=>none
def zgr (rs:List (Nat×Nat)) (o:Oper):Option (TypeId×Nat):=match o.op with
 | .alloc elem=>match rsv rs o.dst with|some r=>some (elem,r)|none=>none
 | _=>none
def zif (P:Program) (rs:List (Nat×Nat)) (o:Oper) (f:Nat→PV) (H:za):Option (PV×za):=match zgr rs o with
 | some (elem,r)=>zkX P elem r H
 | none=>pop P o.op f H
def zbx:Op→Bool
 | .store .. =>true
 | _=>false
def zmX (op:Op) (f:Nat→PV):Option Nat:=match op with
 | .store _ x _=>match ev f x with
  | .ptr id _ _=>some id
  | _=>none
 | _=>none
def zl5 (ids ws:List Nat):Bool:=ids.all fun i=> !(ws.elem i)
def zj8 (ws:List Nat) (rs:List (Nat×Nat)) (o:Oper) (f:Nat→PV):Bool:=match zgr rs o with
 | some (_,r)=>ws.elem r&&(rs.map (·.2)).elem r
 | none=>match zbx o.op with
  | true=>match zmX o.op f with|some id=>ws.elem id|none=>false
  | false=>match zaL o.op||eff o.op with
   | true=>true
   | false=>match zaC o.op with
    | true=>zl5 (zdU o.op f) (rs.map (·.2))
    | false=>zl5 (zdU o.op f) ws
def ExH (P:Program) (all:List Oper) (ws:List Nat) (rs:List (Nat×Nat)) (o:Oper) (f:Nat→PV) (H:za) (v:PV) (H':za):Prop:=
 (za7 all f o=some false∧v= .tup []∧H'=H)∨
 (za7 all f o=some true∧match zr o.op f with
  | some (fn,args)=>H'=H∧∀ K,Ag ws (rs.map (·.2)) H K→CallOk P fn args K v K
  | none=>zif P rs o f H=some (v,H')∧zj8 ws rs o f=true)
def zux (rs:List (Nat×Nat)) (o:Oper):Bool:=zbx o.op||(zgr rs o).isSome
def zuy (rs:List (Nat×Nat)) (o:Oper):Bool:= !eff o.op&& !(zgr rs o).isSome
theorem zjp {rs:List (Nat×Nat)} {o:Oper} {f:Nat→PV} {er:TypeId×Nat} (h:zgr rs o=some er):zr o.op f=none:=by
 unfold zgr at h
 split at h
 ·rename_i elem ho;rw [ho];rfl
 ·cases h
theorem zhZ {op:Op} {f:Nat→PV} (h:zbx op=true):zr op f=none:=by
 cases op<;>first|(simp [zbx] at h;done)|rfl
theorem zkJ {rs:List (Nat×Nat)} {o:Oper} {f g:Nat→PV} (h:∀ x∈o.op.operands.toList,ev f x=ev g x):zif P rs o f H=zif P rs o g H:=by
 unfold zif
 split
 ·rfl
 ·exact ze0 h
theorem zlq {ws:List Nat} {rs:List (Nat×Nat)} {o:Oper} {f g:Nat→PV} (h:∀ x∈o.op.operands.toList,ev f x=ev g x):zj8 ws rs o f=zj8 ws rs o g:=by
 have e1:zdU o.op f=zdU o.op g:=by
  unfold zdU
  congr 1
  exact List.map_congr_left fun x hx=>by rw [h x hx]
 have e2:zmX o.op f=zmX o.op g:=by
  unfold zmX
  split
  ·rename_i t x y ho
   rw [ho] at h
   rw [h x (by simp [Op.operands])]
  ·rfl
 unfold zj8
 rw [e1,e2]
theorem ExH.congr {all:List Oper} {ws:List Nat} {rs:List (Nat×Nat)} {o:Oper} {f g:Nat→PV} {v:PV} {H':za} (h:∀ t∈zhA (all.map (·.dst)) o,f t=g t) (he:ExH P all ws rs o f H v H'):ExH P all ws rs o g H v H':=by
 have e1:za7 all f o=za7 all g o:=zcL fun t ht=>h t (List.mem_append.2 (.inr ht))
 have e2:∀ x∈o.op.operands.toList,ev f x=ev g x:=fun x hx=>zeB fun t ht=>h t (List.mem_append.2 (.inl (zeq (ht▸hx))))
 unfold ExH at he ⊢
 rw [←e1,←zbv e2,←zkJ e2,←zlq e2]
 exact he
theorem zjM {ids ws:List Nat} (h:zl5 ids ws=true):∀ i∈ids,i∉ws:=fun i hi hw=>by
 have:=List.all_eq_true.1 h i hi
 rw [List.elem_eq_mem] at this
 simp [hw] at this
theorem ExH.move {all:List Oper} {ws:List Nat} {rs:List (Nat×Nat)} {o:Oper} {f:Nat→PV} {v:PV} {H' K:za} (hr:zuy rs o=true∨zaL o.op=true) (he:ExH P all ws rs o f H v H'):H'=H∧(Ag ws (rs.map (·.2)) H K→ExH P all ws rs o f K v K):=by
 have hres:zgr rs o=none:=by
  rcases hr with hr|hr
  ·simp only [zuy,Bool.and_eq_true,Bool.not_eq_true'] at hr
   cases h:zgr rs o with
   | none=>rfl
   | some r=>rw [h] at hr;simp at hr
  ·unfold zgr
   split
   ·rename_i elem ho;rw [ho] at hr;simp [zaL] at hr
   ·rfl
 rcases he with ⟨h1,h2,h3⟩|⟨h1,h2⟩
 ·exact ⟨h3,fun _=>.inl ⟨h1,h2,rfl⟩⟩
 ·split at h2
  ·rename_i fn args hc
   exact ⟨h2.1,fun ha=>.inr ⟨h1,by rw [hc];exact ⟨rfl,fun L hL=>h2.2 L (ha.trans hL)⟩⟩⟩
  ·rename_i hc
   obtain ⟨hp,hk⟩:=h2
   have hpp:pop P o.op f H=some (v,H'):=by unfold zif at hp;rw [hres] at hp;exact hp
   have heff:eff o.op=false∨zaL o.op=true:=by
    rcases hr with hr|hr
    ·simp only [zuy,Bool.and_eq_true,Bool.not_eq_true'] at hr;exact .inl hr.1
    ·exact .inr hr
   have hH:H'=H:=by
    rcases heff with h|h
    ·exact zcz h hpp
    ·exact (zao h hpp H).1
   refine ⟨hH,fun ha=>.inr ⟨h1,?_⟩⟩
   rw [hc]
   refine ⟨?_,hk⟩
   unfold zif
   rw [hres]
   cases hpu:zaL o.op with
   | true=>exact (zao hpu hpp K).2
   | false=>
    have he':eff o.op=false:=by rcases heff with h|h<;>simp_all
    have hst:zbx o.op=false:=by
     cases hs:zbx o.op with
     | false=>rfl
     | true=>cases ho:o.op<;>rw [ho] at hs he'<;>simp [zbx,eff] at hs he'
    unfold zj8 at hk
    rw [hres,hst,hpu,he'] at hk
    simp only [Bool.or_self] at hk
    cases hl:zaC o.op with
    | true=>
     rw [hl] at hk
     exact zgz hl (fun id hid=>ha.ver id (zjM hk id hid)) hpp
    | false=>
     rw [hl] at hk
     exact zjv he' (fun id hid=>ha.all id (zjM hk id hid)) hpp
theorem ExH.write {all:List Oper} {ws:List Nat} {rs:List (Nat×Nat)} {o:Oper} {f:Nat→PV} {v:PV} {H':za} (hr:zux rs o=true) (he:ExH P all ws rs o f H v H'):Ag ws (rs.map (·.2)) H H':=by
 rcases he with ⟨_,_,h3⟩|⟨_,h2⟩
 ·rw [h3];exact .refl _ _ _
 ·have hc:zr o.op f=none:=by
   simp only [zux,Bool.or_eq_true] at hr
   rcases hr with hr|hr
   ·exact zhZ hr
   ·obtain ⟨er,her⟩:=Option.isSome_iff_exists.1 hr
    exact zjp her
  rw [hc] at h2
  obtain ⟨hp,hk⟩:=h2
  unfold zif at hp
  unfold zj8 at hk
  cases hres:zgr rs o with
  | some er=>
   obtain ⟨elem,r⟩:=er
   rw [hres] at hp hk
   simp only [Bool.and_eq_true] at hk
   simp only [zkX] at hp
   split at hp
   ·rename_i z k hz hkk
    split at hp
    ·rename_i hq
     simp only [Option.some.injEq,Prod.mk.injEq] at hp
     rw [←hp.2]
     exact .set hkk (by have:=hk.1;rw [List.elem_eq_mem] at this;simpa using this) (.inr (by have:=hk.2;rw [List.elem_eq_mem] at this;simpa using this))
    ·cases hp
   ·cases hp
  | none=>
   rw [hres] at hp hk
   have hs:zbx o.op=true:=by
    simp only [zux,hres,Bool.or_eq_true] at hr
    rcases hr with hr|hr
    ·exact hr
    ·simp at hr
   rw [hs] at hk
   simp only at hk hp
   cases ho:o.op<;>rw [ho] at hs hk hp<;>try (simp [zbx] at hs;done)
   rename_i t x y
   simp only [zmX] at hk
   simp only [pop,Option.map_eq_some_iff,Prod.mk.injEq] at hp
   obtain ⟨H2,h1,_,rfl⟩:=hp
   unfold zcQ at h1
   split at h1
   ·rename_i id ver off hx
    rw [hx] at hk
    simp only at hk
    split at h1
    ·rename_i k hkk
     split at h1
     ·simp only [Option.map_eq_some_iff] at h1
      obtain ⟨c,_,rfl⟩:=h1
      exact .set hkk (by rw [List.elem_eq_mem] at hk;simpa using hk) (.inl rfl)
     ·cases h1
    ·cases h1
   ·cases h1
def stpH (P:Program) (ws:List Nat) (rs:List (Nat×Nat)) (ds:List (Option Nat)) (o:Oper) (F:Fr) (H:za):Option (Fr×za):=
 match zac ds F o with
 | none=>none
 | some b=>cond b (match zj8 ws rs o (slot F) with
  | true=>(match zif P rs o (slot F) H with|some (v,H')=>some (put F o.dst v,H')|none=>none)
  | false=>none) (some (put F o.dst (.tup []),H))
def VCk (P:Program) (ws:List Nat) (rs:List (Nat×Nat)) (o:Oper) (F:Fr) (H:za) (K:Fr→za→Prop):Prop:=
 match zr o.op (slot F) with
 | some (g,args)=>∃ v,(∀ L,Ag ws (rs.map (·.2)) H L→CallOk P g args L v L)∧K (put F o.dst v) H
 | none=>False
def VCh (P:Program) (ws:List Nat) (rs:List (Nat×Nat)) (ds:List (Option Nat)) (o:Oper) (F:Fr) (H:za) (K:Fr→za→Prop):Prop:=
 match zac ds F o with
 | none=>False
 | some b=>(b=true→VCk P ws rs o F H K)∧(b=false→K (put F o.dst (.tup [])) H)
theorem Vs.place {E:Env} (e:Nat):Vs E F H F (H++[⟨e,0,[]⟩]):=fun _ C a w hw hf=>by
 obtain ⟨g1,g2⟩:=hw.ghost e 0
 exact ⟨_,g1.toN _,g2,hf.mono g1⟩
theorem zso {i j:Nat} {l:List Nat} (h:i≠j):(j::l).elem i=l.elem i:=by
 simp [List.elem_cons,h]
theorem zqd (i:Nat) (l:List Nat):(i::l).elem i=true:=by simp
theorem zns (i:Nat):([]:List Nat).elem i=false:=rfl
end Go.Proofs.YtjgmdlcjbgiekaaGreatDoor.Pm
namespace Go.Proofs.YtjgmdlcjbgiekaaGreatDoor.Pm
set_option linter.all false
open Go.RowKit
variable {P:Program} {H:za} {F:Fr}
theorem zob (ds:List (Option Nat)) (o:Oper):stp P ds o F H=match zac ds F o with
  | none=>none
  | some b=>cond b (match pop P o.op (slot F) H with|some (v,H')=>some (put F o.dst v,H')|none=>none) (some (put F o.dst (.tup []),H)):=by
 unfold stp
 cases zac ds F o with
 | none=>rfl
 | some b=>cases b<;>rfl
theorem zj {ds:List (Option Nat)} {l:List Oper} {K:Fr→za→Prop} {x:Bool} {A B:Option (Fr×za)} (h1:x=true→VO P ds l A K) (h2:x=false→VO P ds l B K):VO P ds l (cond x A B) K:=by
 cases x with
 | true=>exact h1 rfl
 | false=>exact h2 rfl
theorem zn {ds:List (Option Nat)} {l:List Oper} {K:Fr→za→Prop} {x:Bool} {A B:Option (Fr×za)} (h1:x=true→VOd P ds l A K) (h2:x=false→VOd P ds l B K):VOd P ds l (cond x A B) K:=by
 cases x with
 | true=>exact h1 rfl
 | false=>exact h2 rfl
theorem zN {ds:List (Option Nat)} {l:List Oper} {K:Fr→za→Prop} {x:Bool} {A B:Option (Fr×za)} (h1:x=true→VOg P ds l A K) (h2:x=false→VOg P ds l B K):VOg P ds l (cond x A B) K:=by
 cases x with
 | true=>exact h1 rfl
 | false=>exact h2 rfl
theorem VC.guard {ds:List (Option Nat)} {o:Oper} {K:Fr→za→Prop} {x:Bool} (ha:zac ds F o=some x) (h1:x=true→VC P ds { o with guard:=none } F H K) (h2:x=false→K (put F o.dst (.tup [])) H):VC P ds o F H K:=by
 cases x with
 | true=>
  have:=h1 rfl
  unfold VC at this ⊢
  rw [ha]
  exact this
 | false=>
  unfold VC
  rw [ha]
  exact h2 rfl
theorem VCd.guard {ds:List (Option Nat)} {o:Oper} {K:Fr→za→Prop} {x:Bool} (ha:zac ds F o=some x) (h1:x=true→VCd P ds { o with guard:=none } F H K) (h2:x=false→K (put F o.dst (.tup [])) H):VCd P ds o F H K:=by
 cases x with
 | true=>
  have:=h1 rfl
  unfold VCd at this ⊢
  rw [ha]
  exact this
 | false=>
  unfold VCd
  rw [ha]
  exact h2 rfl
def VCx (P:Program) (o:Oper) (F:Fr) (H:za) (K:Fr→za→Prop):Prop:=
 match zr o.op (slot F) with
 | some (g,args)=>∃ R,CallEx P g args H R∧∀ v H',R v H'→K (put F o.dst v) H'
 | none=>False
def VCy (P:Program) (o:Oper) (F:Fr) (H:za) (K:Fr→za→Prop):Prop:=
 match zr o.op (slot F) with
 | some (g,args)=>∃ v,(CallOk P g args H v H∧(zan o.op=true→∀ K,CallOk P g args K v K))∧K (put F o.dst v) H
 | none=>False
theorem zwX (ds:List (Option Nat)) (o:Oper) (K:Fr→za→Prop):VC P ds o F H K=match zac ds F o with
  | none=>False
  | some b=>(b=true→VCx P o F H K)∧(b=false→K (put F o.dst (.tup [])) H):=by
 unfold VC VCx
 cases zac ds F o with
 | none=>rfl
 | some b=>cases b<;>simp<;>exact Iff.rfl
theorem zvi (ds:List (Option Nat)) (o:Oper) (K:Fr→za→Prop):VCd P ds o F H K=match zac ds F o with
  | none=>False
  | some b=>(b=true→VCy P o F H K)∧(b=false→K (put F o.dst (.tup [])) H):=by
 unfold VCd VCy
 cases zac ds F o with
 | none=>rfl
 | some b=>cases b<;>simp<;>exact Iff.rfl
def VCz (P:Program) (o:Oper) (F:Fr) (H:za) (K:Fr→za→Prop):Prop:=
 match zr o.op (slot F) with
 | some (g,args)=>∃ v,((∀ L,CallOk P g args (H++L) v (H++L))∧(zan o.op=true→∀ K,CallOk P g args K v K))∧K (put F o.dst v) H
 | none=>False
theorem zvh (ds:List (Option Nat)) (o:Oper) (K:Fr→za→Prop):VCg P ds o F H K=match zac ds F o with
  | none=>False
  | some b=>(b=true→VCz P o F H K)∧(b=false→K (put F o.dst (.tup [])) H):=by
 unfold VCg VCz
 cases zac ds F o with
 | none=>rfl
 | some b=>cases b<;>simp<;>exact Iff.rfl
theorem VCz.call {o:Oper} {K:Fr→za→Prop} {g:FuncId} {args:List PV} {v:PV} (h:∀ L,CallOk P g args (H++L) v (H++L)) (hc:zr o.op (slot F)=some (g,args)) (hk:K (put F o.dst v) H) (hp:zan o.op=false:=by rfl):VCz P o F H K:=by
 unfold VCz
 simp only [hc]
 exact ⟨v,⟨h,fun e=>by rw [hp] at e;cases e⟩,hk⟩
theorem VCx.call {o:Oper} {K:Fr→za→Prop} {g:FuncId} {args:List PV} {v:PV} {H':za} (h:CallOk P g args H v H') (hc:zr o.op (slot F)=some (g,args)) (hk:K (put F o.dst v) H'):VCx P o F H K:=by
 unfold VCx
 simp only [hc]
 exact ⟨_,h.toEx,fun v' H'' e=>by rw [e.1,e.2];exact hk⟩
theorem VCx.callR {o:Oper} {K:Fr→za→Prop} {g:FuncId} {args:List PV} {R:PV→za→Prop} (h:CallEx P g args H R) (hc:zr o.op (slot F)=some (g,args)) (hk:∀ v H',R v H'→K (put F o.dst v) H'):VCx P o F H K:=by
 unfold VCx
 simp only [hc]
 exact ⟨R,h,hk⟩
theorem VCy.call {o:Oper} {K:Fr→za→Prop} {g:FuncId} {args:List PV} {v:PV} (h:CallOk P g args H v H) (hc:zr o.op (slot F)=some (g,args)) (hk:K (put F o.dst v) H) (hp:zan o.op=false:=by rfl):VCy P o F H K:=by
 unfold VCy
 simp only [hc]
 exact ⟨v,⟨h,fun e=>by rw [hp] at e;cases e⟩,hk⟩
theorem VCy.callP {o:Oper} {K:Fr→za→Prop} {g:FuncId} {args:List PV} {v:PV} (h:∀ K,CallOk P g args K v K) (hc:zr o.op (slot F)=some (g,args)) (hk:K (put F o.dst v) H):VCy P o F H K:=by
 unfold VCy
 simp only [hc]
 exact ⟨v,⟨h H,fun _=>h⟩,hk⟩
theorem zpg (k k':IntKind) (a b:Int):zbc .add k a k' b=if k=k' then some (.int k (k.wrap (a+b))) else none:=rfl
theorem zo6 (k k':IntKind) (a b:Int):zbc .sub k a k' b=if k=k' then some (.int k (k.wrap (a - b))) else none:=rfl
theorem zpa (k k':IntKind) (a b:Int):zbc .mul k a k' b=if k=k' then some (.int k (k.wrap (a * b))) else none:=rfl
theorem zpf (k k':IntKind) (a b:Int):zbc .eql k a k' b=if k=k' then some (.bool (a==b)) else none:=rfl
theorem zo9 (k k':IntKind) (a b:Int):zbc .neq k a k' b=if k=k' then some (.bool (a !=b)) else none:=rfl
theorem zpb (k k':IntKind) (a b:Int):zbc .lss k a k' b=if k=k' then some (.bool (decide (a<b))) else none:=rfl
theorem zpc (k k':IntKind) (a b:Int):zbc .leq k a k' b=if k=k' then some (.bool (decide (a≤b))) else none:=rfl
theorem zpd (k k':IntKind) (a b:Int):zbc .gtr k a k' b=if k=k' then some (.bool (decide (b<a))) else none:=rfl
theorem zpe (k k':IntKind) (a b:Int):zbc .geq k a k' b=if k=k' then some (.bool (decide (b≤a))) else none:=rfl
theorem zo8 (k k':IntKind) (a b:Int):zbc .quo k a k' b=if k=k' then (if b=0 then none else some (.int k (k.wrap (a.tdiv b)))) else none:=rfl
theorem zo7 (k k':IntKind) (a b:Int):zbc .rem k a k' b=if k=k' then (if b=0 then none else some (.int k (a.tmod b))) else none:=rfl
theorem hp4 (H K:za) (a b c d e:Blk):(H++a::b::c::d::e::K)[H.length+4]? =some e:=by rw [List.getElem?_append_right (by omega)];simp
theorem hp5 (H K:za) (a b c d e f:Blk):(H++a::b::c::d::e::f::K)[H.length+5]? =some f:=by rw [List.getElem?_append_right (by omega)];simp
theorem hp6 (H K:za) (a b c d e f g:Blk):(H++a::b::c::d::e::f::g::K)[H.length+6]? =some g:=by rw [List.getElem?_append_right (by omega)];simp
theorem hs3 (H K:za) (a b c d x:Blk):(H++a::b::c::d::K).set (H.length+3) x=H++a::b::c::x::K:=by rw [List.set_append_right _ _ (by omega)];simp
theorem hs4 (H K:za) (a b c d e x:Blk):(H++a::b::c::d::e::K).set (H.length+4) x=H++a::b::c::d::x::K:=by rw [List.set_append_right _ _ (by omega)];simp
theorem hs5 (H K:za) (a b c d e f x:Blk):(H++a::b::c::d::e::f::K).set (H.length+5) x=H++a::b::c::d::e::x::K:=by rw [List.set_append_right _ _ (by omega)];simp
theorem hs6 (H K:za) (a b c d e f g x:Blk):(H++a::b::c::d::e::f::g::K).set (H.length+6) x=H++a::b::c::d::e::f::x::K:=by rw [List.set_append_right _ _ (by omega)];simp
theorem hl4 (H:za) (a b c d:Blk):(H++[a,b,c,d]).length=H.length+4:=by simp
theorem hl5 (H:za) (a b c d e:Blk):(H++[a,b,c,d,e]).length=H.length+5:=by simp
theorem hl6 (H:za) (a b c d e f:Blk):(H++[a,b,c,d,e,f]).length=H.length+6:=by simp
attribute [go_sem] hp4 hp5 hp6 hs3 hs4 hs5 hs6 hl4 hl5 hl6 zpg zo6 zpa zpf zo9 zpb zpc zpd zpe zo8 zo7 zwX zvi zvh VRg zsP zkh   VCh stpH zj8 zif zkX zgr rsv zbx zmX zl5 zdU zH zaC eff zli zaL zso zqd zns Op.operands true_implies Bool.true_eq_false Bool.false_eq_true VR zvg zsR VRd zsQ zcg zJ zob zac zr pop zcV zk5 zbu zc7 zc6 zap ev pvc pv1 slot put Nat.beq ze5 zru peq zcw zcR zdP zbV zhh zaP zdm List.range List.range.loop pun Option.map Option.bind zbd zaI zdT rd zc8 wr zcQ zai zil zah zii zaq zcr zc9 zbE zjA zbi zft zrC zm8 zem zy zhg zci zdr zfS PV.cells PV.cell zd3 zck zav Option.isSome_some Option.isSome_none kp hp0 hp1 hp2 hp3 hs0 hs1 hs2 hl1 hl2 hl3 List.append_assoc Nat.beq_refl List.length_cons List.length_nil List.all_cons List.all_nil zO zbE List.replicate_succ List.replicate_zero List.flatten_cons List.flatten_nil List.take_succ_cons List.take_zero List.take_nil List.drop_succ_cons List.drop_zero List.drop_nil Nat.zero_mul Nat.sub_self true_implies false_implies and_true true_and false_and and_false and_self not_true_eq_false not_false_eq_true Bool.false_eq_true Bool.false_and Bool.and_false Bool.true_or Bool.or_true Bool.false_or Bool.or_false if_true if_false ite_true ite_false forall_const List.map_cons List.map_nil List.cons_append List.nil_append List.append_nil Array.toList Nat.zero_add Nat.add_zero Nat.mul_one Nat.one_mul beq_self_eq_true Bool.true_and Bool.and_true List.getElem?_cons_succ List.getElem?_cons_zero List.getElem?_toArray List.set_cons_zero List.set_cons_succ beq_true beq_false Bool.not_true Bool.not_false decide_true decide_false cond_true cond_false zut zuu w64 w8 w32 zwK zwL zwU zwV zwQ zwR Int.toNat_natCast IntWalk.toNatUp
class Ld (P:Program) (E:Env) (c:Code) (Q:Exit→Fr→za→Prop) (r:outParam Code) (R:outParam (Exit→Fr→za→Prop)):Prop where
 h:∀ F H,PW P E r F H R→PW P E c F H Q
instance ld0 {P:Program} {E:Env} {Q:Exit→Fr→za→Prop} {id:Nat} {ops:Array Oper} {b:Bool}:Ld P E (.region id ops b) Q (.region id ops b) Q:=⟨fun _ _ h=>h⟩
instance ld1 {P:Program} {E:Env} {Q R:Exit→Fr→za→Prop} {x y r:Code} [k:Ld P E x (zgf (fun F' H'=>PW P E y F' H' Q) Q) r R]:Ld P E (.seq x y) Q r R:=⟨fun F H h=>PW.seq (k.h F H h)⟩
theorem PW.e {P:Program} {E:Env} {F:Fr} {H:za} {Q R:Exit→Fr→za→Prop} {c:Code} {id:Nat} {ops:Array Oper} {F':Fr} {H':za} [k:Ld P E c Q (.region id ops false) R] (hq:R .normal F' H') (hd:ops.toList.all (zR E.N)=true:=by rfl) (h:∀ K:Fr→za→Prop,K F' H'→VO P (ops.toList.map (·.dst)) ops.toList (some (F,H)) K:=by (intro K k;simp (maxSteps:=3000000) (disch:=omega) only [go_sem,↓reduceIte,reduceCtorEq];exact k)):PW P E c F H Q:=
 k.h _ _ (PW.rg hd fun K hK=>h K (hK _ _ hq))
theorem PW.f {P:Program} {E:Env} {F:Fr} {H:za} {Q R:Exit→Fr→za→Prop} {c:Code} {id:Nat} {ops:Array Oper} {F':Fr} {H':za} [k:Ld P E c Q (.region id ops false) R] (h:∀ K:Fr→za→Prop,K F' H'→VO P (ops.toList.map (·.dst)) ops.toList (some (F,H)) K) (hq:R .normal F' H') (hd:ops.toList.all (zR E.N)=true:=by rfl):PW P E c F H Q:=
 k.h _ _ (PW.rg hd fun K hK=>h K (hK _ _ hq))
instance ld2 {P:Program} {E:Env} {Q:Exit→Fr→za→Prop} {o:Operand} {a b:Code}:Ld P E (.cond o a b) Q (.cond o a b) Q:=⟨fun _ _ h=>h⟩
theorem PW.t {P:Program} {E:Env} {F:Fr} {H:za} {Q R:Exit→Fr→za→Prop} {c:Code} {o:Operand} {a b:Code} [k:Ld P E c Q (.cond o a b) R] (h:PW P E a F H R) (e:ev (slot F) o= .bool true:=by rfl):PW P E c F H Q:=k.h _ _ (PW.cond e (fun _=>h) (fun h=>by cases h))
theorem PW.u {P:Program} {E:Env} {F:Fr} {H:za} {Q R:Exit→Fr→za→Prop} {c:Code} {o:Operand} {a b:Code} [k:Ld P E c Q (.cond o a b) R] (h:PW P E b F H R) (e:ev (slot F) o= .bool false:=by rfl):PW P E c F H Q:=k.h _ _ (PW.cond e (fun h=>by cases h) (fun _=>h))
theorem PW.us {P:Program} {E:Env} {F:Fr} {H:za} {Q R:Exit→Fr→za→Prop} {c:Code} {o:Operand} {a:Code} [k:Ld P E c Q (.cond o a .skip) R] (h:R .normal F H) (e:ev (slot F) o= .bool false:=by rfl):PW P E c F H Q:=PW.u (k:=k) (PW.skip h) e
attribute [go_sem] zaJ ze1
theorem nqb:(∀ b:Bool,((!b)=true)=(b=false))∧(∀ b:Bool,((!b)=false)=(b=true))∧(∀ (p:Prop) [Decidable p],(decide p=true)=p)∧(∀ (p:Prop) [Decidable p],(decide p=false)=¬ p):=⟨fun b=>by cases b<;>simp,fun b=>by cases b<;>simp,fun p _=>by simp,fun p _=>by simp⟩
end Go.Proofs.YtjgmdlcjbgiekaaGreatDoor.Pm
