/-
  Parts of the proof, put together in one text. No condition.
-/
import Derived.Test.YtjgmdlcjbgiekaaGreatDoorQ14
namespace Go.Proofs.YtjgmdlcjbgiekaaGreatDoor.Pm
set_option linter.all false
open Go.RowKit
variable {P:Program} {C:Ctx} {H K:za} {w:World} {F:Fr} {a:Act} {N:Nat}
def zo0:List (Nat×List Nat)→Nat→List Nat
 | [],_=>[]
 | (s,ps)::l,t=>match Nat.beq s t with|true=>ps|false=>zo0 l t
def zeZ (pm:List (Nat×List Nat)):Operand→List Nat
 | .tmp t=>zo0 pm t
 | .const _=>[]
 | .func _=>[]
 | .global _=>[]
def zaB (pm:List (Nat×List Nat)) (op:Op):List Nat:=(op.operands.toList.map (zeZ pm)).flatten
def atP (ids ps:List Nat):List Nat:=ps.filterMap fun p=>ids[p]?
structure Fp where
 r:List Nat
 l:List Nat
 w:List Nat
 v:List Nat
def zbe (op:Op):Nat:=match zaL op with
 | true=>0
 | false=>match zJ op with
  | true=>7
  | false=>match eff op with
   | false=>(match zaC op with|true=>1|false=>2)
   | true=>match op with
    | .store .. =>3
    | .call { callee:=.builtin .append,.. }=>4
    | .call { callee:=.builtin .copy,.. }=>5
    | .mapUpdate .. =>6
    | .insert .. =>6
    | _=>8
def ziE (op:Op):Option Operand:=match op with
 | .store _ a _=>some a
 | .call { args,.. }=>args.toList[0]?
 | .mapUpdate _ m _ _=>some m
 | .insert _ m _ _=>some m
 | _=>none
def zdt (pm:List (Nat×List Nat)) (op:Op):List Nat:=match ziE op with|some x=>zeZ pm x|none=>[]
def zkM (P:Program) (op:Op) (f:Nat→PV):Option (Blk×(Nat→PV)):=match op with
 | .alloc elem=>(zk P elem).map fun z=>(⟨elem,1,z⟩,fun r=>.ptr r 1 0)
 | .box elem x=>match (ev f x).cells.all PV.cell with|true=>some (⟨elem,1,(ev f x).cells⟩,fun r=>.ptr r 1 0)|false=>none
 | .makeSlice t l c=>match P.underlying t,ev f l,ev f c with
  | some (.slice e),.int _ l,.int _ c=>match szT P e,byT P e,zk P e with
   | some n,some b,some z=>if 0≤l∧l≤c∧(b:Int) * c≤140737488355328∧c≤140737488355328∧z.length=n∧0<n then some (⟨e,1,zbE l.toNat z⟩,fun r=>.msl r 1 0 l.toNat n true) else none
   | _,_,_=>none
  | _,_,_=>none
 | .buildSlice t len parts=>match P.underlying t with
  | some (.slice e)=>match szT P e,zk P e with
   | some n,some z=>if z.length=n∧0<len * n∧len * n≤65536 then (zc9 (fun i=>some (i * n,n)) (zbE len z) (parts.toList.map fun p=>(p.1,ev f p.2))).map fun c=>(⟨e,1,c⟩,fun r=>.msl r 1 0 len n true) else none
   | _,_=>none
  | _=>none
 | .call { callee:=.builtin .append,args,argTypes }=>match argTypes.toList,args.toList.map (ev f) with
  | [t,tx],[.slice xs len full,.slice ys m _]=>match P.underlying t,P.underlying tx with
   | some (.slice e),some (.slice _)=>match szT P e,byT P e,zk P e with
    | some sz,some b,some z=>if 0<sz∧z.length=sz∧full=true∧xs.length=len * sz∧0<m∧ys.length=m * sz∧(len+m) * b≤140737488355328∧len+m≤140737488355328 then some (⟨e,1,xs++ys⟩,fun r=>.msl r 1 0 (len+m) sz true) else none
    | _,_,_=>none
   | _,_=>none
  | _,_=>none
 | _=>none
def zti:Op→Bool
 | .alloc .. | .box .. | .makeSlice .. | .buildSlice .. =>true
 | .call { callee:=.builtin .append,.. }=>true
 | _=>false
def zkE (rs:List (Nat×Nat)) (o:Oper):Option Nat:=match zti o.op with|true=>rsv rs o.dst|false=>none
def zaj (pm:List (Nat×List Nat)) (rs:List (Nat×Nat)) (ro:List Nat) (o:Oper):Fp:=match zkE rs o with
 | some p=>⟨[],[],[p],[p]⟩
 | none=>match zbe o.op with
  | 0=>⟨[],[],[],[]⟩
  | 1=>⟨[],zaB pm o.op,[],[]⟩
  | 2=>⟨zaB pm o.op,[],[],[]⟩
  | 3=>⟨[],[],zdt pm o.op,[]⟩
  | 4=>⟨zaB pm o.op,[],zdt pm o.op,zdt pm o.op⟩
  | 5=>⟨zaB pm o.op,[],zdt pm o.op,[]⟩
  | 6=>⟨zaB pm o.op,[],zdt pm o.op,[]⟩
  | 7=>match o.dst with
   | some d=>(match ro.elem d with|true=>⟨zaB pm o.op,zaB pm o.op,[],[]⟩|false=>⟨zaB pm o.op,zaB pm o.op,zaB pm o.op,zaB pm o.op⟩)
   | none=>⟨zaB pm o.op,zaB pm o.op,zaB pm o.op,zaB pm o.op⟩
  | _=>⟨[],[],[],[]⟩
def dis (a b:List Nat):Bool:=a.all fun i=> !(b.elem i)
theorem zuV {a b:List Nat} (h:dis a b=true):∀ i∈a,i∉b:=fun i hi hb=>by
 have:=List.all_eq_true.1 h i hi
 rw [List.elem_eq_mem] at this
 simp [hb] at this
def zfY (ds:List (Option Nat)) (pm:List (Nat×List Nat)) (rs:List (Nat×Nat)) (ro:List Nat) (x y:Oper):Bool:=
 clear ds x y&&clear ds y x&&dis (zaj pm rs ro x).w (zaj pm rs ro y).r&&dis (zaj pm rs ro x).w (zaj pm rs ro y).w&&dis (zaj pm rs ro y).w (zaj pm rs ro x).r&&dis (zaj pm rs ro x).v (zaj pm rs ro y).l&&dis (zaj pm rs ro y).v (zaj pm rs ro x).l
theorem zf3 {ids ps:List Nat} {i:Nat} (h:i∈atP ids ps):∃ p∈ps,ids[p]? =some i:=List.mem_filterMap.1 h
theorem zqC {ids ps:List Nat} {i:Nat} (h:i∈atP ids ps):i∈ids:=by
 obtain ⟨p,_,hp⟩:=zf3 h
 exact List.mem_of_getElem? hp
theorem zeF {ids a b:List Nat} (hn:ids.Nodup) (h:dis a b=true) {i:Nat} (ha:i∈atP ids a):i∉atP ids b:=fun hb=>by
 obtain ⟨p,hp,e⟩:=zf3 ha
 obtain ⟨q,hq,e'⟩:=zf3 hb
 have:p=q:=(List.getElem?_inj (List.getElem?_eq_some_iff.1 e).1 hn).1 (e.trans e'.symm)
 subst this
 exact zuV h p hp hq
structure Agr (ids:List Nat) (fp:Fp) (H K:za):Prop where
 len:K.length=H.length
 out:∀ i,i∉ids→K[i]? =H[i]?
 inn:∀ i,i∈atP ids fp.r∨i∈atP ids fp.w→K[i]? =H[i]?
 liv:∀ i,i∈atP ids fp.l→VEq H K i
theorem Agr.refl (ids:List Nat) (fp:Fp) (H:za):Agr ids fp H H:=⟨rfl,fun _ _=>rfl,fun _ _=>rfl,fun _ _=>rfl⟩
theorem Agr.trans {ids:List Nat} {fp:Fp} {H K L:za} (h:Agr ids fp H K) (k:Agr ids fp K L):Agr ids fp H L:=⟨k.len.trans h.len,fun i hi=>(k.out i hi).trans (h.out i hi),fun i hi=>(k.inn i hi).trans (h.inn i hi),fun i hi=>Eq.trans (k.liv i hi) (h.liv i hi)⟩
structure Upd (ids:List Nat) (fp:Fp) (H H':za):Prop where
 len:H'.length=H.length
 out:∀ i,i∉atP ids fp.w→H'[i]? =H[i]?
 ver:∀ i,i∉atP ids fp.v→VEq H H' i
theorem Upd.refl (ids:List Nat) (fp:Fp) (H:za):Upd ids fp H H:=⟨rfl,fun _ _=>rfl,fun _ _=>rfl⟩
theorem Upd.set {ids:List Nat} {fp:Fp} {id:Nat} {k b:Blk} (hk:H[id]? =some k) (hw:id∈atP ids fp.w) (hv:b.ver=k.ver∨id∈atP ids fp.v):Upd ids fp H (H.set id b):=by
 have hid:id<H.length:=(List.getElem?_eq_some_iff.1 hk).1
 refine ⟨by simp,fun i hi=> ?_,fun i hi=> ?_⟩
 ·rw [List.getElem?_set_ne (show id≠i from fun e=>hi (by rw [←e];exact hw))]
 ·unfold VEq
  by_cases e:id=i
  ·subst e
   rcases hv with hv|hv
   ·rw [List.getElem?_set_self hid,hk];simp [hv]
   ·exact absurd hv hi
  ·rw [List.getElem?_set_ne e]
def zgB (P:Program) (op:Op) (f:Nat→PV):Option PV:=match op with
 | .makeSlice t l c=>match P.underlying t,ev f l,ev f c with
  | some (.slice e),.int _ l,.int _ c=>match byT P e,zk P e with
   | some _,some _=>if l=0∧c=0 then some (.slice [] 0 true) else none
   | _,_=>none
  | _,_,_=>none
 | _=>none
def zd2 (P:Program) (ids:List Nat) (rs:List (Nat×Nat)) (o:Oper) (f:Nat→PV) (H:za):Option (PV×za):=match zkE rs o with
 | some p=>match ids[p]? with
  | some r=>match zkM P o.op f with
   | some (b,mk)=>match H[r]? with
    | some k=>if k.e=b.e∧k.ver=0 then some (mk r,H.set r b) else none
    | none=>none
   | none=>none
  | none=>(zgB P o.op f).map fun v=>(v,H)
 | none=>pop P o.op f H
def StI (P:Program) (ids:List Nat) (rs:List (Nat×Nat)) (o:Oper) (f:Nat→PV) (H:za) (v:PV) (H':za):Prop:=match zr o.op f with
 | some (g,args)=>CallOk P g args H v H'
 | none=>zd2 P ids rs o f H=some (v,H')
def Loc (P:Program) (ids:List Nat) (rs:List (Nat×Nat)) (fp:Fp) (o:Oper) (f:Nat→PV) (H:za) (v:PV) (H':za):Prop:=
 Upd ids fp H H'∧∀ K,Agr ids fp H K→∃ K',StI P ids rs o f K v K'∧Upd ids fp K K'∧∀ i,i∈atP ids fp.w→K'[i]? =H'[i]?
def ExI (P:Program) (all:List Oper) (ids:List Nat) (pm:List (Nat×List Nat)) (rs:List (Nat×Nat)) (ro:List Nat) (o:Oper) (f:Nat→PV) (H:za) (v:PV) (H':za):Prop:=
 (za7 all f o=some false∧v= .tup []∧H'=H)∨(za7 all f o=some true∧Loc P ids rs (zaj pm rs ro o) o f H v H')
theorem Loc.now {ids:List Nat} {rs:List (Nat×Nat)} {fp:Fp} {o:Oper} {f:Nat→PV} {v:PV} {H':za} (h:Loc P ids rs fp o f H v H'):StI P ids rs o f H v H':=by
 obtain ⟨u,h⟩:=h
 obtain ⟨K',h1,h2,h3⟩:=h H (.refl _ _ _)
 have:K'=H':=List.ext_getElem? fun i=>by
  by_cases hi:i∈atP ids fp.w
  ·exact h3 i hi
  ·rw [h2.out i hi,u.out i hi]
 rw [←this];exact h1
theorem Loc.read {ids:List Nat} {rs:List (Nat×Nat)} {fp:Fp} {o:Oper} {f:Nat→PV} {v:PV} (h:∀ K,Agr ids fp H K→StI P ids rs o f K v K):Loc P ids rs fp o f H v H:=
 ⟨.refl _ _ _,fun K hK=>⟨K,h K hK,.refl _ _ _,fun i hi=>hK.inn i (.inr hi)⟩⟩
theorem Loc.set {ids:List Nat} {rs:List (Nat×Nat)} {fp:Fp} {o:Oper} {f:Nat→PV} {v:PV} {id:Nat} {k b:Blk} (hk:H[id]? =some k) (hw:id∈atP ids fp.w) (hv:b.ver=k.ver∨id∈atP ids fp.v)
  (h:∀ K,Agr ids fp H K→StI P ids rs o f K v (K.set id b)):Loc P ids rs fp o f H v (H.set id b):=by
 refine ⟨.set hk hw hv,fun K hK=>⟨K.set id b,h K hK,.set ((hK.inn id (.inr hw)).trans hk) hw hv,fun i hi=> ?_⟩⟩
 by_cases e:id=i
 ·subst e
  have hid:id<H.length:=(List.getElem?_eq_some_iff.1 hk).1
  rw [List.getElem?_set_self hid,List.getElem?_set_self (by rw [hK.len];exact hid)]
 ·rw [List.getElem?_set_ne e,List.getElem?_set_ne e,hK.inn i (.inr hi)]
theorem zgA {ids:List Nat} {rs:List (Nat×Nat)} {o:Oper} {f g:Nat→PV} (h:∀ x∈o.op.operands.toList,ev f x=ev g x):zd2 P ids rs o f H=zd2 P ids rs o g H:=by
 have e:zkM P o.op f=zkM P o.op g:=by
  unfold zkM
  split
  ·rfl
  ·rename_i el x ho;rw [ho] at h;rw [h x (by simp [Op.operands])]
  ·rename_i t l c ho;rw [ho] at h;rw [h l (by simp [Op.operands]),h c (by simp [Op.operands])]
  ·rename_i t len parts ho
   rw [ho] at h
   have:parts.toList.map (fun p=>(p.1,ev f p.2))=parts.toList.map (fun p=>(p.1,ev g p.2)):=List.map_congr_left fun p hp=>by rw [h p.2 (by simp [Op.operands];exact ⟨_,Array.mem_toList_iff.1 hp⟩)]
   rw [this]
  ·rename_i args ts ho
   rw [ho] at h
   have:args.toList.map (ev f)=args.toList.map (ev g):=List.map_congr_left fun x hx=>h x (by simp [Op.operands,Call.operands];exact Array.mem_toList_iff.1 hx)
   rw [this]
  ·rfl
 have e0:zgB P o.op f=zgB P o.op g:=by
  unfold zgB
  split
  ·rename_i t l c ho;rw [ho] at h;rw [h l (by simp [Op.operands]),h c (by simp [Op.operands])]
  ·rfl
 unfold zd2
 split
 ·rw [e,e0]
 ·exact ze0 h
theorem ExI.congr {all:List Oper} {ids:List Nat} {pm:List (Nat×List Nat)} {rs:List (Nat×Nat)} {ro:List Nat} {o:Oper} {f g:Nat→PV} {v:PV} {H':za} (h:∀ t∈zhA (all.map (·.dst)) o,f t=g t) (he:ExI P all ids pm rs ro o f H v H'):ExI P all ids pm rs ro o g H v H':=by
 have e1:za7 all f o=za7 all g o:=zcL fun t ht=>h t (List.mem_append.2 (.inr ht))
 have e2:∀ x∈o.op.operands.toList,ev f x=ev g x:=fun x hx=>zeB fun t ht=>h t (List.mem_append.2 (.inl (zeq (ht▸hx))))
 unfold ExI Loc StI at he ⊢
 simp only [←e1,←zbv e2,←zgA e2]
 exact he
theorem zvN {all:List Oper} {ids:List Nat} {pm:List (Nat×List Nat)} {rs:List (Nat×Nat)} {ro:List Nat} (hn:ids.Nodup):zmP (ExI P all ids pm rs ro) (zfY (all.map (·.dst)) pm rs ro):=by
 intro x o f H vx Hx v H1 hc hx ho
 unfold zfY at hc
 simp only [Bool.and_eq_true] at hc
 obtain ⟨⟨⟨⟨⟨⟨c1,c2⟩,c3⟩,c4⟩,c5⟩,c6⟩,c7⟩:=hc
 have ho':ExI P all ids pm rs ro o f Hx v H1:=ho.congr fun t ht=>zb0 (za4 c1 t ht)
 have hx':∀ K K',ExI P all ids pm rs ro x f K vx K'→ExI P all ids pm rs ro x (upd f o.dst v) K vx K':=fun K K' h=>h.congr fun t ht=>(zb0 (za4 c2 t ht)).symm
 have hcm:=zgd (f:=f) (u:=vx) (v:=v) (zfj c1)
 rcases hx with ⟨x1,x2,rfl⟩|⟨x1,ux,lx⟩
 ·exact ⟨H1,ho',hx' _ _ (.inl ⟨x1,x2,rfl⟩),hcm⟩
 rcases ho' with ⟨o1,o2,rfl⟩|⟨o1,uo,lo⟩
 ·exact ⟨H,.inl ⟨o1,o2,rfl⟩,hx' _ _ (.inr ⟨x1,ux,lx⟩),hcm⟩
 have dxr:∀ {i},i∈atP ids (zaj pm rs ro x).w→i∉atP ids (zaj pm rs ro o).r:=fun h=>zeF hn c3 h
 have dxw:∀ {i},i∈atP ids (zaj pm rs ro x).w→i∉atP ids (zaj pm rs ro o).w:=fun h=>zeF hn c4 h
 have dor:∀ {i},i∈atP ids (zaj pm rs ro o).w→i∉atP ids (zaj pm rs ro x).r:=fun h=>zeF hn c5 h
 have dxv:∀ {i},i∈atP ids (zaj pm rs ro x).v→i∉atP ids (zaj pm rs ro o).l:=fun h=>zeF hn c6 h
 have dov:∀ {i},i∈atP ids (zaj pm rs ro o).v→i∉atP ids (zaj pm rs ro x).l:=fun h=>zeF hn c7 h
 have a1:Agr ids (zaj pm rs ro o) Hx H:=⟨ux.len.symm,fun i hi=>(ux.out i fun h=>hi (zqC h)).symm,fun i hi=>(ux.out i fun h=>by rcases hi with hi|hi;exact dxr h hi;exact dxw h hi).symm,fun i hi=>(ux.ver i fun h=>dxv h hi).symm⟩
 obtain ⟨H3,s3,u3,w3⟩:=lo H a1
 have a2:Agr ids (zaj pm rs ro x) H H3:=⟨u3.len,fun i hi=>u3.out i fun h=>hi (zqC h),fun i hi=>u3.out i fun h=>by rcases hi with hi|hi;exact dor h hi;exact dxw hi h,fun i hi=>u3.ver i fun h=>dov h hi⟩
 refine ⟨H3,.inr ⟨o1,u3,fun K hK=> ?_⟩,hx' _ _ (.inr ⟨x1,⟨?_,fun i hi=> ?_,fun i hi=> ?_⟩,fun K hK=> ?_⟩),hcm⟩
 ·obtain ⟨K',k1,k2,k3⟩:=lo K (a1.trans hK)
  exact ⟨K',k1,k2,fun i hi=>(k3 i hi).trans (w3 i hi).symm⟩
 ·rw [uo.len,ux.len,u3.len]
 ·by_cases hw:i∈atP ids (zaj pm rs ro o).w
  ·exact (w3 i hw).symm
  ·rw [uo.out i hw,ux.out i hi,u3.out i hw]
 ·by_cases hw:i∈atP ids (zaj pm rs ro o).w
  ·unfold VEq;rw [w3 i hw]
  ·have:=ux.ver i hi
   unfold VEq at this ⊢
   rw [uo.out i hw,u3.out i hw,this]
 ·obtain ⟨K',k1,k2,k3⟩:=lx K (a2.trans hK)
  exact ⟨K',k1,k2,fun i hi=>by rw [k3 i hi,uo.out i (dxw hi)]⟩
theorem zen {place:Nat→Option (Nat×Nat)}:∀ (parts:List (Nat×PV)) (cs ys:List PV),zc9 place cs parts=some ys→ys.length=cs.length
 | [],cs,ys,h=>by simp only [zc9,Option.some.injEq] at h;rw [h]
 | (i,v)::rest,cs,ys,h=>by
  simp only [zc9] at h
  split at h
  ·cases h
  ·rename_i off size hp
   split at h
   ·rename_i hq
    rw [zen rest _ _ h]
    simp only [zO,List.length_append,List.length_take,List.length_drop]
    omega
   ·cases h
theorem zjx {t tx ty e sz bb len m r:Nat} {full g:Bool} {xs ys z:List PV} {p q:Value} {k:Blk} (hw:WRel C H w) (hsv:VRel C (.slice xs len full) p) (hx:VRel C (.slice ys m g) q)
  (hu:P.underlying t=some (.slice e)) {e':TypeId} (hu':P.underlying tx=some (.slice e')) (hn:szT P e=some sz) (hb:byT P e=some bb) (hz:zk P e=some z)
  (hq:0<sz∧z.length=sz∧full=true∧xs.length=len * sz∧0<m∧ys.length=m * sz∧(len+m) * bb≤140737488355328∧len+m≤140737488355328) (hk:H[r]? =some k) (he:k.e=e) (hv:k.ver=0):
  ∃ C' u w',CLe C C'∧WRel C' (H.set r ⟨e,1,xs++ys⟩) w'∧Below C.B w w'∧VRel C' (.msl r 1 0 (len+m) sz true) u∧(Builtin.append_ #[t,tx] ty #[p,q]).run P w= .ok u w':=by
 have hid:r<H.length:=(List.getElem?_eq_some_iff.1 hk).1
 have g1:r<C.mu.length:=by rw [hw.len];exact hid
 have g2:r<C.vs.length:=by rw [hw.lenv];exact hid
 have g3:r<C.cp.length:=by rw [hw.lenc];exact hid
 obtain ⟨q1,q2,rfl,q4,q5,q6,q7,q8⟩:=hq
 obtain ⟨i,zv,hi,hzv,hzr,hzl,hzc⟩:=zae hz
 obtain ⟨ie,hie,hs⟩:=zaV hn
 obtain ⟨ib,hib,hby⟩:=zeE hb
 rw [hi] at hie hib
 injection hie with hie
 injection hib with hib
 subst hie hib
 have hsrc:zbi P H e sz tx (.slice ys m g)=some (ys,m):=by
  unfold zbi zaI
  simp only [hu',if_pos q6]
 obtain ⟨us,happ,hRn,hln,hnn,hcn⟩:=zeH hw hx hi hs hzv hz q2 q1 hsrc
 have hzsize:∀ m,(Builtin.zeroCells zv.cells m).size=m * sz:=fun m=>by
  rw [size_zeroCells,←Array.length_toList,hzl,q2]
 have hshape:∃ ad os,p= .slice ad len len∧os.length=xs.length∧Rel C xs os∧(∀ x∈xs,x.cell=true)∧((len=0∧os=[])∨∃ b o,ad=some ⟨b,o,none⟩∧At w b o os):=by
  cases hsv with
  | @slice _ _ cap b' o' _ us' hl' hM' hc' hR' hcap' hmax' hf'=>rw [hf' rfl];exact ⟨_,us',rfl,hl',hR',hc',.inr ⟨b',o',rfl,hw.at_imm hM'⟩⟩
  | sliceN=>exact ⟨_,[],rfl,rfl,fun j x u hx=>by simp at hx,fun x hx=>by simp at hx,.inl ⟨rfl,rfl⟩⟩
 obtain ⟨ad,os,rfl,hos,hRx,hcx,hat⟩:=hshape
 have hold:(Builtin.firstCells i.size len (.slice ad len len)).run P w.drew= .ok os.toArray w.drew:=by
  rw [hs];exact zcF (w:=w.drew) (by omega) (by rcases hat with h1|⟨b,o,h1,h2⟩;exact .inl h1;exact .inr ⟨b,o,h1,h2⟩)
 have hr:=zke (P:=P) (ty:=ty) hu hi hzv hold happ (by omega) (by rw [hby];exact q7) q8 (by rw [hs];exact q1)
 have hge:=grownCap_ge w (len+m) len e
 have hle:=grownCap_le_maxLen w (len+m) len e (by simp only [maxLen];omega)
 generalize grownCap w (len+m) len e=nc at hr hge hle
 generalize hcur:(os++us).toArray++Builtin.zeroCells zv.cells (nc - (len+m))=cur at hr
 have hsize:cur.size=nc * sz:=by
  rw [←hcur,Array.size_append,hzsize]
  simp only [List.size_toArray,List.length_append,hos,q4,hln,q6,←Nat.add_mul]
  congr 1
  omega
 have hfit:(xs++ys).length≤cur.size:=by
  rw [hsize,List.length_append,q4,q6,←Nat.add_mul]
  exact Nat.mul_le_mul_right _ hge
 obtain ⟨c1,c2,c30⟩:=hw.drew.move hk 1 (by omega) (xs++ys) cur (fun x hx=>by rcases List.mem_append.1 hx with hx|hx;exact hcx x hx;exact hcn x hx) hfit (fun j x u hx hu'=>by
  have hlt:j<(xs++ys).length:=(List.getElem?_eq_some_iff.1 hx).1
  refine Rel.append hos hRx hRn j x u hx ?_
  rw [←hcur,←Array.getElem?_toList,Array.toList_append,List.getElem?_append_left (by simp at hlt ⊢;omega)] at hu'
  exact hu')
 rw [he] at c2 c30
 have c3:=((Below.refl C.B w).drew).trans c30
 refine ⟨_,_,_,c1,c2,c3,?_,hr⟩
 refine .msl (by simp [g1]) (by simp [g2]) hge hle (fun _=>⟨rfl,?_⟩)
 simp [g3,hsize]
theorem zkL {op:Op} {f:Nat→PV} {b:Blk} {mk:Nat→PV} {r:Nat} {k:Blk} {o:Oper} (ho:o.op=op) (hw:WRel C H w) (hf:FRel C N f a) (h:zkM P op f=some (b,mk)) (hk:H[r]? =some k) (he:k.e=b.e) (hv:k.ver=0):
  ∃ C' u w',CLe C C'∧WRel C' (H.set r b) w'∧Below C.B w w'∧VRel C' (mk r) u∧(execOp a.eval o).run P w= .ok (.value u) w':=by
 have hid:r<H.length:=(List.getElem?_eq_some_iff.1 hk).1
 have g1:r<C.mu.length:=by rw [hw.len];exact hid
 have g2:r<C.vs.length:=by rw [hw.lenv];exact hid
 have g3:r<C.cp.length:=by rw [hw.lenc];exact hid
 unfold zkM at h
 split at h
 ·rename_i elem
  simp only [Option.map_eq_some_iff,Prod.mk.injEq] at h
  obtain ⟨z,hz,rfl,rfl⟩:=h
  obtain ⟨i,zv,hi,hzv,hzr,hzl,hzc⟩:=zae hz
  obtain ⟨c1,c2,c3⟩:=hw.move hk 1 (by omega) z zv.cells hzc (by rw [←hzl];simp) (fun j x u hx hu=>hzr C j x u hx (by simpa using hu))
  rw [he] at c2 c3
  refine ⟨_,.pointer (some ⟨w.heap.size,0,none⟩),_,c1,c2,c3,.ptr (by simp [g1]) (by simp [g2]),?_⟩
  simp [execOp,ho,Instr.alloc,newVar,newRow,zeroValue,typeInfo,hi,hzv]
 ·rename_i elem x
  split at h
  ·rename_i hall
   simp only [Option.some.injEq,Prod.mk.injEq] at h
   obtain ⟨rfl,rfl⟩:=h
   obtain ⟨hr,hl⟩:=zcH hall (zw hf x)
   obtain ⟨c1,c2,c3⟩:=hw.move hk 1 (by omega) (ev f x).cells (a.eval x).cells (fun x hx=>List.all_eq_true.1 hall x hx) (by rw [←hl];simp) (fun j x u hx hu=>hr j x u hx (by simpa using hu))
   rw [he] at c2 c3
   refine ⟨_,.pointer (some ⟨w.heap.size,0,none⟩),_,c1,c2,c3,.ptr (by simp [g1]) (by simp [g2]),?_⟩
   simp [execOp,ho,Instr.box,newVar,newRow]
  ·cases h
 ·rename_i t lo co
  split at h
  ·rename_i e kl l kc c hu hlv hcv
   split at h
   ·rename_i n bb z hn hb hz
    obtain ⟨i,zv,hi,hzv,hzr,hzl,hzc⟩:=zae hz
    obtain ⟨ie,hie,hs⟩:=zaV hn
    obtain ⟨ib,hib,hby⟩:=zeE hb
    rw [hi] at hie hib
    injection hie with hie
    injection hib with hib
    subst hie hib
    split at h
    ·rename_i hq
     simp only [Option.some.injEq,Prod.mk.injEq] at h
     obtain ⟨rfl,rfl⟩:=h
     have hl:=zw hf lo
     have hc:=zw hf co
     rw [hlv] at hl
     rw [hcv] at hc
     have el:=zK hl
     have ec:=zK hc
     have hr:=run_make (P:=P) w t e i zv hu hi hzv kl kc l c hq.1 hq.2.1 (by rw [hby];have:=hq.2.2.1;omega) (by have:=hq.2.2.2.1;omega)
     have hcn:l.toNat * z.length≤c.toNat * i.size:=by rw [hs,hq.2.2.2.2.1];exact Nat.mul_le_mul_right n (by omega)
     have hmade:=zdo (C:=C) (n:=l.toNat) (m:=c.toNat * i.size) hzl (hzr C) (by rw [hq.2.2.2.2.1];exact hq.2.2.2.2.2) hcn
     obtain ⟨c1,c2,c3⟩:=hw.move hk 1 (by omega) (zbE l.toNat z) (madeCells zv.cells (c.toNat * i.size)) (zcx hzc) (by rw [zaM,size_madeCells];exact hcn) (fun j x u hx hu=>hmade j x u hx (by rw [Array.getElem?_toList];exact hu))
     rw [he] at c2 c3
     refine ⟨_,.slice (some ⟨w.heap.size,0,none⟩) l.toNat c.toNat,_,c1,c2,c3,?_,by simp only [execOp,ho,el,ec,Sem.run_bind,hr,Result.andThen_ok,Sem.run_pure]⟩
     refine .msl (by simp [g1]) (by simp [g2]) (by omega) (by have:=hq.2.2.2.1;simp only [maxLen];omega) (fun _=>⟨rfl,?_⟩)
     simp [g3,size_madeCells,hs]
    ·cases h
   ·cases h
  ·cases h
 ·rename_i t len parts
  split at h
  ·rename_i e hu
   split at h
   ·rename_i n z hn hz
    obtain ⟨i,zv,hi,hzv,hzr,hzl,hzc⟩:=zae hz
    obtain ⟨ie,hie,hs⟩:=zaV hn
    rw [hi] at hie
    injection hie with hie
    subst hie
    split at h
    ·rename_i hq
     simp only [Option.map_eq_some_iff,Prod.mk.injEq] at h
     obtain ⟨ys,hys,rfl,rfl⟩:=h
     obtain ⟨hl,hp⟩:=ze7 hf parts
     have hpos:0<z.length:=by
      rcases Nat.eq_zero_or_pos z.length with h0|h0
      ·rw [←hq.1,h0] at hq;simp at hq
      ·exact h0
     have hmade:=zdo (C:=C) (n:=len) (m:=len * i.size) hzl (hzr C) hpos (by rw [hs,hq.1];exact Nat.le_refl _)
     obtain ⟨cs',q1,q2,q3,q4⟩:=zbG (C:=C) (fun i=>some (i * n,n)) _ _ (zbE len z) ys ((Array.range (len * i.size)).map (zv.cells[· %zv.cells.size]!)) hl hp hmade
      (by rw [zaM,hq.1,hs];simp) (zcx hzc) hys
     have hr:=run_buildSlice (P:=P) w t e len _ cs' i zv hu hi hzv (by rw [hs];have:=hq.2.2;omega) (by rw [hs];have:=hq.2.1;omega) (by rw [hs] at q1 ⊢;exact q1)
     obtain ⟨c1,c2,c3⟩:=hw.move hk 1 (by omega) ys cs' q4 (by rw [←q3];exact Nat.le_refl _) (fun j x u hx hu=>q2 j x u hx (by simpa using hu))
     rw [he] at c2 c3
     refine ⟨_,.slice (some ⟨w.heap.size,0,none⟩) len len,_,c1,c2,c3,?_,by simp only [execOp,ho,Sem.run_bind,hr,Result.andThen_ok,Sem.run_pure]⟩
     have hln:len≤len * n:=Nat.le_mul_of_pos_right len (by omega)
     refine .msl (by simp [g1]) (by simp [g2]) (Nat.le_refl _) (by simp only [maxLen];omega) (fun _=>⟨rfl,?_⟩)
     have:ys.length=len * n:=by
      rw [zen _ _ _ hys,zaM,hq.1]
     simp [g3,←q3,this]
    ·cases h
   ·cases h
  ·cases h
 ·rename_i args ts
  split at h
  ·rename_i t tx xs len full ys m g hts hal
   split at h
   ·rename_i e e' hu hu'
    split at h
    ·rename_i sz bb z hn hb hz
     split at h
     ·rename_i hq
      simp only [Option.some.injEq,Prod.mk.injEq] at h
      obtain ⟨rfl,rfl⟩:=h
      obtain ⟨x,y,hxy,hx1,hy1⟩:∃ x y,args.toList=[x,y]∧ev f x= .slice xs len full∧ev f y= .slice ys m g:=by
       match hat:args.toList,hal with
       | [x,y],hal=>simp only [List.map_cons,List.map_nil,List.cons.injEq,and_true] at hal;exact ⟨x,y,rfl,hal.1,hal.2⟩
       | [],hal=>simp at hal
       | [_],hal=>simp at hal
       | _::_::_::_,hal=>simp at hal
      have r1:=zw hf x
      have r2:=zw hf y
      rw [hx1] at r1
      rw [hy1] at r2
      obtain ⟨C',u,w',s1,s2,s3,s4,s5⟩:=zjx (ty:=o.type) hw r1 r2 hu hu' hn hb hz hq hk he hv
      refine ⟨C',u,w',s1,s2,s3,s4,?_⟩
      have ea:args= #[x,y]:=Array.toList_inj.1 (by rw [hxy])
      have et:ts= #[t,tx]:=Array.toList_inj.1 (by rw [hts])
      subst ea et
      have hb:∀ cs,builtin .append #[t,tx] o.type cs #[a.eval x,a.eval y]=(do pure (.value (←Builtin.append_ #[t,tx] o.type #[a.eval x,a.eval y]))):=fun _=>rfl
      simp only [execOp,ho,resolve,invoke,Sem.run_bind,Sem.run_pure,Result.andThen_ok,List.map_toArray,List.map_cons,List.map_nil,hb,s5]
     ·cases h
    ·cases h
   ·cases h
  ·cases h
 ·cases h
theorem zjy {op:Op} {f:Nat→PV} {v:PV} {o:Oper} (ho:o.op=op) (hw:WRel C H w) (hf:FRel C N f a) (h:zgB P op f=some v):
  ∃ u w',WRel C H w'∧Below C.B w w'∧VRel C v u∧(execOp a.eval o).run P w= .ok (.value u) w':=by
 unfold zgB at h
 split at h
 ·rename_i t lo co
  split at h
  ·rename_i e kl l kc c hu hlv hcv
   split at h
   ·rename_i bb z hb hz
    obtain ⟨i,zv,hi,hzv,hzr,hzl,hzc⟩:=zae hz
    split at h
    ·rename_i hq
     obtain ⟨rfl,rfl⟩:=hq
     simp only [Option.some.injEq] at h
     subst h
     have hl:=zw hf lo
     have hc:=zw hf co
     rw [hlv] at hl
     rw [hcv] at hc
     have el:=zK hl
     have ec:=zK hc
     have hr:=run_make (P:=P) w t e i zv hu hi hzv kl kc 0 0 (by omega) (by omega) (by omega) (by omega)
     refine ⟨.slice (some ⟨w.heap.size,0,none⟩) 0 0,_,hw.grown ((Below.refl _ _).alloc (Nat.le_refl _) _),(Below.refl _ _).alloc hw.base _,.sliceN _ _,by simp only [execOp,ho,el,ec,Sem.run_bind,hr,Result.andThen_ok,Sem.run_pure];rfl⟩
    ·cases h
   ·cases h
  ·cases h
 ·cases h
theorem zeR {o:Oper} {ids:List Nat} {rs:List (Nat×Nat)} {f:Nat→PV} {v:PV} {H':za} (hd:zR N o=true) (hw:WRel C H w) (hf:FRel C N f a) (h:StI P ids rs o f H v H') (next:Act→World→Prop) (Q:Exit→Act→World→Prop)
  (hn:∀ C' u w',CLe C C'→WRel C' H' w'→Below C.B w w'→FRel C' N (upd f o.dst v) (a.put o.dst u)→next (a.put o.dst u) w'):o.wp P a w next Q:=by
 unfold StI at h
 split at h
 ·rename_i g args hc
  exact zcY hd hw hf (by unfold Exec;rw [hc];exact h) _ _ hn
 ·rename_i hc
  unfold zd2 at h
  split at h
  ·rename_i p hp
   split at h
   ·rename_i r hr
    split at h
    ·rename_i b mk hb
     split at h
     ·rename_i k hk
      split at h
      ·rename_i hq
       simp only [Option.some.injEq,Prod.mk.injEq] at h
       obtain ⟨rfl,rfl⟩:=h
       obtain ⟨C',u,w',q1,q2,q3,q4,q5⟩:=zkL (o:=o) rfl hw hf hb hk hq.1 hq.2
       unfold Oper.wp
       rw [q5,Oper.upon_value]
       exact hn C' u w' q1 q2 q3 ((hf.mono q1).put _ (zas hd) q4)
      ·cases h
     ·cases h
    ·cases h
   ·simp only [Option.map_eq_some_iff,Prod.mk.injEq] at h
    obtain ⟨v',hv',rfl,rfl⟩:=h
    obtain ⟨u,w',q2,q3,q4,q5⟩:=zjy (o:=o) rfl hw hf hv'
    unfold Oper.wp
    rw [q5,Oper.upon_value]
    exact hn C u w' (.refl C) q2 q3 (hf.put _ (zas hd) q4)
  ·exact zcY hd hw hf (by unfold Exec;rw [hc];exact h) _ _ hn
theorem zvQ {ops:Array Oper} {ids:List Nat} {pm:List (Nat×List Nat)} {rs:List (Nat×Nat)} {ro:List Nat}:zqN P N ops (ExI P ops.toList ids pm rs ro):=by
 intro o f H v H' C a w hd hw hf he
 rcases he with ⟨h1,h2,h3⟩|⟨h1,h2⟩
 ·have hwant:=zP hf h1
  rw [Array.toArray_toList] at hwant
  exact .inl ⟨hwant,h2,h3⟩
 ·have hwant:=zP hf h1
  rw [Array.toArray_toList] at hwant
  exact .inr ⟨hwant,fun next Q hn=>zeR hd hw hf h2.now _ _ hn⟩
end Go.Proofs.YtjgmdlcjbgiekaaGreatDoor.Pm
