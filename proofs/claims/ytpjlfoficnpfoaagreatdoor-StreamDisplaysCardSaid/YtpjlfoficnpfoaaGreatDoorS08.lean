/-
  Parts of the proof, put together in one text. No condition.
-/
import Derived.Test.YtpjlfoficnpfoaaGreatDoorS07
open Array renaming getElem?_toList → qZ, toArray_toList → jA, mem_toList_iff → jB, toList_append → jE
open Bool renaming and_eq_true → qM
open List renaming getElem?_eq_some_iff → qA, getElem?_set_ne → qB, elem_eq_mem → qE, length_append → qF, drop → qH, getElem?_set_self → qI, take → qJ, not_mem_nil → qK, all_eq_true → qL, map_cons → qN, mem_append → qO, map_nil → qP, mem_cons → qQ, mem_filterMap → qT, mem_cons_self → qU, flatMap_cons → qV, length_cons → qW, getElem?_cons_zero → qY, mem_of_getElem? → jC, mem_cons_of_mem → jD, map_congr_left → jG
open Nat renaming le_refl → qS, add_mul → qX, mul_le_mul_right → jF
open Option renaming some → qC, map_eq_some_iff → qD, map_some → qR
open Prod renaming mk → qG
namespace Go.Proofs.YtpjlfoficnpfoaaGreatDoor.Pm
set_option linter.all false
open Go.RowKit
variable {P:Program} {C:Ctx} {H K:za} {w:World} {F:Fr} {a:Act} {N:Nat}
def zrn:List (Nat×List Nat)→Nat→List Nat
 | [],_=>[]
 | (s,ps)::l,t=>match Nat.beq s t with|true=>ps|false=>zrn l t
def zfG(pm:List (Nat×List Nat)):Operand→List Nat
 | .tmp t=>zrn pm t
 | .const _=>[]
 | .func _=>[]
 | .global _=>[]
def zaR(pm:List (Nat×List Nat))(op:Op):List Nat:=(op.operands.toList.map (zfG pm)).flatten
def atP(ids ps:List Nat):List Nat:=ps.filterMap fun p=>ids[p]?
structure Fp where
 r:List Nat
 l:List Nat
 w:List Nat
 v:List Nat
def zbz(op:Op):Nat:=match za0 op with
 | true=>0
 | false=>match zJ op with
  | true=>7
  | false=>match eff op with
   | false=>(match zaS op with|true=>1|false=>2)
   | true=>match op with
    | .store .. =>3
    | .call { callee:=.builtin .append,.. }=>4
    | .call { callee:=.builtin .copy,.. }=>5
    | .mapUpdate .. =>6
    | .insert .. =>6
    | _=>8
def zjZ(op:Op):Option Operand:=match op with
 | .store _ a _=>some a
 | .call { args,.. }=>args.toList[0]?
 | .mapUpdate _ m _ _=>some m
 | .insert _ m _ _=>some m
 | _=>none
def zdM(pm:List (Nat×List Nat))(op:Op):List Nat:=match zjZ op with|some x=>zfG pm x|none=>[]
def zmz(P:Program)(op:Op)(f:Nat→PV):Option (Blk×(Nat→PV)):=match op with
 | .alloc elem=>(ze P elem).map fun z=>(⟨elem,1,z⟩,fun r=>.ptr r 1 0)
 | .box elem x=>match (ev f x).cells.all PV.cell with|true=>some (⟨elem,1,(ev f x).cells⟩,fun r=>.ptr r 1 0)|false=>none
 | .makeSlice t l c=>match P.underlying t,ev f l,ev f c with
  | some (.slice e),.int _ l,.int _ c=>match szT P e,byT P e,ze P e with
   | some n,some b,some z=>if 0≤l∧l≤c∧(b:Int) * c≤140737488355328∧c≤140737488355328∧z.length=n∧0<n then some (⟨e,1,zaZ l.toNat z⟩,fun r=>.msl r 1 0 l.toNat n true)else none
   | _,_,_=>none
  | _,_,_=>none
 | .buildSlice t len parts=>match P.underlying t with
  | some (.slice e)=>match szT P e,ze P e with
   | some n,some z=>if z.length=n∧0<len * n∧len * n≤65536 then(zdo (fun i=>some (i * n,n)) (zaZ len z) (parts.toList.map fun p=>(p.1,ev f p.2))).map fun c=>(⟨e,1,c⟩,fun r=>.msl r 1 0 len n true)else none
   | _,_=>none
  | _=>none
 | .call { callee:=.builtin .append,args,argTypes }=>match argTypes.toList,args.toList.map (ev f)with
  | [t,tx],[.slice xs len full,.slice ys m _]=>match P.underlying t,P.underlying tx with
   | some (.slice e),some (.slice _)=>match szT P e,byT P e,ze P e with
    | some sz,some b,some z=>if 0<sz∧z.length=sz∧full=true∧xs.length=len * sz∧0<m∧ys.length=m * sz∧(len+m) * b≤140737488355328∧len+m≤140737488355328 then some (⟨e,1,xs++ys⟩,fun r=>.msl r 1 0 (len+m) sz true)else none
    | _,_,_=>none
   | _,_=>none
  | _,_=>none
 | _=>none
def zwo:Op→Bool
 | .alloc .. | .box .. | .makeSlice .. | .buildSlice .. =>true
 | .call { callee:=.builtin .append,.. }=>true
 | _=>false
def zmq(rs:List (Nat×Nat))(o:Oper):Option Nat:=match zwo o.op with|true=>rsv rs o.dst|false=>none
def zas(pm:List (Nat×List Nat))(rs:List (Nat×Nat))(ro:List Nat)(o:Oper):Fp:=match zmq rs o with
 | some p=>⟨[],[],[p],[p]⟩
 | none=>match zbz o.op with
  | 0=>⟨[],[],[],[]⟩
  | 1=>⟨[],zaR pm o.op,[],[]⟩
  | 2=>⟨zaR pm o.op,[],[],[]⟩
  | 3=>⟨[],[],zdM pm o.op,[]⟩
  | 4=>⟨zaR pm o.op,[],zdM pm o.op,zdM pm o.op⟩
  | 5=>⟨zaR pm o.op,[],zdM pm o.op,[]⟩
  | 6=>⟨zaR pm o.op,[],zdM pm o.op,[]⟩
  | 7=>match o.dst with
   | some d=>(match ro.elem d with|true=>⟨zaR pm o.op,zaR pm o.op,[],[]⟩|false=>⟨zaR pm o.op,zaR pm o.op,zaR pm o.op,zaR pm o.op⟩)
   | none=>⟨zaR pm o.op,zaR pm o.op,zaR pm o.op,zaR pm o.op⟩
  | _=>⟨[],[],[],[]⟩
def dis(a b:List Nat):Bool:=a.all fun i=> !(b.elem i)
theorem zyg{a b:List Nat}(h:dis a b=true):∀ i∈a,i∉b:=fun i hi hb=>by have:=qL.1 h i hi;rw[qE]at this;simp[hb]at this
def zgB(ds:List (Option Nat))(pm:List (Nat×List Nat))(rs:List (Nat×Nat))(ro:List Nat)(x y:Oper):Bool:=clear ds x y&&clear ds y x&&dis (zas pm rs ro x).w (zas pm rs ro y).r&&dis (zas pm rs ro x).w (zas pm rs ro y).w&&dis (zas pm rs ro y).w (zas pm rs ro x).r&&dis (zas pm rs ro x).v (zas pm rs ro y).l&&dis (zas pm rs ro y).v (zas pm rs ro x).l
theorem zgF{ids ps:List Nat}{i:Nat}(h:i∈atP ids ps):∃ p∈ps,ids[p]? =some i:=qT.1 h
theorem ztl{ids ps:List Nat}{i:Nat}(h:i∈atP ids ps):i∈ids:=by obtain⟨p,_,hp⟩:=zgF h;exact jC hp
theorem zfm{ids a b:List Nat}(hn:ids.Nodup)(h:dis a b=true){i:Nat}(ha:i∈atP ids a):i∉atP ids b:=fun hb=>by obtain⟨p,hp,e⟩:=zgF ha;obtain⟨q,hq,e'⟩:=zgF hb;have:p=q:=(List.getElem?_inj (qA.1 e).1 hn).1 (e.trans e'.symm);subst this;exact zyg h p hp hq
structure Agr(ids:List Nat)(fp:Fp)(H K:za):Prop where
 len:K.length=H.length
 out:∀ i,i∉ids→K[i]? =H[i]?
 inn:∀ i,i∈atP ids fp.r∨i∈atP ids fp.w→K[i]? =H[i]?
 liv:∀ i,i∈atP ids fp.l→VEq H K i
theorem Agr.refl(ids:List Nat)(fp:Fp)(H:za):Agr ids fp H H:=⟨rfl,fun _ _=>rfl,fun _ _=>rfl,fun _ _=>rfl⟩
theorem Agr.trans{ids:List Nat}{fp:Fp}{H K L:za}(h:Agr ids fp H K)(k:Agr ids fp K L):Agr ids fp H L:=⟨k.len.trans h.len,fun i hi=>(k.out i hi).trans (h.out i hi),fun i hi=>(k.inn i hi).trans (h.inn i hi),fun i hi=>Eq.trans (k.liv i hi) (h.liv i hi)⟩
structure Upd(ids:List Nat)(fp:Fp)(H H':za):Prop where
 len:H'.length=H.length
 out:∀ i,i∉atP ids fp.w→H'[i]? =H[i]?
 ver:∀ i,i∉atP ids fp.v→VEq H H' i
theorem Upd.refl(ids:List Nat)(fp:Fp)(H:za):Upd ids fp H H:=⟨rfl,fun _ _=>rfl,fun _ _=>rfl⟩
theorem Upd.set{ids:List Nat}{fp:Fp}{id:Nat}{k b:Blk}(hk:H[id]? =some k)(hw:id∈atP ids fp.w)(hv:b.ver=k.ver∨id∈atP ids fp.v):Upd ids fp H (H.set id b):=by
 have hid:id<H.length:=(qA.1 hk).1;refine⟨by simp,fun i hi=> ?_,fun i hi=> ?_⟩
 ·rw[qB (show id≠i from fun e=>hi (by rw[←e];exact hw))]
 ·unfold VEq;by_cases e:id=i
  ·subst e;rcases hv with hv|hv
   ·rw[qI hid,hk];simp[hv]
   ·exact absurd hv hi
  ·rw[qB e]
def zhi(P:Program)(op:Op)(f:Nat→PV):Option PV:=match op with
 | .makeSlice t l c=>match P.underlying t,ev f l,ev f c with
  | some (.slice e),.int _ l,.int _ c=>match byT P e,ze P e with
   | some _,some _=>if l=0∧c=0 then some (.slice [] 0 true)else none
   | _,_=>none
  | _,_,_=>none
 | _=>none
def zeu(P:Program)(ids:List Nat)(rs:List (Nat×Nat))(o:Oper)(f:Nat→PV)(H:za):Option (PV×za):=match zmq rs o with
 | some p=>match ids[p]? with
  | some r=>match zmz P o.op f with
   | some (b,mk)=>match H[r]? with
    | some k=>if k.e=b.e∧k.ver=0 then some (mk r,H.set r b)else none
    | none=>none
   | none=>none
  | none=>(zhi P o.op f).map fun v=>(v,H)
 | none=>pop P o.op f H
def StI(P:Program)(ids:List Nat)(rs:List (Nat×Nat))(o:Oper)(f:Nat→PV)(H:za)(v:PV)(H':za):Prop:=match zq o.op f with
 | some (g,args)=>CallOk P g args H v H'
 | none=>zeu P ids rs o f H=some (v,H')
def Loc(P:Program)(ids:List Nat)(rs:List (Nat×Nat))(fp:Fp)(o:Oper)(f:Nat→PV)(H:za)(v:PV)(H':za):Prop:=Upd ids fp H H'∧∀ K,Agr ids fp H K→∃ K',StI P ids rs o f K v K'∧Upd ids fp K K'∧∀ i,i∈atP ids fp.w→K'[i]? =H'[i]?
def ExI(P:Program)(all:List Oper)(ids:List Nat)(pm:List (Nat×List Nat))(rs:List (Nat×Nat))(ro:List Nat)(o:Oper)(f:Nat→PV)(H:za)(v:PV)(H':za):Prop:=(zbs all f o=some false∧v= .tup []∧H'=H)∨(zbs all f o=some true∧Loc P ids rs (zas pm rs ro o) o f H v H')
theorem Loc.now{ids:List Nat}{rs:List (Nat×Nat)}{fp:Fp}{o:Oper}{f:Nat→PV}{v:PV}{H':za}(h:Loc P ids rs fp o f H v H'):StI P ids rs o f H v H':=by
 obtain⟨u,h⟩:=h;obtain⟨K',h1,h2,h3⟩:=h H (.refl _ _ _);have:K'=H':=List.ext_getElem? fun i=>by
  by_cases hi:i∈atP ids fp.w
  ·exact h3 i hi
  ·rw[h2.out i hi,u.out i hi]
 rw[←this];exact h1
theorem Loc.read{ids:List Nat}{rs:List (Nat×Nat)}{fp:Fp}{o:Oper}{f:Nat→PV}{v:PV}(h:∀ K,Agr ids fp H K→StI P ids rs o f K v K):Loc P ids rs fp o f H v H:=⟨.refl _ _ _,fun K hK=>⟨K,h K hK,.refl _ _ _,fun i hi=>hK.inn i (.inr hi)⟩⟩
theorem Loc.set{ids:List Nat}{rs:List (Nat×Nat)}{fp:Fp}{o:Oper}{f:Nat→PV}{v:PV}{id:Nat}{k b:Blk}(hk:H[id]? =some k)(hw:id∈atP ids fp.w)(hv:b.ver=k.ver∨id∈atP ids fp.v)
  (h:∀ K,Agr ids fp H K→StI P ids rs o f K v (K.set id b)):Loc P ids rs fp o f H v (H.set id b):=by
 refine⟨.set hk hw hv,fun K hK=>⟨K.set id b,h K hK,.set ((hK.inn id (.inr hw)).trans hk) hw hv,fun i hi=> ?_⟩⟩;by_cases e:id=i
 ·subst e;have hid:id<H.length:=(qA.1 hk).1;rw[qI hid,qI (by rw[hK.len];exact hid)]
 ·rw[qB e,qB e,hK.inn i (.inr hi)]
theorem zhh{ids:List Nat}{rs:List (Nat×Nat)}{o:Oper}{f g:Nat→PV}(h:∀ x∈o.op.operands.toList,ev f x=ev g x):zeu P ids rs o f H=zeu P ids rs o g H:=by
 have e:zmz P o.op f=zmz P o.op g:=by
  unfold zmz;split
  ·rfl
  ·rename_i el x ho;rw[ho]at h;rw[h x (by simp[Op.operands])]
  ·rename_i t l c ho;rw[ho]at h;rw[h l (by simp[Op.operands]),h c (by simp[Op.operands])]
  ·rename_i t len parts ho;rw[ho]at h;have:parts.toList.map (fun p=>(p.1,ev f p.2))=parts.toList.map (fun p=>(p.1,ev g p.2)):=jG fun p hp=>by rw[h p.2 (by simp[Op.operands];exact⟨_,jB.1 hp⟩)]
   rw[this]
  ·rename_i args ts ho;rw[ho]at h;have:args.toList.map (ev f)=args.toList.map (ev g):=jG fun x hx=>h x (by simp[Op.operands,Call.operands];exact jB.1 hx);rw[this]
  ·rfl
 have e0:zhi P o.op f=zhi P o.op g:=by
  unfold zhi;split
  ·rename_i t l c ho;rw[ho]at h;rw[h l (by simp[Op.operands]),h c (by simp[Op.operands])]
  ·rfl
 unfold zeu;split
 ·rw[e,e0]
 ·exact zfH h
theorem ExI.congr{all:List Oper}{ids:List Nat}{pm:List (Nat×List Nat)}{rs:List (Nat×Nat)}{ro:List Nat}{o:Oper}{f g:Nat→PV}{v:PV}{H':za}(h:∀ t∈ziD (all.map (·.dst)) o,f t=g t)(he:ExI P all ids pm rs ro o f H v H'):ExI P all ids pm rs ro o g H v H':=by have e1:zbs all f o=zbs all g o:=zc6 fun t ht=>h t (qO.2 (.inr ht));have e2:∀ x∈o.op.operands.toList,ev f x=ev g x:=fun x hx=>zfd fun t ht=>h t (qO.2 (.inl (ze0 (ht▸hx))));unfold ExI Loc StI at he ⊢;simp only[←e1,←zbN e2,←zhh e2];exact he
theorem zy7{all:List Oper}{ids:List Nat}{pm:List (Nat×List Nat)}{rs:List (Nat×Nat)}{ro:List Nat}(hn:ids.Nodup):zoW (ExI P all ids pm rs ro) (zgB (all.map (·.dst)) pm rs ro):=by
 intro x o f H vx Hx v H1 hc hx ho;unfold zgB at hc;simp only[qM]at hc;obtain⟨⟨⟨⟨⟨⟨c1,c2⟩,c3⟩,c4⟩,c5⟩,c6⟩,c7⟩:=hc;have ho':ExI P all ids pm rs ro o f Hx v H1:=ho.congr fun t ht=>zcj (zbp c1 t ht);have hx':∀ K K',ExI P all ids pm rs ro x f K vx K'→ExI P all ids pm rs ro x (upd f o.dst v) K vx K':=fun K K' h=>h.congr fun t ht=>(zcj (zbp c2 t ht)).symm;have hcm:=zgP (f:=f) (u:=vx) (v:=v) (zfY c1);rcases hx with⟨x1,x2,rfl⟩|⟨x1,ux,lx⟩
 ·exact⟨H1,ho',hx' _ _ (.inl ⟨x1,x2,rfl⟩),hcm⟩
 rcases ho' with⟨o1,o2,rfl⟩|⟨o1,uo,lo⟩
 ·exact⟨H,.inl ⟨o1,o2,rfl⟩,hx' _ _ (.inr ⟨x1,ux,lx⟩),hcm⟩
 have dxr:∀{i},i∈atP ids (zas pm rs ro x).w→i∉atP ids (zas pm rs ro o).r:=fun h=>zfm hn c3 h;have dxw:∀{i},i∈atP ids (zas pm rs ro x).w→i∉atP ids (zas pm rs ro o).w:=fun h=>zfm hn c4 h;have dor:∀{i},i∈atP ids (zas pm rs ro o).w→i∉atP ids (zas pm rs ro x).r:=fun h=>zfm hn c5 h;have dxv:∀{i},i∈atP ids (zas pm rs ro x).v→i∉atP ids (zas pm rs ro o).l:=fun h=>zfm hn c6 h;have dov:∀{i},i∈atP ids (zas pm rs ro o).v→i∉atP ids (zas pm rs ro x).l:=fun h=>zfm hn c7 h;have a1:Agr ids (zas pm rs ro o) Hx H:=⟨ux.len.symm,fun i hi=>(ux.out i fun h=>hi (ztl h)).symm,fun i hi=>(ux.out i fun h=>by rcases hi with hi|hi;exact dxr h hi;exact dxw h hi).symm,fun i hi=>(ux.ver i fun h=>dxv h hi).symm⟩;obtain⟨H3,s3,u3,w3⟩:=lo H a1;have a2:Agr ids (zas pm rs ro x) H H3:=⟨u3.len,fun i hi=>u3.out i fun h=>hi (ztl h),fun i hi=>u3.out i fun h=>by rcases hi with hi|hi;exact dor h hi;exact dxw hi h,fun i hi=>u3.ver i fun h=>dov h hi⟩;refine⟨H3,.inr ⟨o1,u3,fun K hK=> ?_⟩,hx' _ _ (.inr ⟨x1,⟨?_,fun i hi=> ?_,fun i hi=> ?_⟩,fun K hK=> ?_⟩),hcm⟩
 ·obtain⟨K',k1,k2,k3⟩:=lo K (a1.trans hK);exact⟨K',k1,k2,fun i hi=>(k3 i hi).trans (w3 i hi).symm⟩
 ·rw[uo.len,ux.len,u3.len]
 ·by_cases hw:i∈atP ids (zas pm rs ro o).w
  ·exact(w3 i hw).symm
  ·rw[uo.out i hw,ux.out i hi,u3.out i hw]
 ·by_cases hw:i∈atP ids (zas pm rs ro o).w
  ·unfold VEq;rw[w3 i hw]
  ·have:=ux.ver i hi;unfold VEq at this ⊢;rw[uo.out i hw,u3.out i hw,this]
 ·obtain⟨K',k1,k2,k3⟩:=lx K (a2.trans hK);exact⟨K',k1,k2,fun i hi=>by rw[k3 i hi,uo.out i (dxw hi)]⟩
theorem zeW{place:Nat→Option (Nat×Nat)}:∀(parts:List (Nat×PV)) (cs ys:List PV),zdo place cs parts=some ys→ys.length=cs.length
 | [],cs,ys,h=>by simp only[zdo,qC.injEq]at h;rw[h]
 | (i,v)::rest,cs,ys,h=>by
  simp only[zdo]at h;split at h
  ·cases h
  ·rename_i off size hp;split at h
   ·rename_i hq;rw[zeW rest _ _ h];simp only[zM,qF,List.length_take,List.length_drop];omega
   ·cases h
theorem zk5{t tx ty e sz bb len m r:Nat}{full g:Bool}{xs ys z:List PV}{p q:Value}{k:Blk}(hw:WRel C H w)(hsv:VRel C (.slice xs len full) p)(hx:VRel C (.slice ys m g) q)
  (hu:P.underlying t=some (.slice e)) {e':TypeId} (hu':P.underlying tx=some (.slice e')) (hn:szT P e=some sz) (hb:byT P e=some bb) (hz:ze P e=some z)
  (hq:0<sz∧z.length=sz∧full=true∧xs.length=len * sz∧0<m∧ys.length=m * sz∧(len+m) * bb≤140737488355328∧len+m≤140737488355328) (hk:H[r]? =some k) (he:k.e=e) (hv:k.ver=0):
  ∃ C' u w',CLe C C'∧WRel C' (H.set r ⟨e,1,xs++ys⟩) w'∧Below C.B w w'∧VRel C' (.msl r 1 0 (len+m) sz true) u∧(Builtin.append_ #[t,tx] ty #[p,q]).run P w= .ok u w':=by
 have hid:r<H.length:=(qA.1 hk).1;have g1:r<C.mu.length:=by rw[hw.len];exact hid
 have g2:r<C.vs.length:=by rw[hw.lenv];exact hid
 have g3:r<C.cp.length:=by rw[hw.lenc];exact hid
 obtain⟨q1,q2,rfl,q4,q5,q6,q7,q8⟩:=hq;obtain⟨i,zv,hi,hzv,hzr,hzl,hzc⟩:=zak hz;obtain⟨ie,hie,hs⟩:=zbe hn;obtain⟨ib,hib,hby⟩:=zfl hb;rw[hi]at hie hib;injection hie with hie;injection hib with hib;subst hie hib;have hsrc:za4 P H e sz tx (.slice ys m g)=some (ys,m):=by unfold za4 zap;simp only[hu',if_pos q6]
 obtain⟨us,happ,hRn,hln,hnn,hcn⟩:=zfo hw hx hi hs hzv hz q2 q1 hsrc;have hzsize:∀ m,(Builtin.zeroCells zv.cells m).size=m * sz:=fun m=>by rw[size_zeroCells,←Array.length_toList,hzl,q2]
 have hshape:∃ ad os,p= .slice ad len len∧os.length=xs.length∧Rel C xs os∧(∀ x∈xs,x.cell=true)∧((len=0∧os=[])∨∃ b o,ad=some ⟨b,o,none⟩∧At w b o os):=by
  cases hsv with
  | @slice _ _ cap b' o' _ us' hl' hM' hc' hR' hcap' hmax' hf'=>rw[hf' rfl];exact⟨_,us',rfl,hl',hR',hc',.inr ⟨b',o',rfl,hw.at_imm hM'⟩⟩
  | sliceN=>exact⟨_,[],rfl,rfl,fun j x u hx=>by simp at hx,fun x hx=>by simp at hx,.inl ⟨rfl,rfl⟩⟩
 obtain⟨ad,os,rfl,hos,hRx,hcx,hat⟩:=hshape;have hold:(Builtin.firstCells i.size len (.slice ad len len)).run P w.drew= .ok os.toArray w.drew:=by rw[hs];exact zcY (w:=w.drew) om (by rcases hat with h1|⟨b,o,h1,h2⟩;exact .inl h1;exact .inr ⟨b,o,h1,h2⟩)
 have hr:=zlW (P:=P) (ty:=ty) hu hi hzv hold happ om (by rw[hby];exact q7) q8 (by rw[hs];exact q1);have hge:=grownCap_ge w (len+m) len e;have hle:=grownCap_le_maxLen w (len+m) len e (by simp only[maxLen];omega);generalize grownCap w (len+m) len e=nc at hr hge hle;generalize hcur:(os++us).toArray++Builtin.zeroCells zv.cells (nc - (len+m))=cur at hr;have hsize:cur.size=nc * sz:=by rw[←hcur,Array.size_append,hzsize];simp only[List.size_toArray,qF,hos,q4,hln,q6,←qX];congr 1;omega
 have hfit:(xs++ys).length≤cur.size:=by rw[hsize,qF,q4,q6,←qX];exact jF _ hge
 obtain⟨c1,c2,c30⟩:=hw.drew.move hk 1 om (xs++ys) cur (fun x hx=>by rcases qO.1 hx with hx|hx;exact hcx x hx;exact hcn x hx) hfit (fun j x u hx hu'=>by
  have hlt:j<(xs++ys).length:=(qA.1 hx).1;refine Rel.append hos hRx hRn j x u hx ?_;rw[←hcur,←qZ,jE,List.getElem?_append_left (by simp at hlt ⊢;omega)]at hu';exact hu')
 rw[he]at c2 c30;have c3:=((Below.refl C.B w).drew).trans c30;refine⟨_,_,_,c1,c2,c3,?_,hr⟩;refine .msl (by simp[g1]) (by simp[g2]) hge hle (fun _=>⟨rfl,?_⟩);simp[g3,hsize]
theorem zmy{op:Op}{f:Nat→PV}{b:Blk}{mk:Nat→PV}{r:Nat}{k:Blk}{o:Oper}(ho:o.op=op)(hw:WRel C H w)(hf:FRel C N f a)(h:zmz P op f=some (b,mk))(hk:H[r]? =some k)(he:k.e=b.e)(hv:k.ver=0):
  ∃ C' u w',CLe C C'∧WRel C' (H.set r b) w'∧Below C.B w w'∧VRel C' (mk r) u∧(execOp a.eval o).run P w= .ok (.value u) w':=by
 have hid:r<H.length:=(qA.1 hk).1;have g1:r<C.mu.length:=by rw[hw.len];exact hid
 have g2:r<C.vs.length:=by rw[hw.lenv];exact hid
 have g3:r<C.cp.length:=by rw[hw.lenc];exact hid
 unfold zmz at h;split at h
 ·rename_i elem;simp only[qD,qG.injEq]at h;obtain⟨z,hz,rfl,rfl⟩:=h;obtain⟨i,zv,hi,hzv,hzr,hzl,hzc⟩:=zak hz;obtain⟨c1,c2,c3⟩:=hw.move hk 1 om z zv.cells hzc (by rw[←hzl];simp) (fun j x u hx hu=>hzr C j x u hx (by simpa using hu));rw[he]at c2 c3;refine⟨_,.pointer (some ⟨w.heap.size,0,none⟩),_,c1,c2,c3,.ptr (by simp[g1]) (by simp[g2]),?_⟩;simp[execOp,ho,Instr.alloc,newVar,newRow,zeroValue,typeInfo,hi,hzv]
 ·rename_i elem x;split at h
  ·rename_i hall;simp only[qC.injEq,qG.injEq]at h;obtain⟨rfl,rfl⟩:=h;obtain⟨hr,hl⟩:=zc2 hall (zy hf x);obtain⟨c1,c2,c3⟩:=hw.move hk 1 om (ev f x).cells (a.eval x).cells (fun x hx=>qL.1 hall x hx) (by rw[←hl];simp) (fun j x u hx hu=>hr j x u hx (by simpa using hu));rw[he]at c2 c3;refine⟨_,.pointer (some ⟨w.heap.size,0,none⟩),_,c1,c2,c3,.ptr (by simp[g1]) (by simp[g2]),?_⟩;simp[execOp,ho,Instr.box,newVar,newRow]
  ·cases h
 ·rename_i t lo co;split at h
  ·rename_i e kl l kc c hu hlv hcv;split at h
   ·rename_i n bb z hn hb hz;obtain⟨i,zv,hi,hzv,hzr,hzl,hzc⟩:=zak hz;obtain⟨ie,hie,hs⟩:=zbe hn;obtain⟨ib,hib,hby⟩:=zfl hb;rw[hi]at hie hib;injection hie with hie;injection hib with hib;subst hie hib;split at h
    ·rename_i hq;simp only[qC.injEq,qG.injEq]at h;obtain⟨rfl,rfl⟩:=h;have hl:=zy hf lo;have hc:=zy hf co;rw[hlv]at hl;rw[hcv]at hc;have el:=zL hl;have ec:=zL hc;have hr:=run_make (P:=P) w t e i zv hu hi hzv kl kc l c hq.1 hq.2.1 (by rw[hby];have:=hq.2.2.1;omega) (by have:=hq.2.2.2.1;omega);have hcn:l.toNat * z.length≤c.toNat * i.size:=by rw[hs,hq.2.2.2.2.1];exact jF n om
     have hmade:=zdG (C:=C) (n:=l.toNat) (m:=c.toNat * i.size) hzl (hzr C) (by rw[hq.2.2.2.2.1];exact hq.2.2.2.2.2) hcn;obtain⟨c1,c2,c3⟩:=hw.move hk 1 om (zaZ l.toNat z) (madeCells zv.cells (c.toNat * i.size)) (zcP hzc) (by rw[za1,size_madeCells];exact hcn) (fun j x u hx hu=>hmade j x u hx (by rw[qZ];exact hu));rw[he]at c2 c3;refine⟨_,.slice (some ⟨w.heap.size,0,none⟩) l.toNat c.toNat,_,c1,c2,c3,?_,by simp only[execOp,ho,el,ec,Sem.run_bind,hr,Result.andThen_ok,Sem.run_pure]⟩;refine .msl (by simp[g1]) (by simp[g2]) om (by have:=hq.2.2.2.1;simp only[maxLen];omega) (fun _=>⟨rfl,?_⟩);simp[g3,size_madeCells,hs]
    ·cases h
   ·cases h
  ·cases h
 ·rename_i t len parts;split at h
  ·rename_i e hu;split at h
   ·rename_i n z hn hz;obtain⟨i,zv,hi,hzv,hzr,hzl,hzc⟩:=zak hz;obtain⟨ie,hie,hs⟩:=zbe hn;rw[hi]at hie;injection hie with hie;subst hie;split at h
    ·rename_i hq;simp only[qD,qG.injEq]at h;obtain⟨ys,hys,rfl,rfl⟩:=h;obtain⟨hl,hp⟩:=zfM hf parts;have hpos:0<z.length:=by
      rcases Nat.eq_zero_or_pos z.length with h0|h0
      ·rw[←hq.1,h0]at hq;simp at hq
      ·exact h0
     have hmade:=zdG (C:=C) (n:=len) (m:=len * i.size) hzl (hzr C) hpos (by rw[hs,hq.1];exact qS _);obtain⟨cs',q1,q2,q3,q4⟩:=zbW (C:=C) (fun i=>some (i * n,n)) _ _ (zaZ len z) ys ((Array.range (len * i.size)).map (zv.cells[· %zv.cells.size]!)) hl hp hmade
      (by rw[za1,hq.1,hs];simp) (zcP hzc) hys
     have hr:=run_buildSlice (P:=P) w t e len _ cs' i zv hu hi hzv (by rw[hs];have:=hq.2.2;omega) (by rw[hs];have:=hq.2.1;omega) (by rw[hs]at q1 ⊢;exact q1);obtain⟨c1,c2,c3⟩:=hw.move hk 1 om ys cs' q4 (by rw[←q3];exact qS _) (fun j x u hx hu=>q2 j x u hx (by simpa using hu));rw[he]at c2 c3;refine⟨_,.slice (some ⟨w.heap.size,0,none⟩) len len,_,c1,c2,c3,?_,by simp only[execOp,ho,Sem.run_bind,hr,Result.andThen_ok,Sem.run_pure]⟩;have hln:len≤len * n:=Nat.le_mul_of_pos_right len om;refine .msl (by simp[g1]) (by simp[g2]) (qS _) (by simp only[maxLen];omega) (fun _=>⟨rfl,?_⟩);have:ys.length=len * n:=by rw[zeW _ _ _ hys,za1,hq.1]
     simp[g3,←q3,this]
    ·cases h
   ·cases h
  ·cases h
 ·rename_i args ts;split at h
  ·rename_i t tx xs len full ys m g hts hal;split at h
   ·rename_i e e' hu hu';split at h
    ·rename_i sz bb z hn hb hz;split at h
     ·rename_i hq;simp only[qC.injEq,qG.injEq]at h;obtain⟨rfl,rfl⟩:=h;obtain⟨x,y,hxy,hx1,hy1⟩:∃ x y,args.toList=[x,y]∧ev f x= .slice xs len full∧ev f y= .slice ys m g:=by
       match hat:args.toList,hal with
       | [x,y],hal=>simp only[qN,qP,List.cons.injEq,and_true]at hal;exact⟨x,y,rfl,hal.1,hal.2⟩
       | [],hal=>simp at hal
       | [_],hal=>simp at hal
       | _::_::_::_,hal=>simp at hal
      have r1:=zy hf x;have r2:=zy hf y;rw[hx1]at r1;rw[hy1]at r2;obtain⟨C',u,w',s1,s2,s3,s4,s5⟩:=zk5 (ty:=o.type) hw r1 r2 hu hu' hn hb hz hq hk he hv;refine⟨C',u,w',s1,s2,s3,s4,?_⟩;have ea:args= #[x,y]:=Array.toList_inj.1 (by rw[hxy]);have et:ts= #[t,tx]:=Array.toList_inj.1 (by rw[hts]);subst ea et;have hb:∀ cs,builtin .append #[t,tx] o.type cs #[a.eval x,a.eval y]=(do pure (.value (←Builtin.append_ #[t,tx] o.type #[a.eval x,a.eval y]))):=fun _=>rfl;simp only[execOp,ho,resolve,invoke,Sem.run_bind,Sem.run_pure,Result.andThen_ok,List.map_toArray,qN,qP,hb,s5]
     ·cases h
    ·cases h
   ·cases h
  ·cases h
 ·cases h
theorem zk6{op:Op}{f:Nat→PV}{v:PV}{o:Oper}(ho:o.op=op)(hw:WRel C H w)(hf:FRel C N f a)(h:zhi P op f=some v):
  ∃ u w',WRel C H w'∧Below C.B w w'∧VRel C v u∧(execOp a.eval o).run P w= .ok (.value u) w':=by
 unfold zhi at h;split at h
 ·rename_i t lo co;split at h
  ·rename_i e kl l kc c hu hlv hcv;split at h
   ·rename_i bb z hb hz;obtain⟨i,zv,hi,hzv,hzr,hzl,hzc⟩:=zak hz;split at h
    ·rename_i hq;obtain⟨rfl,rfl⟩:=hq;simp only[qC.injEq]at h;subst h;have hl:=zy hf lo;have hc:=zy hf co;rw[hlv]at hl;rw[hcv]at hc;have el:=zL hl;have ec:=zL hc;have hr:=run_make (P:=P) w t e i zv hu hi hzv kl kc 0 0 om om om om;refine⟨.slice (some ⟨w.heap.size,0,none⟩) 0 0,_,hw.grown ((Below.refl _ _).alloc (qS _) _),(Below.refl _ _).alloc hw.base _,.sliceN _ _,by simp only[execOp,ho,el,ec,Sem.run_bind,hr,Result.andThen_ok,Sem.run_pure];rfl⟩
    ·cases h
   ·cases h
  ·cases h
 ·cases h
theorem zfz{o:Oper}{ids:List Nat}{rs:List (Nat×Nat)}{f:Nat→PV}{v:PV}{H':za}(hd:zQ N o=true)(hw:WRel C H w)(hf:FRel C N f a)(h:StI P ids rs o f H v H')(next:Act→World→Prop)(Q:Exit→Act→World→Prop)
  (hn:∀ C' u w',CLe C C'→WRel C' H' w'→Below C.B w w'→FRel C' N (upd f o.dst v) (a.put o.dst u)→next (a.put o.dst u) w'):o.wp P a w next Q:=by
 unfold StI at h;split at h
 ·rename_i g args hc;exact zdg hd hw hf (by unfold Exec;rw[hc];exact h) _ _ hn
 ·rename_i hc;unfold zeu at h;split at h
  ·rename_i p hp;split at h
   ·rename_i r hr;split at h
    ·rename_i b mk hb;split at h
     ·rename_i k hk;split at h
      ·rename_i hq;simp only[qC.injEq,qG.injEq]at h;obtain⟨rfl,rfl⟩:=h;obtain⟨C',u,w',q1,q2,q3,q4,q5⟩:=zmy (o:=o) rfl hw hf hb hk hq.1 hq.2;unfold Oper.wp;rw[q5,Oper.upon_value];exact hn C' u w' q1 q2 q3 ((hf.mono q1).put _ (zaA hd) q4)
      ·cases h
     ·cases h
    ·cases h
   ·simp only[qD,qG.injEq]at h;obtain⟨v',hv',rfl,rfl⟩:=h;obtain⟨u,w',q2,q3,q4,q5⟩:=zk6 (o:=o) rfl hw hf hv';unfold Oper.wp;rw[q5,Oper.upon_value];exact hn C u w' (.refl C) q2 q3 (hf.put _ (zaA hd) q4)
  ·exact zdg hd hw hf (by unfold Exec;rw[hc];exact h) _ _ hn
theorem zza{ops:Array Oper}{ids:List Nat}{pm:List (Nat×List Nat)}{rs:List (Nat×Nat)}{ro:List Nat}:ztw P N ops (ExI P ops.toList ids pm rs ro):=by
 intro o f H v H' C a w hd hw hf he;rcases he with⟨h1,h2,h3⟩|⟨h1,h2⟩
 ·have hwant:=zR hf h1;rw[jA]at hwant;exact .inl ⟨hwant,h2,h3⟩
 ·have hwant:=zR hf h1;rw[jA]at hwant;exact .inr ⟨hwant,fun next Q hn=>zfz hd hw hf h2.now _ _ hn⟩
end Go.Proofs.YtpjlfoficnpfoaaGreatDoor.Pm
namespace Go.Proofs.YtpjlfoficnpfoaaGreatDoor.Pm
set_option linter.all false
open Go.RowKit
variable {P:Program} {C:Ctx} {H K:za} {w:World} {F:Fr} {a:Act} {N:Nat}
def okO(ids:List Nat)(pm:List (Nat×List Nat))(f:Nat→PV)(x:Operand):Bool:=(zH (ev f x)).all fun i=> !(ids.elem i)||(atP ids (zfG pm x)).elem i
def inO(ids:List Nat)(pm:List (Nat×List Nat))(f:Nat→PV)(x:Operand):Bool:=match zH (ev f x)with
 | [i]=>(atP ids (zfG pm x)).elem i
 | _=>false
def zlC:PV→Bool
 | .msl .. =>true
 | _=>false
def zmN(f:Nat→PV)(op:Op):Bool:=match op with
 | .call { args,.. }=>(match args.toList.map (ev f)with|[.slice _ _ _,.slice _ 0 _]=>true|_=>false)
 | _=>false
def zvz(ids:List Nat)(pm:List (Nat×List Nat))(rs:List (Nat×Nat))(o:Oper)(f:Nat→PV):Bool:=match zmq rs o with
 | some _=>true
 | none=>match zbz o.op with
  | 0=>true
  | 1=>o.op.operands.toList.all (okO ids pm f)
  | 2=>o.op.operands.toList.all (okO ids pm f)
  | 3=>(match zjZ o.op with|some x=>inO ids pm f x|none=>false)
  | 4=>(match zjZ o.op with|some x=>(inO ids pm f x&&zlC (ev f x)&&o.op.operands.toList.all (okO ids pm f))||zmN f o.op|none=>false)
  | 5=>(match zjZ o.op with|some x=>inO ids pm f x&&o.op.operands.toList.all (okO ids pm f)|none=>false)
  | 6=>(match zjZ o.op with|some x=>inO ids pm f x&&o.op.operands.toList.all (okO ids pm f)|none=>false)
  | _=>false
theorem zmM{ids:List Nat}{pm:List (Nat×List Nat)}{f:Nat→PV}{op:Op}(h:op.operands.toList.all (okO ids pm f)=true):∀ x∈op.operands.toList,∀ i∈zH (ev f x),i∉ids∨i∈atP ids (zaR pm op):=fun x hx i hi=>by
 have:=qL.1 (qL.1 h x hx) i hi;simp only[Bool.or_eq_true,Bool.not_eq_true',qE,decide_eq_true_eq,decide_eq_false_iff_not]at this;rcases this with h|h
 ·exact .inl h
 ·obtain⟨p,hp,e⟩:=zgF h;exact .inr (qT.2 ⟨p,List.mem_flatten.2 ⟨_,List.mem_map.2 ⟨x,hx,rfl⟩,hp⟩,e⟩)
theorem zn1{ids:List Nat}{pm:List (Nat×List Nat)}{f:Nat→PV}{op:Op}(h:op.operands.toList.all (okO ids pm f)=true):∀ i∈zeg op f,i∉ids∨i∈atP ids (zaR pm op):=fun i hi=>by obtain⟨l,hl,hi⟩:=List.mem_flatten.1 hi;obtain⟨x,hx,rfl⟩:=List.mem_map.1 hl;exact zmM h x hx i hi
theorem Agr.rd{ids:List Nat}{fp:Fp}{pm:List (Nat×List Nat)}{op:Op}(hA:Agr ids fp H K)(hr:fp.r=zaR pm op){i:Nat}(h:i∉ids∨i∈atP ids (zaR pm op)):K[i]? =H[i]? :=by
 rcases h with h|h
 ·exact hA.out i h
 ·exact hA.inn i (.inl (by rw[hr];exact h))
theorem zjT{ids:List Nat}{pm:List (Nat×List Nat)}{f:Nat→PV}{x:Operand}{i:Nat}(h:inO ids pm f x=true)(hi:zH (ev f x)=[i]):i∈atP ids (zfG pm x):=by unfold inO at h;rw[hi]at h;simpa[qE]using h
theorem ziI{op:Op}(h:zbz op=0):za0 op=true:=by
 unfold zbz at h;split at h
 ·assumption
 ·split at h
  ·cases h
  ·split at h
   ·split at h<;>cases h
   ·split at h<;>cases h
theorem zlz{op:Op}(h:zbz op=1∨zbz op=2):eff op=false∧(zbz op=1→zaS op=true):=by
 unfold zbz at h ⊢;split at h
 ·rcases h with h|h<;>cases h
 ·rename_i hp;split at h
  ·rcases h with h|h<;>cases h
  ·rename_i hc;split at h
   ·rename_i he;refine⟨he,?_⟩;split
    ·intro _;assumption
    ·intro h;cases h
   ·split at h<;>rcases h with h|h<;>cases h
theorem ze6{op:Op}{n:Nat}(h:zbz op=n+3)(hn:n≤3):eff op=true∧za0 op=false∧zJ op=false:=by
 unfold zbz at h;split at h
 ·cases h
 ·rename_i hp;split at h
  ·injection h with h;injection h with h;injection h with h;omega
  ·rename_i hc;split at h
   ·split at h
    ·injection h with h;cases h
    ·injection h with h;injection h with h;cases h
   ·rename_i he;exact⟨he,hp,hc⟩
theorem zmQ{op:Op}(h:zbz op=3):∃ t x y,op= .store t x y:=by obtain⟨h1,h2,h3⟩:=ze6 (n:=0) h om;unfold zbz at h;rw[h1,h2,h3]at h;dsimp only at h;split at h<;>first|exact⟨_,_,_,rfl⟩|cases h
theorem zlA{op:Op}(h:zbz op=4):∃ args ts,op= .call { callee:=.builtin .append,args:=args,argTypes:=ts }:=by obtain⟨h1,h2,h3⟩:=ze6 (n:=1) h om;unfold zbz at h;rw[h1,h2,h3]at h;dsimp only at h;split at h<;>first|exact⟨_,_,rfl⟩|cases h
theorem zpB{op:Op}(h:zbz op=5):∃ args ts,op= .call { callee:=.builtin .copy,args:=args,argTypes:=ts }:=by obtain⟨h1,h2,h3⟩:=ze6 (n:=2) h om;unfold zbz at h;rw[h1,h2,h3]at h;dsimp only at h;split at h<;>first|exact⟨_,_,rfl⟩|cases h
theorem zsk{op:Op}(h:zbz op=6):∃ t m k x,op= .mapUpdate t m k x∨op= .insert t m k x:=by obtain⟨h1,h2,h3⟩:=ze6 (n:=3) h om;unfold zbz at h;rw[h1,h2,h3]at h;dsimp only at h;split at h<;>first|exact⟨_,_,_,_,.inl rfl⟩|exact⟨_,_,_,_,.inr rfl⟩|cases h
theorem zh1{e sz tx:Nat}{x:PV}(hx:∀ id∈zH x,K[id]? =H[id]?):za4 P K e sz tx x=za4 P H e sz tx x:=by
 unfold za4;split<;>try rfl
 exact zg4 hx
theorem zru{t:TypeId}{m:PV}(hx:∀ id∈zH m,K[id]? =H[id]?):zab P K t m=zab P H t m:=by
 unfold zab;split<;>try rfl
 rename_i kt e id ver hu;rw[hx id (by simp[zH])]
theorem zmt{t:TypeId}{x v:PV}{H':za}(h:zda P H t x v=some H'):∃ id k b,zH x=[id]∧H[id]? =some k∧b.ver=k.ver∧H'=H.set id b∧∀ K:za,K[id]? =H[id]? →zda P K t x v=some (K.set id b):=by
 unfold zda at h;split at h
 ·rename_i id ver off;split at h
  ·rename_i k hk;split at h
   ·rename_i hv;simp only[qD]at h;obtain⟨c,hc,rfl⟩:=h;refine⟨id,k,⟨k.e,k.ver,c⟩,rfl,hk,rfl,rfl,fun K hK=> ?_⟩;unfold zda;simp only[hK,hk,hv,if_true,hc,qR]
   ·cases h
  ·cases h
 ·cases h
theorem zpj{t:TypeId}{m k x:PV}{H':za}(h:zb6 P H t m k x=some H'):∃ id b' b,zH m=[id]∧H[id]? =some b'∧b.ver=b'.ver∧H'=H.set id b∧∀ K:za,K[id]? =H[id]? →zb6 P K t m k x=some (K.set id b):=by
 unfold zb6 at h;split at h
 ·rename_i e d id b hm;have hq:zH m=[id]∧H[id]? =some b:=by
   unfold zab at hm;split at hm
   ·rename_i kt e' id' ver hu;split at hm
    ·rename_i d' b' hs hb;split at hm
     ·simp only[qC.injEq,qG.injEq]at hm;obtain⟨_,_,rfl,rfl⟩:=hm;exact⟨rfl,hb⟩
     ·cases hm
    ·cases hm
   ·cases hm
  have key:∀ K:za,K[id]? =H[id]? →zab P K t m=some (e,d,id,b):=fun K hK=>by rw[zru (H:=H) (fun i hi=>by rw[hq.1]at hi;simp at hi;rw[hi];exact hK),hm]
  split at h
  ·rename_i i v hf;simp only[qC.injEq]at h;subst h;exact⟨id,b,⟨b.e,b.ver,b.cells.set i (.tup [k,x])⟩,hq.1,hq.2,rfl,rfl,fun K hK=>by unfold zb6;rw[key K hK];simp only[hf]⟩
  ·rename_i hf;simp only[qC.injEq]at h;subst h;exact⟨id,b,⟨b.e,b.ver,b.cells++[.tup [k,x]]⟩,hq.1,hq.2,rfl,rfl,fun K hK=>by unfold zb6;rw[key K hK];simp only[hf]⟩
  ·cases h
 ·cases h
theorem zpr{t:TypeId}{d x v:PV}{H':za}{id:Nat}(hd:zH d=[id])(h:zf6 P H t d x=some (v,H')):∃ k b,H[id]? =some k∧b.ver=k.ver∧H'=H.set id b∧∀ K:za,K[id]? =H[id]? →(∀ i∈zH x,K[i]? =H[i]?)→zf6 P K t d x=some (v,K.set id b):=by
 unfold zf6 at h;split at h
 ·rename_i e hu;split at h
  ·rename_i sz hs;split at h
   ·rename_i id' ver off len z g;simp only[zH,List.cons.injEq,and_true]at hd;subst hd;split at h
    ·rename_i k ys n hk hy;split at h
     ·rename_i hq;simp only[qC.injEq,qG.injEq]at h;obtain⟨rfl,rfl⟩:=h;refine⟨k,⟨k.e,ver,zM k.cells off (ys.take (min n len * sz))⟩,hk,hq.1.symm,rfl,fun K hK hx=> ?_⟩;unfold zf6;simp only[hu,hs,hK,hk,zg4 hx,hy];rw[if_pos hq]
     ·cases h
    ·cases h
   ·simp[zH]at hd
   ·cases h
  ·cases h
 ·cases h
theorem zln{t tx:TypeId}{s x v:PV}{H':za}{id:Nat}(hm:zlC s=true)(hd:zH s=[id])(h:pappend P H t tx s x=some (v,H')):∃ k b,H[id]? =some k∧H'=H.set id b∧∀ K:za,K[id]? =H[id]? →(∀ i∈zH x,K[i]? =H[i]?)→pappend P K t tx s x=some (v,K.set id b):=by
 unfold pappend at h;split at h
 ·rename_i e hu;split at h
  ·rename_i sz bb z hs hb hz;split at h
   ·rename_i hq0;split at h
    ·rename_i news n hsrc;split at h
     ·simp[zlC]at hm
     ·rename_i id' ver off len sz' g;simp only[zH,List.cons.injEq,and_true]at hd;subst hd;split at h
      ·rename_i k hk;split at h
       ·rename_i hq;split at h
        ·rename_i hn;simp only[qC.injEq,qG.injEq]at h;obtain⟨rfl,rfl⟩:=h;have hset:∀ K:za,K[id']? =some k→K.set id' k=K:=fun K hK=>List.ext_getElem? fun i=>by
          by_cases e:id'=i
          ·subst e;rw[qI (qA.1 hK).1,hK]
          ·rw[qB e]
         refine⟨k,k,hk,(hset _ hk).symm,fun K hK hx=> ?_⟩;unfold pappend;simp only[hu,hs,hb,hz,zh1 hx,hsrc,hK,hk];rw[if_pos hq0,if_pos hq,if_pos hn,hset K (hK.trans hk)]
        ·rename_i hn;simp only[qC.injEq,qG.injEq]at h;obtain⟨rfl,rfl⟩:=h;refine⟨k,⟨e,(k.cells++news).length,k.cells++news⟩,hk,rfl,fun K hK hx=> ?_⟩;unfold pappend;simp only[hu,hs,hb,hz,zh1 hx,hsrc,hK,hk];rw[if_pos hq0,if_pos hq,if_neg hn]
       ·cases h
      ·cases h
     ·cases h
    ·cases h
   ·cases h
  ·cases h
 ·cases h
theorem zlm{t tx:TypeId}{xs ys:List PV}{len:Nat}{full g:Bool}{v:PV}{H':za}(h:pappend P H t tx (.slice xs len full) (.slice ys 0 g)=some (v,H')):H'=H∧∀ K,pappend P K t tx (.slice xs len full) (.slice ys 0 g)=some (v,K):=by
 have hs:∀ K:za,∀ e sz,za4 P K e sz tx (.slice ys 0 g)=za4 P H e sz tx (.slice ys 0 g):=fun K e sz=>zh1 fun i hi=>by simp[zH]at hi
 have h0:∀ e sz news n,za4 P H e sz tx (.slice ys 0 g)=some (news,n)→n=0:=fun e sz news n h=>by
  unfold za4 at h;split at h
  ·unfold zap at h;dsimp only at h;split at h
   ·simp only[qC.injEq,qG.injEq]at h;exact h.2.symm
   ·cases h
  all_goals first|(rename_i hx;cases hx;done)|(cases h;done)|simp_all
 unfold pappend at h ⊢;simp only[hs];split at h
 ·split at h
  ·split at h
   ·split at h
    ·rename_i news n hsrc;have:=h0 _ _ _ _ hsrc;subst this;simp only[if_true,qC.injEq,qG.injEq]at h;obtain⟨rfl,rfl⟩:=h;exact⟨rfl,fun K=>by simp_all⟩
    ·cases h
   ·cases h
  ·cases h
 ·cases h
theorem zrr{ids:List Nat}{pm:List (Nat×List Nat)}{rs:List (Nat×Nat)}{ro:List Nat}{o:Oper}{f:Nat→PV}{v:PV}{H':za}(hc:zq o.op f=none)(hk:zvz ids pm rs o f=true)(h:zeu P ids rs o f H=some (v,H')):
  Loc P ids rs (zas pm rs ro o) o f H v H':=by
 have st:∀{K K':za},zeu P ids rs o f K=some (v,K')→StI P ids rs o f K v K':=fun{K K'} hp=>by unfold StI;rw[hc];exact hp
 unfold zvz at hk;cases hr:zmq rs o with
 | some p=>
  have hfp:zas pm rs ro o=⟨[],[],[p],[p]⟩:=by unfold zas;rw[hr]
  unfold zeu at h;rw[hr]at h;dsimp only at h;split at h
  ·rename_i r hrp;split at h
   ·rename_i b mk hb;split at h
    ·rename_i k hkr;split at h
     ·rename_i hq;simp only[qC.injEq,qG.injEq]at h;obtain⟨rfl,rfl⟩:=h;have hin:r∈atP ids [p]:=qT.2 ⟨p,by simp,hrp⟩;refine Loc.set hkr (by rw[hfp];exact hin) (.inr (by rw[hfp];exact hin)) fun K hK=>st ?_;unfold zeu;rw[hr];simp only[hrp,hb,hK.inn r (.inr (by rw[hfp];exact hin)),hkr];rw[if_pos hq]
     ·cases h
    ·cases h
   ·cases h
  ·rename_i hrp;simp only[qD,qG.injEq]at h;obtain⟨v',hv',rfl,rfl⟩:=h;refine Loc.read fun K hK=>st ?_;unfold zeu;rw[hr];simp only[hrp,hv',qR]
 | none=>
  rw[hr]at hk;have pI:∀ K,zeu P ids rs o f K=pop P o.op f K:=fun K=>by unfold zeu;rw[hr]
  rw[pI]at h;have st:∀{K K':za},pop P o.op f K=some (v,K')→StI P ids rs o f K v K':=fun{K K'} hp=>st (by rw[pI];exact hp);dsimp only at hk;split at hk
  ·rename_i hkind;obtain⟨rfl,_⟩:=zax (ziI hkind) h H;exact Loc.read fun K hK=>st (zax (ziI hkind) h K).2
  ·rename_i hkind;have hfp:zas pm rs ro o=⟨[],zaR pm o.op,[],[]⟩:=by unfold zas;rw[hr,hkind];rfl
   obtain⟨he,hl⟩:=zlz (.inl hkind);obtain rfl:=zcR he h;refine Loc.read fun K hK=>st (zhg (hl hkind) (fun i hi=> ?_) h);rcases zn1 hk i hi with h|h
   ·unfold VEq;rw[hK.out i h]
   ·exact hK.liv i (by rw[hfp];exact h)
  ·rename_i hkind;have hfp:zas pm rs ro o=⟨zaR pm o.op,[],[],[]⟩:=by unfold zas;rw[hr,hkind];rfl
   obtain⟨he,_⟩:=zlz (.inr hkind);obtain rfl:=zcR he h;exact Loc.read fun K hK=>st (zk3 he (fun i hi=>hK.rd (by rw[hfp]) (zn1 hk i hi)) h)
  ·rename_i hkind;have hfp:zas pm rs ro o=⟨[],[],zdM pm o.op,[]⟩:=by unfold zas;rw[hr,hkind];rfl
   obtain⟨t,x,y,ho⟩:=zmQ hkind;rw[ho]at h hk hfp;simp only[pop,qD,qG.injEq]at h;obtain⟨H1,h,rfl,rfl⟩:=h;obtain⟨id,k,b,q1,q2,q3,rfl,q5⟩:=zmt h;have hin:id∈atP ids (zfG pm x):=zjT hk q1;refine Loc.set q2 (by rw[hfp];exact hin) (.inl q3) fun K hK=>st ?_;rw[ho];simp only[pop,q5 K (hK.inn id (.inr (by rw[hfp];exact hin))),qR]
  ·rename_i hkind;have hfp:zas pm rs ro o=⟨zaR pm o.op,[],zdM pm o.op,zdM pm o.op⟩:=by unfold zas;rw[hr,hkind];rfl
   obtain⟨args,ts,ho⟩:=zlA hkind;have hops:o.op.operands.toList=args.toList:=by rw[ho];simp[Op.operands,Call.operands]
   have hf1:zjZ o.op=args.toList[0]? :=by rw[ho];rfl
   split at hk
   ·rename_i x hx;simp only[Bool.or_eq_true,qM]at hk;rcases hk with hk|hk;rotate_left
    ·unfold zmN at hk;rw[ho]at h hk;dsimp only at hk;split at hk
     ·rename_i xs len full ys g hal;have e1:∀ K,pop P (.call { callee:=.builtin .append,args:=args,argTypes:=ts }) f K=zB P K .append ts.toList [.slice xs len full,.slice ys 0 g]:=fun K=>by simp only[pop,hal]
      rw[e1]at h
      match htl:ts.toList,h with
      | [t,tx],h=>
       simp only[zB]at h;obtain⟨rfl,hK⟩:=zlm h;refine Loc.read fun K _=>st ?_;rw[ho,e1,htl];exact hK K
      | [],h=>simp[zB]at h
      | [_],h=>simp[zB]at h
      | _::_::_::_,h=>simp[zB]at h
     ·cases hk
    obtain⟨⟨k1,k2⟩,k3⟩:=hk;have hfs:zdM pm o.op=zfG pm x:=by unfold zdM;rw[hx]
    rw[hf1]at hx;rw[ho]at h;simp only[pop]at h
    match hal:args.toList,htl:ts.toList,hx,h with
    | [x',y],[t,tx],hx,h=>
     simp only[qY,qC.injEq]at hx;subst hx;simp only[qN,qP,zB]at h;obtain⟨id,hid⟩:∃ id,zH (ev f x')=[id]:=by cases hv:ev f x'<;>rw[hv]at k2<;>simp[zlC]at k2;exact⟨_,rfl⟩
     have hin:id∈atP ids (zfG pm x'):=zjT k1 hid;obtain⟨k,b,q2,rfl,q5⟩:=zln k2 hid h;refine Loc.set q2 (by rw[hfp];dsimp only;rw[hfs];exact hin) (.inr (by rw[hfp];dsimp only;rw[hfs];exact hin)) fun K hK=>st ?_;rw[ho];simp only[pop,hal,htl,qN,qP,zB];exact q5 K (hK.inn id (.inr (by rw[hfp];dsimp only;rw[hfs];exact hin))) fun i hi=>hK.rd (by rw[hfp]) (zmM k3 y (by rw[hops,hal];simp) i hi)
    | [],_,hx,h=>simp at hx
    | [_],_,hx,h=>simp[zB]at h
    | _::_::_::_,_,hx,h=>simp[zB]at h
    | [_,_],[],hx,h=>simp[zB]at h
    | [_,_],[_],hx,h=>simp[zB]at h
    | [_,_],_::_::_::_,hx,h=>simp[zB]at h
   ·cases hk
  ·rename_i hkind;have hfp:zas pm rs ro o=⟨zaR pm o.op,[],zdM pm o.op,[]⟩:=by unfold zas;rw[hr,hkind];rfl
   obtain⟨args,ts,ho⟩:=zpB hkind;have hops:o.op.operands.toList=args.toList:=by rw[ho];simp[Op.operands,Call.operands]
   have hf1:zjZ o.op=args.toList[0]? :=by rw[ho];rfl
   split at hk
   ·rename_i x hx;simp only[qM]at hk;obtain⟨k1,k3⟩:=hk;have hfs:zdM pm o.op=zfG pm x:=by unfold zdM;rw[hx]
    rw[hf1]at hx;rw[ho]at h;simp only[pop]at h
    match hal:args.toList,htl:ts.toList,hx,h with
    | [x',y],[t,tx],hx,h=>
     simp only[qY,qC.injEq]at hx;subst hx;simp only[qN,qP,zB]at h;obtain⟨id,hid⟩:∃ id,zH (ev f x')=[id]:=by
      unfold inO at k1;split at k1
      ·exact⟨_,by assumption⟩
      ·cases k1
     have hin:id∈atP ids (zfG pm x'):=zjT k1 hid;obtain⟨k,b,q2,q3,rfl,q5⟩:=zpr hid h;refine Loc.set q2 (by rw[hfp];dsimp only;rw[hfs];exact hin) (.inl q3) fun K hK=>st ?_;rw[ho];simp only[pop,hal,htl,qN,qP,zB];exact q5 K (hK.inn id (.inr (by rw[hfp];dsimp only;rw[hfs];exact hin))) fun i hi=>hK.rd (by rw[hfp]) (zmM k3 y (by rw[hops,hal];simp) i hi)
    | [],_,hx,h=>simp at hx
    | [_],_,hx,h=>simp[zB]at h
    | _::_::_::_,_,hx,h=>simp[zB]at h
    | [_,_],[],hx,h=>simp[zB]at h
    | [_,_],[_],hx,h=>simp[zB]at h
    | [_,_],_::_::_::_,hx,h=>simp[zB]at h
   ·cases hk
  ·rename_i hkind;have hfp:zas pm rs ro o=⟨zaR pm o.op,[],zdM pm o.op,[]⟩:=by unfold zas;rw[hr,hkind];rfl
   obtain⟨t,m,kk,x,ho⟩:=zsk hkind;have hp2:∀ K,pop P o.op f K=(zb6 P K t (ev f m) (ev f kk) (ev f x)).map fun H'=>(.tup [],H'):=fun K=>by rcases ho with ho|ho<;>rw[ho]<;>rfl
   have hf1:zjZ o.op=some m:=by rcases ho with ho|ho<;>rw[ho]<;>rfl
   have hfs:zdM pm o.op=zfG pm m:=by unfold zdM;rw[hf1]
   rw[hf1]at hk;simp only[qM]at hk;obtain⟨k1,k3⟩:=hk;rw[hp2]at h;simp only[qD,qG.injEq]at h;obtain⟨H1,h,rfl,rfl⟩:=h;obtain⟨id,k,b,q1,q2,q3,rfl,q5⟩:=zpj h;have hin:id∈atP ids (zfG pm m):=zjT k1 q1;refine Loc.set q2 (by rw[hfp];dsimp only;rw[hfs];exact hin) (.inl q3) fun K hK=>st ?_;rw[hp2,q5 K (hK.inn id (.inr (by rw[hfp];dsimp only;rw[hfs];exact hin)))];rfl
  ·cases hk
def zo4(P:Program)(dr:Bool)(ids:List Nat)(pm:List (Nat×List Nat))(rs:List (Nat×Nat))(ds:List (Option Nat))(o:Oper)(F:Fr)(H:za):Option (Fr×za):=
 match zah ds F o with
 | none=>none
 | some b=>cond b (match !dr||zvz ids pm rs o (slot F)with
  | true=>(match zeu P ids rs o (slot F) H with|some (v,H')=>some (put F o.dst v,H')|none=>none)
  | false=>none) (some (put F o.dst (.tup []),H))
def VCj(P:Program)(dr:Bool)(ids:List Nat)(fp:Fp)(rs:List (Nat×Nat))(o:Oper)(F:Fr)(H:za)(K:Fr→za→Prop):Prop:=
 match zq o.op (slot F)with
 | some (g,args)=>∃ v H',(match dr with|true=>Loc P ids rs fp o (slot F) H v H'|false=>CallOk P g args H v H')∧K (put F o.dst v) H'
 | none=>False
def VCi(P:Program)(dr:Bool)(ids:List Nat)(fp:Fp)(rs:List (Nat×Nat))(ds:List (Option Nat))(o:Oper)(F:Fr)(H:za)(K:Fr→za→Prop):Prop:=
 match zah ds F o with
 | none=>False
 | some b=>(b=true→VCj P dr ids fp rs o F H K)∧(b=false→K (put F o.dst (.tup [])) H)
def VOi(P:Program)(dr:Bool)(ids:List Nat)(pm:List (Nat×List Nat))(rs:List (Nat×Nat))(ro:List Nat)(ds:List (Option Nat)):List Oper→Option (Fr×za)→(Fr→za→Prop)→Prop
 | _,none,_=>False
 | [],some (F,H),K=>K F H
 | o::r,some (F,H),K=>match zJ o.op with
  | false=>VOi P dr ids pm rs ro ds r (zo4 P dr ids pm rs ds o F H) K
  | true=>VCi P dr ids (zas pm rs ro o) rs ds o F H fun F' H'=>VOi P dr ids pm rs ro ds r (some (F',H')) K
def VRi(P:Program)(dr:Bool)(ids:List Nat)(pm:List (Nat×List Nat))(rs:List (Nat×Nat))(ro:List Nat)(ds:List (Option Nat))(r:List Oper)(K:Fr→za→Prop)(F:Fr)(H:za):Prop:=VOi P dr ids pm rs ro ds r (some (F,H)) K
theorem zvO(dr:Bool)(ids:List Nat)(pm:List (Nat×List Nat))(rs:List (Nat×Nat))(ro:List Nat)(ds:List (Option Nat))(K:Fr→za→Prop)(F:Fr)(H:za):VOi P dr ids pm rs ro ds [] (some (F,H)) K=K F H:=rfl
theorem zcx(dr:Bool)(ids:List Nat)(pm:List (Nat×List Nat))(rs:List (Nat×Nat))(ro:List Nat)(ds:List (Option Nat))(l:List Oper)(K:Fr→za→Prop):VOi P dr ids pm rs ro ds l none K=False:=by cases l<;>rfl
theorem ztv(dr:Bool)(ids:List Nat)(pm:List (Nat×List Nat))(rs:List (Nat×Nat))(ro:List Nat)(ds:List (Option Nat))(o:Oper)(r:List Oper)(K:Fr→za→Prop)(F:Fr)(H:za):
  VOi P dr ids pm rs ro ds (o::r) (some (F,H)) K=match zJ o.op with|false=>VOi P dr ids pm rs ro ds r (zo4 P dr ids pm rs ds o F H) K|true=>VCi P dr ids (zas pm rs ro o) rs ds o F H (VRi P dr ids pm rs ro ds r K):=by
 cases h:zJ o.op with
 | false=>simp only[VOi,h]
 | true=>simp only[VOi,h];rfl
theorem zT{dr:Bool}{ids:List Nat}{pm:List (Nat×List Nat)}{rs:List (Nat×Nat)}{ro:List Nat}{ds:List (Option Nat)}{l:List Oper}{K:Fr→za→Prop}{x:Bool}{A B:Option (Fr×za)}(h1:x=true→VOi P dr ids pm rs ro ds l A K)(h2:x=false→VOi P dr ids pm rs ro ds l B K):VOi P dr ids pm rs ro ds l (cond x A B) K:=by
 cases x with
 | true=>exact h1 rfl
 | false=>exact h2 rfl
theorem VCj.read{dr:Bool}{ids:List Nat}{fp:Fp}{rs:List (Nat×Nat)}{o:Oper}{K:Fr→za→Prop}{g:FuncId}{args:List PV}{v:PV}(h:∀ L,Agr ids fp H L→CallOk P g args L v L)(hc:zq o.op (slot F)=some (g,args))(hk:K (put F o.dst v) H):VCj P dr ids fp rs o F H K:=by
 unfold VCj;simp only[hc];refine⟨v,H,?_,hk⟩;cases dr with
 | false=>exact h H (.refl _ _ _)
 | true=>exact Loc.read fun L hL=>by unfold StI;rw[hc];exact h L hL
theorem VCj.wr1{dr:Bool}{ids:List Nat}{fp:Fp}{rs:List (Nat×Nat)}{o:Oper}{K:Fr→za→Prop}{g:FuncId}{args:List PV}{v:PV}{id:Nat}{k b:Blk}(hkk:H[id]? =some k)(h:∀ L:za,L[id]? =some k→Agr ids fp H L→CallOk P g args L v (L.set id b))(hw:(atP ids fp.w).elem id=true)(hv:b.ver=k.ver∨(atP ids fp.v).elem id=true)
  (hc:zq o.op (slot F)=some (g,args)) (hk:K (put F o.dst v) (H.set id b)):VCj P dr ids fp rs o F H K:=by
 unfold VCj;simp only[hc];refine⟨v,H.set id b,?_,hk⟩;have hw':id∈atP ids fp.w:=by simpa[qE]using hw
 cases dr with
 | false=>exact h H hkk (.refl _ _ _)
 | true=>exact Loc.set hkk hw' (by rcases hv with h|h;exact .inl h;exact .inr (by simpa[qE]using h)) fun L hL=>by unfold StI;rw[hc];exact h L ((hL.inn id (.inr hw')).trans hkk) hL
theorem zdk{op:Op}(h:zJ op=false)(f:Nat→PV):zq op f=none:=by
 unfold zq;split
 ·simp[zJ]at h
 ·rfl
theorem zoS{all:List Oper}{ids:List Nat}{pm:List (Nat×List Nat)}{rs:List (Nat×Nat)}{ro:List Nat}{K:Fr→za→Prop}:∀(l:List Oper) (F:Fr) (H:za),VOi P true ids pm rs ro (all.map (·.dst)) l (some (F,H)) K→RunG (ExI P all ids pm rs ro) l (slot F) H (fun f H'=>∃ F',f=slot F'∧K F' H')
 | [],F,H,h=>⟨F,rfl,h⟩
 | o::r,F,H,h=>by
  simp only[VOi]at h;have go:∀ v H',ExI P all ids pm rs ro o (slot F) H v H'→VOi P true ids pm rs ro (all.map (·.dst)) r (some (put F o.dst v,H')) K→RunG (ExI P all ids pm rs ro) (o::r) (slot F) H (fun f H'=>∃ F',f=slot F'∧K F' H'):=fun v H' he hr=>by refine⟨v,H',he,?_⟩;rw[←zad];exact zoS r _ _ hr
  cases hc:zJ o.op with
  | false=>
   simp only[hc]at h;unfold zo4 at h;split at h
   ·rw[zcx]at h;exact h.elim
   ·rename_i b hb;cases b with
    | false=>exact go _ _ (.inl ⟨zt all F o hb,rfl,rfl⟩) h
    | true=>
     simp only[cond_true,Bool.not_true,Bool.false_or]at h;split at h
     ·rename_i hk;split at h
      ·rename_i v H' hp;exact go v H' (.inr ⟨zt all F o hb,zrr (zdk hc _) hk hp⟩) h
      ·rw[zcx]at h;exact h.elim
     ·rw[zcx]at h;exact h.elim
  | true=>
   simp only[hc]at h;unfold VCi at h;split at h
   ·exact h.elim
   ·rename_i b hb;cases b with
    | false=>exact go _ _ (.inl ⟨zt all F o hb,rfl,rfl⟩) (h.2 rfl)
    | true=>
     have h:=h.1 rfl;unfold VCj at h;split at h
     ·rename_i fn args hp;obtain⟨v,H',h1,h2⟩:=h;exact go v H' (.inr ⟨zt all F o hb,h1⟩) h2
     ·exact h.elim
theorem PW.drawi{E:Env}{Q:Exit→Fr→za→Prop}{id:Nat}{ops:Array Oper}(ids:List Nat)(pm:List (Nat×List Nat))(rs:List (Nat×Nat))(ro:List Nat)(hm:P.follows .mixedOrders=true)(hd:zj4 (zgB (ops.toList.map (·.dst)) pm rs ro) E.N ops.toList=true)(hnd:ids.Nodup)
  (h:∀ K:Fr→za→Prop,(∀ F' H',Q .normal F' H'→K F' H')→VOi P true ids pm rs ro (ops.toList.map (·.dst)) ops.toList (some (F,H)) K):PW P E (.region id ops true) F H Q:=fun hs C a w hdf hw hf=>by
 refine wp_region_any hm ?_;have hr:=zoS (P:=P) _ _ _ (h (fun F' H'=>Q .normal F' H') fun _ _ h=>h);have hall:∀ i,i<ops.toList.length→zhS (zgB (ops.toList.map (·.dst)) pm rs ro) (zf9 ops.toList) E.N ops.toList i=true:=by intro i hi;unfold zj4 at hd;exact qL.1 hd i (List.mem_range.2 hi)
 refine zoQ (P:=P) hall (zy7 hnd) zza ops.size (Array.replicate ops.size false) (slot F) H C a w.drew sp ?_ (by rw[zbY];simp) (by rw[zbY,zgI];exact hr) hdf hw.drew hf ?_
 ·intro i o ho hl j hj;have hi:i<ops.size:=(Array.getElem?_eq_some_iff.1 ho).1;simp[Array.getD,hi]at hl
 ·rintro C' f' H' a' w' p1 p2 p3 p4 p5 ⟨F',rfl,p6⟩;exact⟨C',F',H',p1.toN _,p2,p3,((Below.refl C.B w).drew).trans p4,p5,p6⟩
theorem zxb{all:List Oper}{ids:List Nat}{pm:List (Nat×List Nat)}{rs:List (Nat×Nat)}{ro:List Nat}{K:Fr→za→Prop}:∀(l:List Oper) (F:Fr) (H:za),l.all (zQ N)=true→VOi P false ids pm rs ro (all.map (·.dst)) l (some (F,H)) K→∀(C:Ctx) (a:Act) (w:World),a.defers=[]→WRel C H w→FRel C N (slot F) a→
  ∀ Q:Exit→Act→World→Prop,(∀ C' F' H' a' w',CLe C C'→a'.defers=[]→WRel C' H' w'→Below C.B w w'→FRel C' N (slot F') a'→K F' H'→Q .normal a' w')→wpList P all.toArray Q l a w
 | [],F,H,_,h,C,a,w,hd,hw,hf,Q,hQ=>hQ C F H a w (.refl _) hd hw (.refl _ _) hf h
 | o::r,F,H,hall,h,C,a,w,hd,hw,hf,Q,hQ=>by
  simp only[List.all_cons,qM]at hall;simp only[VOi]at h;have go:∀ v H',zah (all.map (·.dst)) F o=some true→StI P ids rs o (slot F) H v H'→VOi P false ids pm rs ro (all.map (·.dst)) r (some (put F o.dst v,H')) K→wpList P all.toArray Q (o::r) a w:=fun v H' hb hst hr=>by have hwant:=zR hf (zt all F o hb);unfold wpList;rw[if_pos hwant];left;refine zfz hall.1 hw hf hst _ _ fun C' u w' q1 q2 q3 q4=> ?_;rw[←zad]at q4;refine zxb r _ _ hall.2 hr C' _ w' (by cases ho:o.dst<;>simp[Act.put,hd]) q2 q4 Q ?_;intro C'' F'' H'' a'' w'' p1 p2 p3 p4 p5 p6;exact hQ C'' F'' H'' a'' w'' (q1.trans p1) p2 p3 (q3.trans (by rw[←q1.B];exact p4)) p5 p6
  have no:zah (all.map (·.dst)) F o=some false→VOi P false ids pm rs ro (all.map (·.dst)) r (some (put F o.dst (.tup []),H)) K→wpList P all.toArray Q (o::r) a w:=fun hb hr=>by have hwant:=zR hf (zt all F o hb);unfold wpList;rw[if_neg (by rw[hwant];simp)];have q4:=hf.put o.dst (zaA hall.1) (VRel.undefV (C:=C));rw[←zad]at q4;exact zxb r _ _ hall.2 hr C _ w (by cases ho:o.dst<;>simp[Act.put,hd]) hw q4 Q hQ
  cases hc:zJ o.op with
  | false=>
   simp only[hc]at h;unfold zo4 at h;split at h
   ·rw[zcx]at h;exact h.elim
   ·rename_i b hb;cases b with
    | false=>exact no hb h
    | true=>
     simp only[cond_true,Bool.not_false,Bool.true_or]at h;split at h
     ·rename_i v H' hp;exact go v H' hb (by unfold StI;rw[zdk hc];exact hp) h
     ·rw[zcx]at h;exact h.elim
  | true=>
   simp only[hc]at h;unfold VCi at h;split at h
   ·exact h.elim
   ·rename_i b hb;cases b with
    | false=>exact no hb (h.2 rfl)
    | true=>
     have h:=h.1 rfl;unfold VCj at h;split at h
     ·rename_i fn args hp;obtain⟨v,H',h1,h2⟩:=h;exact go v H' hb (by unfold StI;rw[hp];exact h1) h2
     ·exact h.elim
theorem PW.seqi{E:Env}{Q:Exit→Fr→za→Prop}{id:Nat}{ops:Array Oper}(ids:List Nat)(rs:List (Nat×Nat))(hd:ops.toList.all (zQ E.N)=true)
  (h:∀ K:Fr→za→Prop,(∀ F' H',Q .normal F' H'→K F' H')→VOi P false ids [] rs [] (ops.toList.map (·.dst)) ops.toList (some (F,H)) K):PW P E (.region id ops false) F H Q:=fun hs C a w hdf hw hf=>by
 refine wp_region_list ?_;have:=zxb (P:=P) (all:=ops.toList) ops.toList F H hd (h (fun F' H'=>Q .normal F' H') fun _ _ h=>h) C a w hdf hw hf (Post E C w Q) (fun C' F' H' a' w' p1 p2 p3 p4 p5 p6=>⟨C',F',H',p1.toN _,p2,p3,p4,p5,p6⟩);simpa using this
end Go.Proofs.YtpjlfoficnpfoaaGreatDoor.Pm
namespace Go.Proofs.YtpjlfoficnpfoaaGreatDoor.Pm
set_option linter.all false
open Go.RowKit
attribute [go_sem] zvO ztv VRi VCi zo4 zvz zeu zmq zwo zmz zhi zbz zjZ zdM zmN okO inO zlC zrn zfG zaR atP zas dis Call.operands List.filterMap_cons_some List.filterMap_nil List.filterMap_cons jE
end Go.Proofs.YtpjlfoficnpfoaaGreatDoor.Pm
namespace Go.Proofs.YtpjlfoficnpfoaaGreatDoor.Sc
set_option linter.all false
open Pm Ty Go.RowKit
theorem _root_.Go.Proofs.YtpjlfoficnpfoaaGreatDoor.Pm.CallOk.fin{P:Program}{f:FuncId}{args:List PV}{v v':PV}{H H1 Hout:za}(h:CallOk P f args H v' H1)(hf:HSc H→H.length≤Hout.length∧CutH H1 Hout∧Fz Hout.length H1 v' v):CallOk P f args H v Hout:=
 ⟨h.1,fun C us w hw hargs=>(h.2 C us w hw hargs).mono fun e w' ⟨C',u,q1,q2,q3,q4,q5⟩=>by
  obtain⟨hlen,hcut,hfz⟩:=hf hw.hsc;obtain⟨g1,g2⟩:=q2.cutN hcut;exact⟨_,u,((q1.toN _).trans (g1.less hlen)).full hw.lenv,g2,q3,q4,hfz.sound q2 q5⟩⟩
theorem _root_.Go.Proofs.YtpjlfoficnpfoaaGreatDoor.Pm.CallOk.base{P:Program}{f:FuncId}{args:List PV}{v v':PV}{H K:za}(h:CallOk P f args H v' (H++K))(hf:Fz H.length (H++K) v' v):CallOk P f args H v H:=h.fin fun hs=>⟨qS _,CutH.base hs,hf⟩
theorem apn(H K:za)(n:Nat):(H++K)[H.length+n]? =K[n]? :=by rw[List.getElem?_append_right om,show H.length+n - H.length=n from om]
theorem aps(H K:za)(n:Nat)(X:Blk):(H++K).set (H.length+n) X=H++K.set n X:=by rw[List.set_append_right _ _ om,show H.length+n - H.length=n from om]
theorem VCj.wrT{P:Program}{F:Fr}{H:za}{dr:Bool}{ids:List Nat}{fp:Fp}{rs:List (Nat×Nat)}{o:Oper}{K:Fr→za→Prop}{g:FuncId}{args:List PV}{v:PV}{i j:Nat}{k l A B:Blk}(hi:H[i]? =some k)(hj:H[j]? =some l)(hne:i≠j)
  (h:∀ L:za,L[i]? =some k→L[j]? =some l→CallOk P g args L v (two L i j A B)) (hwi:(atP ids fp.w).elem i=true) (hwj:(atP ids fp.w).elem j=true) (hvi:(atP ids fp.v).elem i=true) (hvj:(atP ids fp.v).elem j=true)
  (hc:zq o.op (slot F)=some (g,args)) (hk:K (put F o.dst v) (two H i j A B)):VCj P dr ids fp rs o F H K:=by
 unfold VCj;simp only[hc];refine⟨v,two H i j A B,?_,hk⟩;have wi:i∈atP ids fp.w:=by simpa[qE]using hwi
 have wj:j∈atP ids fp.w:=by simpa[qE]using hwj
 have vi:i∈atP ids fp.v:=by simpa[qE]using hvi
 have vj:j∈atP ids fp.v:=by simpa[qE]using hvj
 have upd:∀ L:za,L[i]? =some k→L[j]? =some l→Upd ids fp L (two L i j A B):=fun L hi hj=>by have u1:Upd ids fp L (L.set i A):=Upd.set hi wi (.inr vi);have u2:Upd ids fp (L.set i A) ((L.set i A).set j B):=Upd.set (k:=l) (by rw[qB hne];exact hj) wj (.inr vj);exact⟨by rw[zaG],fun x hx=>(u2.out x hx).trans (u1.out x hx),fun x hx=>Eq.trans (u2.ver x hx) (u1.ver x hx)⟩
 cases dr with
 | false=>exact h H hi hj
 | true=>
  refine⟨upd H hi hj,fun L hL=> ?_⟩;have li:=(hL.inn i (.inr wi)).trans hi;have lj:=(hL.inn j (.inr wj)).trans hj;refine⟨two L i j A B,by unfold StI;rw[hc];exact h L li lj,upd L li lj,fun x hx=> ?_⟩;have hlen:=hL.len;have hij:i<H.length∧j<H.length:=⟨(qA.1 hi).1,(qA.1 hj).1⟩;by_cases e:x=i
  ·subst e;rw[zeK _ _ _ _ _ ⟨om,hne⟩,zeK _ _ _ _ _ ⟨om,hne⟩]
  ·by_cases e':x=j
   ·subst e';rw[zeJ _ _ _ _ _ om,zeJ _ _ _ _ _ om]
   ·unfold two;rw[qB (Ne.symm e'),qB (Ne.symm e),qB (Ne.symm e'),qB (Ne.symm e),hL.inn x (.inr hx)]
theorem zaT{α:Type}(enc:α→List PV)(N:Nat):∀(l:List α),(∀ x∈l,(enc x).length=N)→(l.flatMap enc).length=l.length * N
 | [],_=>by simp
 | a::r,h=>by rw[qV,qF,zaT enc N r (fun x hx=>h x (jD _ hx)),h a (qU ..),qW,qX,Nat.one_mul,Nat.add_comm]
theorem zbR{α:Type}(enc:α→List PV)(N:Nat):∀(l:List α) (k:Nat) (hk:k<l.length),(∀ x∈l,(enc x).length=N)→qJ N (qH (k * N) (l.flatMap enc))=enc l[k]
 | [],k,hk,_=>by simp at hk
 | a::r,0,_,h=>by
  rw[Nat.zero_mul,List.drop_zero,qV];exact List.take_left' (h a (qU ..))
 | a::r,k+1,hk,h=>by
  have e:(k+1) * N=(enc a).length+k * N:=by rw[h a (qU ..),qX,Nat.one_mul,Nat.add_comm]
  rw[qV,e,←List.drop_drop,List.drop_left];exact zbR enc N r k (by simpa using hk) (fun x hx=>h x (jD _ hx))
theorem zey{H K:za}(hK:∀ b∈K,∀ x∈b.cells,Scoped (H.length+K.length) x)(h:HSc H):HSc (H++K):=fun id k hk x hx=>by
 rw[qF];rw[List.getElem?_append]at hk;split at hk
 ·exact(h id k hk x hx).mono om
 ·exact hK k (jC hk) x hx
theorem znV(p:Pi)(n:Nat):∀ x∈pic p,Scoped n x:=fun x hx=>by
 simp only[pic,qQ,qK,or_false]at hx;rcases hx with rfl|rfl|rfl|rfl|rfl|rfl
 ·exact .int _ _
 ·exact .int _ _
 ·exact .int _ _
 ·exact .bool _
 ·exact .bool _
 ·exact .bool _
theorem zcv{α:Type}(enc:α→List PV)(N:Nat)(l:List α)(k r:Nat)(hk:k<l.length)(hl:∀ x∈l,(enc x).length=N)(hr:r<N):(l.flatMap enc)[k * N+r]? =(enc l[k])[r]? :=by rw[←zbR enc N l k hk hl,List.getElem?_take,if_pos hr,List.getElem?_drop]
def uq1(u:Int×List UInt8):List PV:=[.int .i64 u.1,.slice (bs u.2) u.2.length false]
def uq(us:List (Int×List UInt8)):List PV:=us.flatMap uq1
theorem zi4(us:List (Int×List UInt8)):(uq us).length=us.length * 2:=zaT uq1 2 us fun _ _=>rfl
theorem zp8(us:List (Int×List UInt8))(k:Nat)(hk:k<us.length):qJ 2 (qH (k * 2) (uq us))=uq1 us[k]:=zbR uq1 2 us k hk fun _ _=>rfl
theorem uq_1(us:List (Int×List UInt8))(k:Nat)(hk:k<us.length):(uq us)[k * 2+1]? =some (.slice (bs us[k].2) us[k].2.length false):=zcv uq1 2 us k 1 hk (fun _ _=>rfl) om
theorem znp(n:Nat)(us:List (Int×List UInt8)):∀ x∈uq us,Scoped n x:=fun x hx=>by
 obtain⟨u,_,hx⟩:=List.mem_flatMap.1 hx;simp only[uq1,qQ,qK,or_false]at hx;rcases hx with rfl|rfl
 ·exact .int _ _
 ·exact zj (zn _ _)
def zh5(u:List UInt8):List PV:=[.slice (bs u) u.length false]
def usr(U:List (List UInt8)):PV:=.slice (U.flatMap zh5) U.length false
theorem zwM(n:Nat)(U:List (List UInt8)):Scoped n (usr U):=zj fun x hx=>by obtain⟨u,_,hx⟩:=List.mem_flatMap.1 hx;simp only[zh5,qQ,qK,or_false]at hx;rw[hx];exact zj (zn _ _)
def cdc(p:Pi)(U:List (List UInt8))(us:List (Int×List UInt8)):List PV:=pic p++[usr U,.slice (uq us) us.length false]
theorem zfj(p:Pi)(U:List (List UInt8))(us:List (Int×List UInt8)):(cdc p U us).length=8:=rfl
theorem zfk(p:Pi)(U:List (List UInt8))(us:List (Int×List UInt8)):(cdc p U us).all PV.cell=true:=rfl
theorem zz5(p:Pi)(U:List (List UInt8))(us:List (Int×List UInt8)):qJ 6 (cdc p U us)=pic p:=rfl
theorem zta(p:Pi)(U:List (List UInt8))(us:List (Int×List UInt8)):(cdc p U us)[7]? =some (.slice (uq us) us.length false):=rfl
theorem zz4(p:Pi)(U:List (List UInt8))(us:List (Int×List UInt8)):qJ 8 (cdc p U us)=cdc p U us:=rfl
theorem zf0(n:Nat)(p:Pi)(U:List (List UInt8))(us:List (Int×List UInt8)):∀ x∈cdc p U us,Scoped n x:=fun x hx=>by
 rcases qO.1 hx with hx|hx
 ·exact znV _ _ x hx
 ·simp only[qQ,qK,or_false]at hx;rcases hx with rfl|rfl
  ·exact zwM _ _
  ·exact zj (znp _ _)
structure It where
 k:Int
 s:Sq
 gc:Bool
 gb:Bool
 gt:Int
 p:Pi
 U:List (List UInt8)
 us:List (Int×List UInt8)
 pad:Int
def itc(x:It):List PV:=.int .i64 x.k::(sqc x.s++(.bool x.gc:: .bool x.gb:: .int .i64 x.gt::(cdc x.p x.U x.us++[.int .i64 x.pad])))
structure ItOk(x:It):Prop where
 s:SqOk x.s
 k:zih x.k
 gt:zih x.gt
 pad:zih x.pad
 ut:∀ u∈x.us,zih u.1
theorem zqE(s:Sq)(hs:SqOk s):(sqc s).length=135:=by simp[sqc,zd,hs.ia,hs.ie]
theorem ze7(x:It)(h:SqOk x.s):(itc x).length=148:=by simp only[itc,qW,qF,zqE x.s h,zfj,List.length_nil]
theorem zlB(x:It):(itc x).all PV.cell=true:=by simp[itc,sqc,bs,cdc,pic,usr,PV.cell]
theorem zdI(x:It):(itc x)[0]? =some (.int .i64 x.k):=rfl
theorem zwl(x:It)(h:SqOk x.s):qJ 135 (qH 1 (itc x))=sqc x.s:=by show qJ 135 (sqc x.s++_)=_;exact List.take_left' (zqE x.s h)
theorem zod(x:It)(h:SqOk x.s)(n:Nat):qH (136+n) (itc x)=qH n (.bool x.gc:: .bool x.gb:: .int .i64 x.gt::(cdc x.p x.U x.us++[.int .i64 x.pad])):=by
 have e:qH 136 (itc x)= .bool x.gc:: .bool x.gb:: .int .i64 x.gt::(cdc x.p x.U x.us++[.int .i64 x.pad]):=by show qH 135 (sqc x.s++_)=_;exact List.drop_left' (zqE x.s h)
 rw[←List.drop_drop,e]
theorem zzH(x:It)(h:SqOk x.s):qJ 3 (qH 136 (itc x))=[.bool x.gc,.bool x.gb,.int .i64 x.gt]:=by have:=zod x h 0;rw[this];rfl
theorem zoe(x:It)(h:SqOk x.s):qJ 8 (qH 139 (itc x))=cdc x.p x.U x.us:=by have:=zod x h 3;rw[this];rfl
theorem zwm(x:It)(h:SqOk x.s):qJ 6 (qH 139 (itc x))=pic x.p:=by have:=zod x h 3;rw[this];rfl
theorem zfO(x:It)(h:SqOk x.s)(n:Nat):(itc x)[136+n]? =(.bool x.gc:: .bool x.gb:: .int .i64 x.gt::(cdc x.p x.U x.us++[.int .i64 x.pad]))[n]? :=by have:=congrArg (·[0]?) (zod x h n);simpa using this
theorem zjQ(x:It)(h:SqOk x.s):(itc x)[147]? =some (.int .i64 x.pad):=zfO x h 11
theorem zxN(n:Nat)(x:It):∀ y∈itc x,Scoped n y:=fun y hy=>by
 simp only[itc,qQ,qO,qK,or_false]at hy;rcases hy with rfl|hy|rfl|rfl|rfl|hy|rfl
 ·exact .int _ _
 ·exact zbm _ _ y hy
 ·exact .bool _
 ·exact .bool _
 ·exact .int _ _
 ·exact zf0 _ _ _ _ y hy
 ·exact .int _ _
end Go.Proofs.YtpjlfoficnpfoaaGreatDoor.Sc
namespace Go.Proofs.YtpjlfoficnpfoaaGreatDoor.Lg
set_option linter.all false
open Go.ChangeShapes Go.WideShapes Go.ChangeAt Go.RowKit Pm Sc Lp
theorem zo8{ps:List PV}(h:Shp Tryz.prog 41 ps):∃(c b:Bool) (t:Int),ps=[.bool c,.bool b,.int .i64 t]∧(-9223372036854775808≤t∧t≤9223372036854775807):=by
 obtain⟨pss,rfl,hf⟩:=h.fields Tryz.underlying41
 match pss,hf with
 | [a,b,c],⟨ha,hb,hc,_⟩=>obtain⟨a,rfl⟩:=zcO ha;obtain⟨b,rfl⟩:=zcO hb;obtain⟨c,rfl,h3⟩:=zbu hc;exact⟨a,b,c,rfl,h3⟩
theorem zo9{ps:List PV}(h:Shp Tryz.prog 39 ps):∃(p:Pi) (U:List (List UInt8)) (us:List (Int×List UInt8)),ps=cdc p U us∧U.length≤maxLen∧us.length≤maxLen∧∀ u∈us,zih u.1:=by
 obtain⟨pss,rfl,hf⟩:=h.fields Tryz.underlying39
 match pss,hf with
 | [p,u,l],⟨hp,hu,hl,_⟩=>
  obtain⟨p,rfl,_⟩:=zt3 hp;obtain⟨U,rfl,hU,_⟩:=hu.of_list (enc:=zh5) (good:=fun _=>True) Tryz.underlying36 (fun q hq=>by
   obtain⟨x,rfl⟩:=ziw hq;exact⟨x,rfl,trivial⟩)
  obtain⟨us,rfl,hm,hg⟩:=hl.of_list (enc:=uq1) (good:=fun u=>zih u.1) Tryz.underlying37 (fun q hq=>by
   obtain⟨t,x,rfl,ht⟩:=zqN hq;exact⟨(t,x),rfl,ht⟩)
  exact⟨p,U,us,rfl,hU,hm,hg⟩
theorem zqP{ps:List PV}(h:Shp Tryz.prog 43 ps):∃ x:It,ps=itc x∧ItOk x:=by
 obtain⟨pss,rfl,hf⟩:=h.fields Tryz.underlying43
 match pss,hf with
 | [k,s,g,c,p],⟨hk,hs,hg,hc,hp,_⟩=>obtain⟨k,rfl,h1⟩:=zbu hk;obtain⟨s,rfl,h2⟩:=zt1 hs;obtain⟨gc,gb,gt,rfl,h3⟩:=zo8 hg;obtain⟨p,U,us,rfl,_,_,h4⟩:=zo9 hc;obtain⟨n,rfl,h5⟩:=zbu hp;exact⟨⟨k,s,gc,gb,gt,p,U,us,n⟩,by simp[itc],⟨h2,h1,h3,h5,h4⟩⟩
theorem ziu{ps:List PV}(h:Shp Tryz.prog 22 ps):∃ l:List It,ps=[.slice (l.flatMap itc) l.length false]∧∀ x∈l,ItOk x:=by obtain⟨l,rfl,_,hg⟩:=h.of_list (enc:=itc) (good:=ItOk) Tryz.underlying22 (fun q hq=>zqP hq);exact⟨l,rfl,hg⟩
end Go.Proofs.YtpjlfoficnpfoaaGreatDoor.Lg
namespace Go.Proofs.YtpjlfoficnpfoaaGreatDoor.Sc
set_option linter.all false
open Pm Ty Go.RowKit
structure SqL(s:Sq):Prop where
 ia:s.ia.length=64
 ie:s.ie.length=64
theorem SqOk.toL{s:Sq}(h:SqOk s):SqL s:=⟨h.ia,h.ie⟩
theorem zox(xs ys:List PV):za6 Tryz.prog 11 27 (.agg xs) (.agg ys)=if szT Tryz.prog 5=some 1∧xs.length=64∧ys.length=64 then zdt (.int .u8) xs ys else none:=kr
theorem zyZ:szT Tryz.prog 5=some 1:=kr
theorem eqU(p q:List UInt8)(h:p.length=64)(h':q.length=64):za6 Tryz.prog 11 27 (.agg (bs p)) (.agg (bs q))=some (p==q):=by rw[zox,if_pos ⟨zyZ,by rw[zd];exact h,by rw[zd];exact h'⟩];exact znX .u8 p q (by rw[h,h'])
theorem znN(xs:List PV)(off:Nat):rd Tryz.prog 27 xs off=if off+64≤xs.length then some (.agg ((xs.drop off).take 64))else none:=kr
theorem zag(s:Sq)(hs:SqL s):(sqc s).length=135:=by simp only[sqc,qW,qF,zd,hs.ia,hs.ie]
theorem zzk(s:Sq)(hs:SqL s):rd Tryz.prog 27 (sqc s) 7=some (.agg (bs s.ia)):=by rw[znN,if_pos (by rw[zag s hs];omega)];rw[show(sqc s).drop 7=bs s.ia++bs s.ie from rfl,zir _ _ hs.ia]
theorem zzj(s:Sq)(hs:SqL s):rd Tryz.prog 27 (sqc s) 71=some (.agg (bs s.ie)):=by rw[znN,if_pos (by rw[zag s hs];omega)];rw[show(sqc s).drop 71=(bs s.ia++bs s.ie).drop 64 from rfl,ziq _ _ hs.ia,zgY _ hs.ie]
def sqF(P:Program):List Field:=match P.underlying 29 with|some (.struct fs)=>fs.toList|_=>[]
def zw3(P:Program):List Field:=(sqF P).take 6
def zw4(P:Program):List Field:=(sqF P).drop 6
theorem znY(eq:TypeId→PV→PV→Option Bool)(P:Program)(xs ys:List PV)(s:List Field)(b:Bool)(hs:zcf eq P xs ys s=some b):∀(r:List Field) (a:Bool),zcf eq P xs ys r=some a→zcf eq P xs ys (r++s)=some (a&&b)
 | [],a,h=>by
  cases h;exact hs
 | f::r,a,h=>by
  rw [List.cons_append];revert h;simp only [zcf];cases decide (f.name = "_") with
  | true=>intro h;cases h
  | false=>
   cases rd P f.type xs f.offset with
   | none=>intro h;cases h
   | some x=>
    cases rd P f.type ys f.offset with
    | none=>intro h;cases h
    | some y=>
     dsimp only;cases eq f.type x y with
     | none=>intro h;cases h
     | some c=>
      dsimp only;cases hq:zcf eq P xs ys r with
      | none=>intro h;cases h
      | some q=>rw[znY eq P xs ys s b hs r q hq];intro h;cases h;simp[Bool.and_assoc]
def sqA(s t:Sq):Bool:=(s.w==t.w)&&((s.h==t.h)&&(((s.num==t.num)&&((s.den==t.den)&&true))&&((s.il==t.il)&&((s.br==t.br)&&((s.bf==t.bf)&&true)))))
def sqE(s t:Sq):Bool:=sqA s t&&((s.ia==t.ia)&&((s.ie==t.ie)&&true))
theorem sq6(a1 a2 a3 a4:Int)(a5:Bool)(a6 a7:Int)(p q:List UInt8)(b1 b2 b3 b4:Int)(b5:Bool)(b6 b7:Int)(p' q':List UInt8):zcf (za6 Tryz.prog 11) Tryz.prog (sqc ⟨a1,a2,a3,a4,a5,a6,a7,p,q⟩) (sqc ⟨b1,b2,b3,b4,b5,b6,b7,p',q'⟩) (zw3 Tryz.prog)=some (sqA ⟨a1,a2,a3,a4,a5,a6,a7,p,q⟩ ⟨b1,b2,b3,b4,b5,b6,b7,p',q'⟩):=kr
theorem ztZ(xs ys:List PV)(x y x' y':PV)(b b':Bool)(hx:rd Tryz.prog 27 xs 7=some x)(hy:rd Tryz.prog 27 ys 7=some y)(hb:za6 Tryz.prog 11 27 x y=some b)(hx':rd Tryz.prog 27 xs 71=some x')(hy':rd Tryz.prog 27 ys 71=some y')(hb':za6 Tryz.prog 11 27 x' y'=some b'):zcf (za6 Tryz.prog 11) Tryz.prog xs ys (zw4 Tryz.prog)=some (b&&(b'&&true)):=by
 have e:zcf (za6 Tryz.prog 11) Tryz.prog xs ys (zw4 Tryz.prog)=match rd Tryz.prog 27 xs 7,rd Tryz.prog 27 ys 7 with
   | some a,some b=>match za6 Tryz.prog 11 27 a b with
    | some c=>(match rd Tryz.prog 27 xs 71,rd Tryz.prog 27 ys 71 with
     | some a,some b=>match za6 Tryz.prog 11 27 a b with
      | some c=>some (c&&true)
      | none=>none
     | _,_=>none).map fun q=>c&&q
    | none=>none
   | _,_=>none:=kr
 rw[e,hx,hy,hx',hy'];simp only[hb,hb',qR]
theorem zuD(xs ys:List PV):za6 Tryz.prog 12 29 (.agg xs) (.agg ys)=zcf (za6 Tryz.prog 11) Tryz.prog xs ys ((zw3 Tryz.prog)++(zw4 Tryz.prog)):=kr
end Go.Proofs.YtpjlfoficnpfoaaGreatDoor.Sc
