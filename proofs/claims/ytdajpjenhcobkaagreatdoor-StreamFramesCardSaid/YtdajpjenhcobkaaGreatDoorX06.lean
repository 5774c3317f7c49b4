/-
  Parts of the proof. No condition.
-/
import Derived.Test.YtdajpjenhcobkaaGreatDoorX04
open Array renaming getElem?_toList → qR, mem_toList_iff → qS
open Bool renaming and_eq_true → qH
open List renaming getElem?_eq_some_iff → qA, getElem?_set_self → qF, all_eq_true → qG, map_cons → qI, map_nil → qJ, getElem?_set_ne → qK, mem_filterMap → qL, elem_eq_mem → qN, mem_append → qP, getElem?_cons_zero → qQ, map_congr_left → qT
open Nat renaming le_refl → qO
open Option renaming some → qB, map_eq_some_iff → qD, map_some → qM
open Prod renaming mk → qE
set_option linter.all false
set_option maxRecDepth 100000
set_option maxHeartbeats 32000000
namespace Go.Proofs.YtdajpjenhcobkaaGreatDoor
namespace Pm
open Go.RowKit
variable {P:Program} {C:Ctx} {H K:za} {w:World} {F:Fr} {a:Act} {N:Nat}
def zqE:List (Nat×List Nat)->Nat->List Nat
 | [],_=>[]
 | (s,ps)::l,t=>match Nat.beq s t with|true=>ps|false=>zqE l t
def zfU(pm:List (Nat×List Nat)):Operand->List Nat
 | .tmp t=>zqE pm t
 | .const _=>[]
 | .func _=>[]
 | .global _=>[]
def zaO(pm:List (Nat×List Nat))(op:Op):List Nat:=(op.operands.toList.map (zfU pm)).flatten
def atP(ids ps:List Nat):List Nat:=ps.filterMap λp=>ids[p]?
structure Fp where
 r:List Nat
 l:List Nat
 w:List Nat
 v:List Nat
def zbt(op:Op):Nat:=match zaZ op with
 | true=>0
 | false=>match zJ op with
  | true=>7
  | false=>match eff op with
   | false=>(match zaP op with|true=>1|false=>2)
   | true=>match op with
    | .store .. =>3
    | .call { callee:=.builtin .append,.. }=>4
    | .call { callee:=.builtin .copy,.. }=>5
    | .mapUpdate .. =>6
    | .insert .. =>6
    | _=>8
def zjX(op:Op):Option Operand:=match op with
 | .store _ a _=>some a
 | .call { args,.. }=>args.toList[0]?
 | .mapUpdate _ m _ _=>some m
 | .insert _ m _ _=>some m
 | _=>none
def zd5(pm:List (Nat×List Nat))(op:Op):List Nat:=match zjX op with|some x=>zfU pm x|none=>[]
def zmj(P:Program)(op:Op)(f:Nat->PV):Option (Blk×(Nat->PV)):=match op with
 | .alloc elem=>(zaz P elem).map λz=>(⟨elem,1,z⟩,λr=>.ptr r 1 0)
 | .box elem x=>match (ev f x).cells.all PV.cell with|true=>some (⟨elem,1,(ev f x).cells⟩,λr=>.ptr r 1 0)|false=>none
 | .makeSlice t l c=>match P.underlying t,ev f l,ev f c with
  | some (.slice e),.int _ l,.int _ c=>match szT P e,byT P e,zaz P e with
   | some n,some b,some z=>if 0<=l/\l<=c/\(b:Int) * c<=140737488355328/\c<=140737488355328/\z.length=n/\0<n then some (⟨e,1,zb8 l.toNat z⟩,λr=>.msl r 1 0 l.toNat n true)else none
   | _,_,_=>none
  | _,_,_=>none
 | .buildSlice t len parts=>match P.underlying t with
  | some (.slice e)=>match szT P e,zaz P e with
   | some n,some z=>if z.length=n/\0<len * n/\len * n<=65536 then(zdG (λi=>some (i * n,n)) (zb8 len z) (parts.toList.map λp=>(p.1,ev f p.2))).map λc=>(⟨e,1,c⟩,λr=>.msl r 1 0 len n true)else none
   | _,_=>none
  | _=>none
 | .call { callee:=.builtin .append,args,argTypes }=>match argTypes.toList,args.toList.map (ev f)with
  | [t,tx],[.slice xs len full,.slice ys m _]=>match P.underlying t,P.underlying tx with
   | some (.slice e),some (.slice _)=>match szT P e,byT P e,zaz P e with
    | some sz,some b,some z=>if 0<sz/\z.length=sz/\full=true/\xs.length=len * sz/\0<m/\ys.length=m * sz/\(len+m) * b<=140737488355328/\len+m<=140737488355328 then some (⟨e,1,xs++ys⟩,λr=>.msl r 1 0 (len+m) sz true)else none
    | _,_,_=>none
   | _,_=>none
  | _,_=>none
 | _=>none
def zuU:Op->Bool
 | .alloc .. | .box .. | .makeSlice .. | .buildSlice .. =>true
 | .call { callee:=.builtin .append,.. }=>true
 | _=>false
def zl8(rs:List (Nat×Nat))(o:Oper):Option Nat:=match zuU o.op with|true=>rsv rs o.dst|false=>none
def zaw(pm:List (Nat×List Nat))(rs:List (Nat×Nat))(ro:List Nat)(o:Oper):Fp:=match zl8 rs o with
 | some p=>⟨[],[],[p],[p]⟩
 | none=>match zbt o.op with
  | 0=>⟨[],[],[],[]⟩
  | 1=>⟨[],zaO pm o.op,[],[]⟩
  | 2=>⟨zaO pm o.op,[],[],[]⟩
  | 3=>⟨[],[],zd5 pm o.op,[]⟩
  | 4=>⟨zaO pm o.op,[],zd5 pm o.op,zd5 pm o.op⟩
  | 5=>⟨zaO pm o.op,[],zd5 pm o.op,[]⟩
  | 6=>⟨zaO pm o.op,[],zd5 pm o.op,[]⟩
  | 7=>match o.dst with
   | some d=>(match ro.elem d with|true=>⟨zaO pm o.op,zaO pm o.op,[],[]⟩|false=>⟨zaO pm o.op,zaO pm o.op,zaO pm o.op,zaO pm o.op⟩)
   | none=>⟨zaO pm o.op,zaO pm o.op,zaO pm o.op,zaO pm o.op⟩
  | _=>⟨[],[],[],[]⟩
def dis(a b:List Nat):Bool:=a.all λi=> !(b.elem i)
theorem zwv{a b:List Nat}(h:dis a b=true):∀ i∈a,i∉b:=λi hi hb=>by have:=qG.1 h i hi;simp_all
def zg3(ds:List (Option Nat))(pm:List (Nat×List Nat))(rs:List (Nat×Nat))(ro:List Nat)(x y:Oper):Bool:=clear ds x y&&clear ds y x&&dis (zaw pm rs ro x).w (zaw pm rs ro y).r&&dis (zaw pm rs ro x).w (zaw pm rs ro y).w&&dis (zaw pm rs ro y).w (zaw pm rs ro x).r&&dis (zaw pm rs ro x).v (zaw pm rs ro y).l&&dis (zaw pm rs ro y).v (zaw pm rs ro x).l
theorem zkh{ids ps:List Nat}{i:Nat}(h:i∈atP ids ps):∃ p∈ps,ids[p]? =some i:=qL.1 h
theorem zsu{ids ps:List Nat}{i:Nat}(h:i∈atP ids ps):i∈ids:=by grind[zkh,List.mem_of_getElem?]
theorem zfw{ids a b:List Nat}(hn:ids.Nodup)(h:dis a b=true){i:Nat}(ha:i∈atP ids a):i∉atP ids b:=λhb=>by grind[zkh,List.getElem?_inj,qA.1,zwv]
structure Agr(ids:List Nat)(fp:Fp)(H K:za):Prop where
 len:K.length=H.length
 out:∀ i,i∉ids->K[i]? =H[i]?
 inn:∀ i,i∈atP ids fp.r\/i∈atP ids fp.w->K[i]? =H[i]?
 liv:∀ i,i∈atP ids fp.l->VEq H K i
theorem Agr.refl(ids:List Nat)(fp:Fp)(H:za):Agr ids fp H H:=⟨rfl,λ_ _=>rfl,λ_ _=>rfl,λ_ _=>rfl⟩
theorem Agr.trans{ids:List Nat}{fp:Fp}{H K L:za}(h:Agr ids fp H K)(k:Agr ids fp K L):Agr ids fp H L:=⟨k.len.trans h.len,λi hi=>(k.out i hi).trans (h.out i hi),λi hi=>(k.inn i hi).trans (h.inn i hi),λi hi=>Eq.trans (k.liv i hi) (h.liv i hi)⟩
structure Upd(ids:List Nat)(fp:Fp)(H H':za):Prop where
 len:H'.length=H.length
 out:∀ i,i∉atP ids fp.w->H'[i]? =H[i]?
 ver:∀ i,i∉atP ids fp.v->VEq H H' i
theorem Upd.refl(ids:List Nat)(fp:Fp)(H:za):Upd ids fp H H:=⟨rfl,λ_ _=>rfl,λ_ _=>rfl⟩
theorem Upd.set{ids:List Nat}{fp:Fp}{id:Nat}{k b:Blk}(hk:H[id]? =some k)(hw:id∈atP ids fp.w)(hv:b.ver=k.ver\/id∈atP ids fp.v):Upd ids fp H (H.set id b):=by have hid:id<H.length:=(qA.1 hk).1;refine⟨by simp,λi hi=> ?_,λi hi=> ?_⟩;all_goals grind[qK,VEq,qF]
def zhI(P:Program)(op:Op)(f:Nat->PV):Option PV:=match op with
 | .makeSlice t l c=>match P.underlying t,ev f l,ev f c with
  | some (.slice e),.int _ l,.int _ c=>match byT P e,zaz P e with
   | some _,some _=>if l=0/\c=0 then some (.slice [] 0 true)else none
   | _,_=>none
  | _,_,_=>none
 | _=>none
def zeL(P:Program)(ids:List Nat)(rs:List (Nat×Nat))(o:Oper)(f:Nat->PV)(H:za):Option (PV×za):=match zl8 rs o with
 | some p=>match ids[p]? with
  | some r=>match zmj P o.op f with
   | some (b,mk)=>match H[r]? with
    | some k=>if k.e=b.e/\k.ver=0 then some (mk r,H.set r b)else none
    | none=>none
   | none=>none
  | none=>(zhI P o.op f).map λv=>(v,H)
 | none=>pop P o.op f H
def StI(P:Program)(ids:List Nat)(rs:List (Nat×Nat))(o:Oper)(f:Nat->PV)(H:za)(v:PV)(H':za):Prop:=match zn o.op f with
 | some (g,args)=>CallOk P g args H v H'
 | none=>zeL P ids rs o f H=some (v,H')
def Loc(P:Program)(ids:List Nat)(rs:List (Nat×Nat))(fp:Fp)(o:Oper)(f:Nat->PV)(H:za)(v:PV)(H':za):Prop:=Upd ids fp H H'/\∀ K,Agr ids fp H K->∃ K',StI P ids rs o f K v K'/\Upd ids fp K K'/\∀ i,i∈atP ids fp.w->K'[i]? =H'[i]?
def ExI(P:Program)(all:List Oper)(ids:List Nat)(pm:List (Nat×List Nat))(rs:List (Nat×Nat))(ro:List Nat)(o:Oper)(f:Nat->PV)(H:za)(v:PV)(H':za):Prop:=(zby all f o=some false/\v= .tup []/\H'=H)\/(zby all f o=some true/\Loc P ids rs (zaw pm rs ro o) o f H v H')
theorem Loc.now{ids:List Nat}{rs:List (Nat×Nat)}{fp:Fp}{o:Oper}{f:Nat->PV}{v:PV}{H':za}(h:Loc P ids rs fp o f H v H'):StI P ids rs o f H v H':=by
 obtain⟨u,h⟩:=h;obtain⟨K',h1,h2,h3⟩:=h H (.refl _ _ _);have:K'=H':=List.ext_getElem? λi=>by
  by_cases hi:i∈atP ids fp.w
  .simp_all
  .rw[h2.out i hi,u.out i hi]
 simp_all
theorem Loc.read{ids:List Nat}{rs:List (Nat×Nat)}{fp:Fp}{o:Oper}{f:Nat->PV}{v:PV}(h:∀ K,Agr ids fp H K->StI P ids rs o f K v K):Loc P ids rs fp o f H v H:=⟨.refl _ _ _,λK hK=>⟨K,h K hK,.refl _ _ _,λi hi=>hK.inn i (.inr hi)⟩⟩
theorem Loc.set{ids:List Nat}{rs:List (Nat×Nat)}{fp:Fp}{o:Oper}{f:Nat->PV}{v:PV}{id:Nat}{k b:Blk}(hk:H[id]? =some k)(hw:id∈atP ids fp.w)(hv:b.ver=k.ver\/id∈atP ids fp.v)
  (h:∀ K,Agr ids fp H K->StI P ids rs o f K v (K.set id b)):Loc P ids rs fp o f H v (H.set id b):=by
 refine⟨.set hk hw hv,λK hK=>⟨K.set id b,h K hK,.set ((hK.inn id (.inr hw)).trans hk) hw hv,λi hi=> ?_⟩⟩;by_cases e:id=i
 .subst e;have hid:id<H.length:=(qA.1 hk).1;rw[qF hid,qF (by rw[hK.len];exact hid)]
 .rw[qK e,qK e,hK.inn i (.inr hi)]
theorem zhH{ids:List Nat}{rs:List (Nat×Nat)}{o:Oper}{f g:Nat->PV}(h:∀ x∈o.op.operands.toList,ev f x=ev g x):zeL P ids rs o f H=zeL P ids rs o g H:=by
 have e:zmj P o.op f=zmj P o.op g:=by
  unfold zmj;split
  .rfl
  .rename_i el x ho;rw[ho]at h;rw[h x (by simp[Op.operands])]
  .rename_i t l c ho;rw[ho]at h;rw[h l (by simp[Op.operands]),h c (by simp[Op.operands])]
  .rename_i t len parts ho;rw[ho]at h;have:parts.toList.map (λp=>(p.1,ev f p.2))=parts.toList.map (λp=>(p.1,ev g p.2)):=qT λp hp=>by rw[h p.2 (by simp[Op.operands];exact⟨_,qS.1 hp⟩)]
   rw[this]
  .rename_i args ts ho;rw[ho]at h;have:args.toList.map (ev f)=args.toList.map (ev g):=qT λx hx=>h x (by simp[Op.operands,Call.operands];exact qS.1 hx);rw[this]
  .rfl
 have e0:zhI P o.op f=zhI P o.op g:=by
  unfold zhI;split
  .rename_i t l c ho;rw[ho]at h;rw[h l (by simp[Op.operands]),h c (by simp[Op.operands])]
  .rfl
 grind[zeL,zfV]
theorem ExI.congr{all:List Oper}{ids:List Nat}{pm:List (Nat×List Nat)}{rs:List (Nat×Nat)}{ro:List Nat}{o:Oper}{f g:Nat->PV}{v:PV}{H':za}(h:∀ t∈ziG (all.map (·.dst)) o,f t=g t)(he:ExI P all ids pm rs ro o f H v H'):ExI P all ids pm rs ro o g H v H':=by have e1:zby all f o=zby all g o:=zdd λt ht=>h t (qP.2 (.inr ht));have e2:∀ x∈o.op.operands.toList,ev f x=ev g x:=λx hx=>zfs λt ht=>h t (qP.2 (.inl (zff (ht▸hx))));grind[ExI,Loc,StI,zbP,zhH]
theorem zxd{all:List Oper}{ids:List Nat}{pm:List (Nat×List Nat)}{rs:List (Nat×Nat)}{ro:List Nat}(hn:ids.Nodup):zoh (ExI P all ids pm rs ro) (zg3 (all.map (·.dst)) pm rs ro):=by
 intro x o f H vx Hx v H1 hc hx ho;unfold zg3 at hc;simp only[qH]at hc;obtain⟨⟨⟨⟨⟨⟨c1,c2⟩,c3⟩,c4⟩,c5⟩,c6⟩,c7⟩:=hc;have ho':ExI P all ids pm rs ro o f Hx v H1:=ho.congr λt ht=>zcj (zbo c1 t ht);have hx':∀ K K',ExI P all ids pm rs ro x f K vx K'->ExI P all ids pm rs ro x (upd f o.dst v) K vx K':=λK K' h=>h.congr λt ht=>(zcj (zbo c2 t ht)).symm;have hcm:=zhg (f:=f) (u:=vx) (v:=v) (zgb c1);rcases hx with⟨x1,x2,rfl⟩|⟨x1,ux,lx⟩
 .exact⟨H1,ho',hx' _ _ (.inl ⟨x1,x2,rfl⟩),hcm⟩
 rcases ho' with⟨o1,o2,rfl⟩|⟨o1,uo,lo⟩
 .exact⟨H,.inl ⟨o1,o2,rfl⟩,hx' _ _ (.inr ⟨x1,ux,lx⟩),hcm⟩
 have dxr:∀{i},i∈atP ids (zaw pm rs ro x).w->i∉atP ids (zaw pm rs ro o).r:=λh=>zfw hn c3 h;have dxw:∀{i},i∈atP ids (zaw pm rs ro x).w->i∉atP ids (zaw pm rs ro o).w:=λh=>zfw hn c4 h;have dor:∀{i},i∈atP ids (zaw pm rs ro o).w->i∉atP ids (zaw pm rs ro x).r:=λh=>zfw hn c5 h;have dxv:∀{i},i∈atP ids (zaw pm rs ro x).v->i∉atP ids (zaw pm rs ro o).l:=λh=>zfw hn c6 h;have dov:∀{i},i∈atP ids (zaw pm rs ro o).v->i∉atP ids (zaw pm rs ro x).l:=λh=>zfw hn c7 h;have a1:Agr ids (zaw pm rs ro o) Hx H:=⟨ux.len.symm,λi hi=>(ux.out i λh=>hi (zsu h)).symm,λi hi=>(ux.out i λh=>by rcases hi with hi|hi;exact dxr h hi;exact dxw h hi).symm,λi hi=>(ux.ver i λh=>dxv h hi).symm⟩;obtain⟨H3,s3,u3,w3⟩:=lo H a1;have a2:Agr ids (zaw pm rs ro x) H H3:=⟨u3.len,λi hi=>u3.out i λh=>hi (zsu h),λi hi=>u3.out i λh=>by rcases hi with hi|hi;exact dor h hi;exact dxw hi h,λi hi=>u3.ver i λh=>dov h hi⟩;refine⟨H3,.inr ⟨o1,u3,λK hK=> ?_⟩,hx' _ _ (.inr ⟨x1,⟨?_,λi hi=> ?_,λi hi=> ?_⟩,λK hK=> ?_⟩),hcm⟩
 .obtain⟨K',k1,k2,k3⟩:=lo K (a1.trans hK);grind
 .rw[uo.len,ux.len,u3.len]
 .by_cases hw:i∈atP ids (zaw pm rs ro o).w
  .simp_all
  .rw[uo.out i hw,ux.out i hi,u3.out i hw]
 .by_cases hw:i∈atP ids (zaw pm rs ro o).w
  .unfold VEq;rw[w3 i hw]
  .have:=ux.ver i hi;unfold VEq at this |-;rw[uo.out i hw,u3.out i hw,this]
 .obtain⟨K',k1,k2,k3⟩:=lx K (a2.trans hK);exact⟨K',k1,k2,λi hi=>by rw[k3 i hi,uo.out i (dxw hi)]⟩
theorem ze7{place:Nat->Option (Nat×Nat)}:∀(parts:List (Nat×PV)) (cs ys:List PV),zdG place cs parts=some ys->ys.length=cs.length
 | [],cs,ys,h=>by simp_all[zdG,qB.injEq]
 | (i,v)::rest,cs,ys,h=>by
  simp only[zdG]at h;split at h
  .cases h
  .rename_i off size hp;split at h
   .rename_i hq;rw[ze7 rest _ _ h];grind[zW,List.length_append,List.length_take,List.length_drop]
   .cases h
theorem zk2{t tx ty e sz bb len m r:Nat}{full g:Bool}{xs ys z:List PV}{p q:Value}{k:Blk}(hw:WRel C H w)(hsv:VRel C (.slice xs len full) p)(hx:VRel C (.slice ys m g) q)
  (hu:P.underlying t=some (.slice e)) {e':TypeId} (hu':P.underlying tx=some (.slice e')) (hn:szT P e=some sz) (hb:byT P e=some bb) (hz:zaz P e=some z)
  (hq:0<sz/\z.length=sz/\full=true/\xs.length=len * sz/\0<m/\ys.length=m * sz/\(len+m) * bb<=140737488355328/\len+m<=140737488355328) (hk:H[r]? =some k) (he:k.e=e) (hv:k.ver=0):
  ∃ C' u w',CLe C C'/\WRel C' (H.set r ⟨e,1,xs++ys⟩) w'/\Below C.B w w'/\VRel C' (.msl r 1 0 (len+m) sz true) u/\(Builtin.append_ #[t,tx] ty #[p,q]).run P w= .ok u w':=by
 have hid:r<H.length:=(qA.1 hk).1;have g1:r<C.mu.length:=by rw[hw.len];exact hid
 have g2:r<C.vs.length:=by rw[hw.lenv];exact hid
 have g3:r<C.cp.length:=by rw[hw.lenc];exact hid
 obtain⟨q1,q2,rfl,q4,q5,q6,q7,q8⟩:=hq;obtain⟨i,zv,hi,hzv,hzr,hzl,hzc⟩:=zao hz;obtain⟨ie,hie,hs⟩:=zbe hn;obtain⟨ib,hib,hby⟩:=zfv hb;rw[hi]at hie hib;injection hie with hie;injection hib with hib;subst hie hib;have hsrc:zbx P H e sz tx (.slice ys m g)=some (ys,m):=by simp_all[zbx,zaT]
 obtain⟨us,happ,hRn,hln,hnn,hcn⟩:=zfy hw hx hi hs hzv hz q2 q1 hsrc;have hzsize:∀ m,(Builtin.zeroCells zv.cells m).size=m * sz:=λm=>by rw[size_zeroCells,<-Array.length_toList,hzl,q2]
 have hshape:∃ ad os,p= .slice ad len len/\os.length=xs.length/\Rel C xs os/\(∀ x∈xs,x.cell=true)/\((len=0/\os=[])\/∃ b o,ad=some ⟨b,o,none⟩/\At w b o os):=by
  cases hsv with
  | @slice _ _ cap b' o' _ us' hl' hM' hc' hR' hcap' hmax' hf'=>rw[hf' rfl];exact⟨_,us',rfl,hl',hR',hc',.inr ⟨b',o',rfl,hw.at_imm hM'⟩⟩
  | sliceN=>exact⟨_,[],rfl,rfl,λj x u hx=>by simp at hx,λx hx=>by simp at hx,.inl ⟨rfl,rfl⟩⟩
 obtain⟨ad,os,rfl,hos,hRx,hcx,hat⟩:=hshape;have hold:(Builtin.firstCells i.size len (.slice ad len len)).run P w.drew= .ok os.toArray w.drew:=by rw[hs];exact zc6 (w:=w.drew) om (by rcases hat with h1|⟨b,o,h1,h2⟩;exact .inl h1;exact .inr ⟨b,o,h1,h2⟩)
 have hr:=zlJ (P:=P) (ty:=ty) hu hi hzv hold happ om (by rw[hby];exact q7) q8 (by rw[hs];exact q1);have hge:=grownCap_ge w (len+m) len e;have hle:=grownCap_le_maxLen w (len+m) len e (by simp only[maxLen];omega);generalize grownCap w (len+m) len e=nc at hr hge hle;generalize hcur:(os++us).toArray++Builtin.zeroCells zv.cells (nc - (len+m))=cur at hr;have hsize:cur.size=nc * sz:=by rw[<-hcur,Array.size_append,hzsize];simp only[List.size_toArray,List.length_append,hos,q4,hln,q6,<-Nat.add_mul];simp_all
 have hfit:(xs++ys).length<=cur.size:=by grind
 obtain⟨c1,c2,c30⟩:=hw.drew.move hk 1 om (xs++ys) cur (λx hx=>by rcases qP.1 hx with hx|hx;exact hcx x hx;exact hcn x hx) hfit (λj x u hx hu'=>by
  have hlt:j<(xs++ys).length:=(qA.1 hx).1;refine Rel.append hos hRx hRn j x u hx ?_;rw[<-hcur,<-qR,Array.toList_append,List.getElem?_append_left (by simp at hlt |-;omega)]at hu';exact hu')
 rw[he]at c2 c30;have c3:=((Below.refl C.B w).drew).trans c30;refine⟨_,_,_,c1,c2,c3,?_,hr⟩;refine .msl (by simp[g1]) (by simp[g2]) hge hle (λ_=>⟨rfl,?_⟩);simp[g3,hsize]
theorem zmi{op:Op}{f:Nat->PV}{b:Blk}{mk:Nat->PV}{r:Nat}{k:Blk}{o:Oper}(ho:o.op=op)(hw:WRel C H w)(hf:FRel C N f a)(h:zmj P op f=some (b,mk))(hk:H[r]? =some k)(he:k.e=b.e)(hv:k.ver=0):
  ∃ C' u w',CLe C C'/\WRel C' (H.set r b) w'/\Below C.B w w'/\VRel C' (mk r) u/\(execOp a.eval o).run P w= .ok (.value u) w':=by
 have hid:r<H.length:=(qA.1 hk).1;have g1:r<C.mu.length:=by rw[hw.len];exact hid
 have g2:r<C.vs.length:=by rw[hw.lenv];exact hid
 have g3:r<C.cp.length:=by rw[hw.lenc];exact hid
 unfold zmj at h;split at h
 .rename_i elem;simp only[qD,qE.injEq]at h;obtain⟨z,hz,rfl,rfl⟩:=h;obtain⟨i,zv,hi,hzv,hzr,hzl,hzc⟩:=zao hz;obtain⟨c1,c2,c3⟩:=hw.move hk 1 om z zv.cells hzc (by rw[<-hzl];simp) (λj x u hx hu=>hzr C j x u hx (by simpa using hu));rw[he]at c2 c3;refine⟨_,.pointer (some ⟨w.heap.size,0,none⟩),_,c1,c2,c3,.ptr (by simp[g1]) (by simp[g2]),?_⟩;simp[execOp,ho,Instr.alloc,newVar,newRow,zeroValue,typeInfo,hi,hzv]
 .rename_i elem x;split at h
  .rename_i hall;simp only[qB.injEq,qE.injEq]at h;obtain⟨rfl,rfl⟩:=h;obtain⟨hr,hl⟩:=zc9 hall (zy hf x);obtain⟨c1,c2,c3⟩:=hw.move hk 1 om (ev f x).cells (a.eval x).cells (λx hx=>qG.1 hall x hx) (by rw[<-hl];simp) (λj x u hx hu=>hr j x u hx (by simpa using hu));rw[he]at c2 c3;refine⟨_,.pointer (some ⟨w.heap.size,0,none⟩),_,c1,c2,c3,.ptr (by simp[g1]) (by simp[g2]),?_⟩;simp[execOp,ho,Instr.box,newVar,newRow]
  .cases h
 .rename_i t lo co;split at h
  .rename_i e kl l kc c hu hlv hcv;split at h
   .rename_i n bb z hn hb hz;obtain⟨i,zv,hi,hzv,hzr,hzl,hzc⟩:=zao hz;obtain⟨ie,hie,hs⟩:=zbe hn;obtain⟨ib,hib,hby⟩:=zfv hb;rw[hi]at hie hib;injection hie with hie;injection hib with hib;subst hie hib;split at h
    .rename_i hq;simp only[qB.injEq,qE.injEq]at h;obtain⟨rfl,rfl⟩:=h;have hl:=zy hf lo;have hc:=zy hf co;rw[hlv]at hl;rw[hcv]at hc;have el:=zL hl;have ec:=zL hc;have hr:=run_make (P:=P) w t e i zv hu hi hzv kl kc l c hq.1 hq.2.1 (by rw[hby];have:=hq.2.2.1;omega) (by have:=hq.2.2.2.1;omega);have hcn:l.toNat * z.length<=c.toNat * i.size:=by rw[hs,hq.2.2.2.2.1];exact Nat.mul_le_mul_right n om
     have hmade:=zd0 (C:=C) (n:=l.toNat) (m:=c.toNat * i.size) hzl (hzr C) (by rw[hq.2.2.2.2.1];exact hq.2.2.2.2.2) hcn;obtain⟨c1,c2,c3⟩:=hw.move hk 1 om (zb8 l.toNat z) (madeCells zv.cells (c.toNat * i.size)) (zcZ hzc) (by rw[za0,size_madeCells];exact hcn) (λj x u hx hu=>hmade j x u hx (by rw[qR];exact hu));rw[he]at c2 c3;refine⟨_,.slice (some ⟨w.heap.size,0,none⟩) l.toNat c.toNat,_,c1,c2,c3,?_,by simp only[execOp,ho,el,ec,Sem.run_bind,hr,Result.andThen_ok,Sem.run_pure]⟩;refine .msl (by simp[g1]) (by simp[g2]) om (by have:=hq.2.2.2.1;simp only[maxLen];omega) (λ_=>⟨rfl,?_⟩);simp[g3,size_madeCells,hs]
    .cases h
   .cases h
  .cases h
 .rename_i t len parts;split at h
  .rename_i e hu;split at h
   .rename_i n z hn hz;obtain⟨i,zv,hi,hzv,hzr,hzl,hzc⟩:=zao hz;obtain⟨ie,hie,hs⟩:=zbe hn;rw[hi]at hie;injection hie with hie;subst hie;split at h
    .rename_i hq;simp only[qD,qE.injEq]at h;obtain⟨ys,hys,rfl,rfl⟩:=h;obtain⟨hl,hp⟩:=zf1 hf parts;have hpos:0<z.length:=by grind
     have hmade:=zd0 (C:=C) (n:=len) (m:=len * i.size) hzl (hzr C) hpos (by rw[hs,hq.1];exact qO _);obtain⟨cs',q1,q2,q3,q4⟩:=zb0 (C:=C) (λi=>some (i * n,n)) _ _ (zb8 len z) ys ((Array.range (len * i.size)).map (zv.cells[· %zv.cells.size]!)) hl hp hmade
      (by rw[za0,hq.1,hs];simp) (zcZ hzc) hys
     have hr:=run_buildSlice (P:=P) w t e len _ cs' i zv hu hi hzv (by rw[hs];have:=hq.2.2;omega) (by rw[hs];have:=hq.2.1;omega) (by rw[hs]at q1 |-;exact q1);obtain⟨c1,c2,c3⟩:=hw.move hk 1 om ys cs' q4 (by rw[<-q3];exact qO _) (λj x u hx hu=>q2 j x u hx (by simpa using hu));rw[he]at c2 c3;refine⟨_,.slice (some ⟨w.heap.size,0,none⟩) len len,_,c1,c2,c3,?_,by simp only[execOp,ho,Sem.run_bind,hr,Result.andThen_ok,Sem.run_pure]⟩;have hln:len<=len * n:=Nat.le_mul_of_pos_right len om;refine .msl (by simp[g1]) (by simp[g2]) (qO _) (by simp only[maxLen];omega) (λ_=>⟨rfl,?_⟩);have:ys.length=len * n:=by grind[ze7,za0]
     simp[g3,<-q3,this]
    .cases h
   .cases h
  .cases h
 .rename_i args ts;split at h
  .rename_i t tx xs len full ys m g hts hal;split at h
   .rename_i e e' hu hu';split at h
    .rename_i sz bb z hn hb hz;split at h
     .rename_i hq;simp only[qB.injEq,qE.injEq]at h;obtain⟨rfl,rfl⟩:=h;obtain⟨x,y,hxy,hx1,hy1⟩:∃ x y,args.toList=[x,y]/\ev f x= .slice xs len full/\ev f y= .slice ys m g:=by
       match hat:args.toList,hal with
       | [x,y],hal=>simp only[qI,qJ,List.cons.injEq,and_true]at hal;exact⟨x,y,rfl,hal.1,hal.2⟩
       | [],hal=>simp at hal
       | [_],hal=>simp at hal
       | _::_::_::_,hal=>simp at hal
      have r1:=zy hf x;have r2:=zy hf y;rw[hx1]at r1;rw[hy1]at r2;obtain⟨C',u,w',s1,s2,s3,s4,s5⟩:=zk2 (ty:=o.type) hw r1 r2 hu hu' hn hb hz hq hk he hv;refine⟨C',u,w',s1,s2,s3,s4,?_⟩;have ea:args= #[x,y]:=Array.toList_inj.1 (by rw[hxy]);have et:ts= #[t,tx]:=Array.toList_inj.1 (by rw[hts]);subst ea et;have hb:∀ cs,builtin .append #[t,tx] o.type cs #[a.eval x,a.eval y]=(do pure (.value (<-Builtin.append_ #[t,tx] o.type #[a.eval x,a.eval y]))):=λ_=>rfl;simp only[execOp,ho,resolve,invoke,Sem.run_bind,Sem.run_pure,Result.andThen_ok,List.map_toArray,qI,qJ,hb,s5]
     .cases h
    .cases h
   .cases h
  .cases h
 .cases h
theorem zk3{op:Op}{f:Nat->PV}{v:PV}{o:Oper}(ho:o.op=op)(hw:WRel C H w)(hf:FRel C N f a)(h:zhI P op f=some v):
  ∃ u w',WRel C H w'/\Below C.B w w'/\VRel C v u/\(execOp a.eval o).run P w= .ok (.value u) w':=by
 unfold zhI at h;split at h
 .rename_i t lo co;split at h
  .rename_i e kl l kc c hu hlv hcv;split at h
   .rename_i bb z hb hz;obtain⟨i,zv,hi,hzv,hzr,hzl,hzc⟩:=zao hz;split at h
    .rename_i hq;obtain⟨rfl,rfl⟩:=hq;simp only[qB.injEq]at h;subst h;have hl:=zy hf lo;have hc:=zy hf co;rw[hlv]at hl;rw[hcv]at hc;have el:=zL hl;have ec:=zL hc;have hr:=run_make (P:=P) w t e i zv hu hi hzv kl kc 0 0 om om om om;refine⟨.slice (some ⟨w.heap.size,0,none⟩) 0 0,_,hw.grown ((Below.refl _ _).alloc (qO _) _),(Below.refl _ _).alloc hw.base _,.sliceN _ _,by simp only[execOp,ho,el,ec,Sem.run_bind,hr,Result.andThen_ok,Sem.run_pure];rfl⟩
    .cases h
   .cases h
  .cases h
 .cases h
theorem zfL{o:Oper}{ids:List Nat}{rs:List (Nat×Nat)}{f:Nat->PV}{v:PV}{H':za}(hd:zU N o=true)(hw:WRel C H w)(hf:FRel C N f a)(h:StI P ids rs o f H v H')(next:Act->World->Prop)(Q:Exit->Act->World->Prop)
  (hn:∀ C' u w',CLe C C'->WRel C' H' w'->Below C.B w w'->FRel C' N (upd f o.dst v) (a.put o.dst u)->next (a.put o.dst u) w'):o.wp P a w next Q:=by
 unfold StI at h;split at h
 .rename_i g args hc;exact zdu hd hw hf (by unfold Exec;rw[hc];exact h) _ _ hn
 .rename_i hc;unfold zeL at h;split at h
  .rename_i p hp;split at h
   .rename_i r hr;split at h
    .rename_i b mk hb;split at h
     .rename_i k hk;split at h
      .rename_i hq;simp only[qB.injEq,qE.injEq]at h;obtain⟨rfl,rfl⟩:=h;obtain⟨C',u,w',q1,q2,q3,q4,q5⟩:=zmi (o:=o) rfl hw hf hb hk hq.1 hq.2;unfold Oper.wp;rw[q5,Oper.upon_value];exact hn C' u w' q1 q2 q3 ((hf.mono q1).put _ (zaQ hd) q4)
      .cases h
     .cases h
    .cases h
   .simp only[qD,qE.injEq]at h;obtain⟨v',hv',rfl,rfl⟩:=h;obtain⟨u,w',q2,q3,q4,q5⟩:=zk3 (o:=o) rfl hw hf hv';unfold Oper.wp;rw[q5,Oper.upon_value];exact hn C u w' (.refl C) q2 q3 (hf.put _ (zaQ hd) q4)
  .exact zdu hd hw hf (by unfold Exec;rw[hc];exact h) _ _ hn
theorem zxg{ops:Array Oper}{ids:List Nat}{pm:List (Nat×List Nat)}{rs:List (Nat×Nat)}{ro:List Nat}:zsG P N ops (ExI P ops.toList ids pm rs ro):=by
 intro o f H v H' C a w hd hw hf he;rcases he with⟨h1,h2,h3⟩|⟨h1,h2⟩
 .have hwant:=zS hf h1;simp_all
 .have hwant:=zS hf h1;rw[Array.toArray_toList]at hwant;exact .inr ⟨hwant,λnext Q hn=>zfL hd hw hf h2.now _ _ hn⟩
end Pm
namespace Pm
open Go.RowKit
variable {P:Program} {C:Ctx} {H K:za} {w:World} {F:Fr} {a:Act} {N:Nat}
def okO(ids:List Nat)(pm:List (Nat×List Nat))(f:Nat->PV)(x:Operand):Bool:=(zM (ev f x)).all λi=> !(ids.elem i)||(atP ids (zfU pm x)).elem i
def inO(ids:List Nat)(pm:List (Nat×List Nat))(f:Nat->PV)(x:Operand):Bool:=match zM (ev f x)with
 | [i]=>(atP ids (zfU pm x)).elem i
 | _=>false
def zlm:PV->Bool
 | .msl .. =>true
 | _=>false
def zmx(f:Nat->PV)(op:Op):Bool:=match op with
 | .call { args,.. }=>(match args.toList.map (ev f)with|[.slice _ _ _,.slice _ 0 _]=>true|_=>false)
 | _=>false
def zua(ids:List Nat)(pm:List (Nat×List Nat))(rs:List (Nat×Nat))(o:Oper)(f:Nat->PV):Bool:=match zl8 rs o with
 | some _=>true
 | none=>match zbt o.op with
  | 0=>true
  | 1=>o.op.operands.toList.all (okO ids pm f)
  | 2=>o.op.operands.toList.all (okO ids pm f)
  | 3=>(match zjX o.op with|some x=>inO ids pm f x|none=>false)
  | 4=>(match zjX o.op with|some x=>(inO ids pm f x&&zlm (ev f x)&&o.op.operands.toList.all (okO ids pm f))||zmx f o.op|none=>false)
  | 5=>(match zjX o.op with|some x=>inO ids pm f x&&o.op.operands.toList.all (okO ids pm f)|none=>false)
  | 6=>(match zjX o.op with|some x=>inO ids pm f x&&o.op.operands.toList.all (okO ids pm f)|none=>false)
  | _=>false
theorem zmw{ids:List Nat}{pm:List (Nat×List Nat)}{f:Nat->PV}{op:Op}(h:op.operands.toList.all (okO ids pm f)=true):∀ x∈op.operands.toList,∀ i∈zM (ev f x),i∉ids\/i∈atP ids (zaO pm op):=λx hx i hi=>by
 have:=qG.1 (qG.1 h x hx) i hi;simp only[Bool.or_eq_true,Bool.not_eq_true',qN,decide_eq_true_eq,decide_eq_false_iff_not]at this;rcases this with h|h
 .exact .inl h
 .obtain⟨p,hp,e⟩:=zkh h;exact .inr (qL.2 ⟨p,List.mem_flatten.2 ⟨_,List.mem_map.2 ⟨x,hx,rfl⟩,hp⟩,e⟩)
theorem znw{ids:List Nat}{pm:List (Nat×List Nat)}{f:Nat->PV}{op:Op}(h:op.operands.toList.all (okO ids pm f)=true):∀ i∈zeD op f,i∉ids\/i∈atP ids (zaO pm op):=λi hi=>by obtain⟨l,hl,hi⟩:=List.mem_flatten.1 hi;grind[List.mem_map.1,zmw]
theorem Agr.rd{ids:List Nat}{fp:Fp}{pm:List (Nat×List Nat)}{op:Op}(hA:Agr ids fp H K)(hr:fp.r=zaO pm op){i:Nat}(h:i∉ids\/i∈atP ids (zaO pm op)):K[i]? =H[i]? :=by
 rcases h with h|h
 .exact hA.out i h
 .exact hA.inn i (.inl (by rw[hr];exact h))
theorem zjT{ids:List Nat}{pm:List (Nat×List Nat)}{f:Nat->PV}{x:Operand}{i:Nat}(h:inO ids pm f x=true)(hi:zM (ev f x)=[i]):i∈atP ids (zfU pm x):=by simp_all[inO,qN]
theorem ziN{op:Op}(h:zbt op=0):zaZ op=true:=by unfold zbt at h;grind
theorem zlk{op:Op}(h:zbt op=1\/zbt op=2):eff op=false/\(zbt op=1->zaP op=true):=by unfold zbt at h |-;grind
theorem zfj{op:Op}{n:Nat}(h:zbt op=n+3)(hn:n<=3):eff op=true/\zaZ op=false/\zJ op=false:=by unfold zbt at h;grind
theorem zmG{op:Op}(h:zbt op=3):∃ t x y,op= .store t x y:=by obtain⟨h1,h2,h3⟩:=zfj (n:=0) h om;unfold zbt at h;grind
theorem zll{op:Op}(h:zbt op=4):∃ args ts,op= .call { callee:=.builtin .append,args:=args,argTypes:=ts }:=by obtain⟨h1,h2,h3⟩:=zfj (n:=1) h om;unfold zbt at h;grind
theorem zoV{op:Op}(h:zbt op=5):∃ args ts,op= .call { callee:=.builtin .copy,args:=args,argTypes:=ts }:=by obtain⟨h1,h2,h3⟩:=zfj (n:=2) h om;unfold zbt at h;grind
theorem zrz{op:Op}(h:zbt op=6):∃ t m k x,op= .mapUpdate t m k x\/op= .insert t m k x:=by obtain⟨h1,h2,h3⟩:=zfj (n:=3) h om;unfold zbt at h;grind
theorem zig{e sz tx:Nat}{x:PV}(hx:∀ id∈zM x,K[id]? =H[id]?):zbx P K e sz tx x=zbx P H e sz tx x:=by
 unfold zbx;split<;>try rfl
 exact zhy hx
theorem zqI{t:TypeId}{m:PV}(hx:∀ id∈zM m,K[id]? =H[id]?):zaL P K t m=zaL P H t m:=by unfold zaL;grind[zM]
theorem zmd{t:TypeId}{x v:PV}{H':za}(h:zdl P H t x v=some H'):∃ id k b,zM x=[id]/\H[id]? =some k/\b.ver=k.ver/\H'=H.set id b/\∀ K:za,K[id]? =H[id]? ->zdl P K t x v=some (K.set id b):=by
 unfold zdl at h;split at h
 .rename_i id ver off;split at h
  .rename_i k hk;split at h
   .rename_i hv;simp only[qD]at h;obtain⟨c,hc,rfl⟩:=h;refine⟨id,k,⟨k.e,k.ver,c⟩,rfl,hk,rfl,rfl,λK hK=> ?_⟩;unfold zdl;simp only[hK,hk,hv,if_true,hc,qM]
   .cases h
  .cases h
 .cases h
theorem zoG{t:TypeId}{m k x:PV}{H':za}(h:zdD P H t m k x=some H'):∃ id b' b,zM m=[id]/\H[id]? =some b'/\b.ver=b'.ver/\H'=H.set id b/\∀ K:za,K[id]? =H[id]? ->zdD P K t m k x=some (K.set id b):=by
 unfold zdD at h;split at h
 .rename_i e d id b hm;have hq:zM m=[id]/\H[id]? =some b:=by
   unfold zaL at hm;split at hm
   .rename_i kt e' id' ver hu;split at hm
    .rename_i d' b' hs hb;split at hm
     .simp only[qB.injEq,qE.injEq]at hm;obtain⟨_,_,rfl,rfl⟩:=hm;exact⟨rfl,hb⟩
     .cases hm
    .cases hm
   .cases hm
  have key:∀ K:za,K[id]? =H[id]? ->zaL P K t m=some (e,d,id,b):=λK hK=>by rw[zqI (H:=H) (λi hi=>by rw[hq.1]at hi;simp at hi;rw[hi];exact hK),hm]
  split at h
  .rename_i i v hf;simp only[qB.injEq]at h;subst h;exact⟨id,b,⟨b.e,b.ver,b.cells.set i (.tup [k,x])⟩,hq.1,hq.2,rfl,rfl,λK hK=>by unfold zdD;rw[key K hK];simp only[hf]⟩
  .rename_i hf;simp only[qB.injEq]at h;subst h;exact⟨id,b,⟨b.e,b.ver,b.cells++[.tup [k,x]]⟩,hq.1,hq.2,rfl,rfl,λK hK=>by unfold zdD;rw[key K hK];simp only[hf]⟩
  .cases h
 .cases h
theorem zoO{t:TypeId}{d x v:PV}{H':za}{id:Nat}(hd:zM d=[id])(h:zgn P H t d x=some (v,H')):∃ k b,H[id]? =some k/\b.ver=k.ver/\H'=H.set id b/\∀ K:za,K[id]? =H[id]? ->(∀ i∈zM x,K[i]? =H[i]?)->zgn P K t d x=some (v,K.set id b):=by
 unfold zgn at h;split at h
 .rename_i e hu;split at h
  .rename_i sz hs;split at h
   .rename_i id' ver off len z g;simp only[zM,List.cons.injEq,and_true]at hd;subst hd;split at h
    .rename_i k ys n hk hy;split at h
     .rename_i hq;simp only[qB.injEq,qE.injEq]at h;obtain⟨rfl,rfl⟩:=h;refine⟨k,⟨k.e,ver,zW k.cells off (ys.take (min n len * sz))⟩,hk,hq.1.symm,rfl,λK hK hx=> ?_⟩;unfold zgn;simp only[hu,hs,hK,hk,zhy hx,hy];simp_all
     .cases h
    .cases h
   all_goals simp_all[zM]
  .cases h
 .cases h
theorem zle{t tx:TypeId}{s x v:PV}{H':za}{id:Nat}(hm:zlm s=true)(hd:zM s=[id])(h:pappend P H t tx s x=some (v,H')):∃ k b,H[id]? =some k/\H'=H.set id b/\∀ K:za,K[id]? =H[id]? ->(∀ i∈zM x,K[i]? =H[i]?)->pappend P K t tx s x=some (v,K.set id b):=by
 unfold pappend at h;split at h
 .rename_i e hu;split at h
  .rename_i sz bb z hs hb hz;split at h
   .rename_i hq0;split at h
    .rename_i news n hsrc;split at h
     .simp[zlm]at hm
     .rename_i id' ver off len sz' g;simp only[zM,List.cons.injEq,and_true]at hd;subst hd;split at h
      .rename_i k hk;split at h
       .rename_i hq;split at h
        .rename_i hn;simp only[qB.injEq,qE.injEq]at h;obtain⟨rfl,rfl⟩:=h;have hset:∀ K:za,K[id']? =some k->K.set id' k=K:=λK hK=>List.ext_getElem? λi=>by
          by_cases e:id'=i
          .subst e;rw[qF (qA.1 hK).1,hK]
          simp_all
         refine⟨k,k,hk,(hset _ hk).symm,λK hK hx=> ?_⟩;unfold pappend;simp only[hu,hs,hb,hz,zig hx,hsrc,hK,hk];rw[if_pos hq0,if_pos hq,if_pos hn,hset K (hK.trans hk)]
        .rename_i hn;simp only[qB.injEq,qE.injEq]at h;obtain⟨rfl,rfl⟩:=h;refine⟨k,⟨e,(k.cells++news).length,k.cells++news⟩,hk,rfl,λK hK hx=> ?_⟩;unfold pappend;simp only[hu,hs,hb,hz,zig hx,hsrc,hK,hk];grind
       .cases h
      .cases h
     .cases h
    .cases h
   .cases h
  .cases h
 .cases h
theorem zld{t tx:TypeId}{xs ys:List PV}{len:Nat}{full g:Bool}{v:PV}{H':za}(h:pappend P H t tx (.slice xs len full) (.slice ys 0 g)=some (v,H')):H'=H/\∀ K,pappend P K t tx (.slice xs len full) (.slice ys 0 g)=some (v,K):=by
 have hs:∀ K:za,∀ e sz,zbx P K e sz tx (.slice ys 0 g)=zbx P H e sz tx (.slice ys 0 g):=λK e sz=>zig λi hi=>by simp[zM]at hi
 have h0:∀ e sz news n,zbx P H e sz tx (.slice ys 0 g)=some (news,n)->n=0:=λe sz news n h=>by unfold zbx at h;grind[zaT,qB.injEq,qE.injEq]
 unfold pappend at h |-;simp only[hs];split at h
 .split at h
  .split at h
   .split at h;all_goals grind
   .cases h
  .cases h
 .cases h
theorem zqG{ids:List Nat}{pm:List (Nat×List Nat)}{rs:List (Nat×Nat)}{ro:List Nat}{o:Oper}{f:Nat->PV}{v:PV}{H':za}(hc:zn o.op f=none)(hk:zua ids pm rs o f=true)(h:zeL P ids rs o f H=some (v,H')):
  Loc P ids rs (zaw pm rs ro o) o f H v H':=by
 have st:∀{K K':za},zeL P ids rs o f K=some (v,K')->StI P ids rs o f K v K':=fun{K K'} hp=>by unfold StI;rw[hc];exact hp
 unfold zua at hk;cases hr:zl8 rs o with
 | some p=>
  have hfp:zaw pm rs ro o=⟨[],[],[p],[p]⟩:=by unfold zaw;rw[hr]
  unfold zeL at h;rw[hr]at h;dsimp only at h;split at h
  .rename_i r hrp;split at h
   .rename_i b mk hb;split at h
    .rename_i k hkr;split at h
     .rename_i hq;simp only[qB.injEq,qE.injEq]at h;obtain⟨rfl,rfl⟩:=h;have hin:r∈atP ids [p]:=qL.2 ⟨p,by simp,hrp⟩;refine Loc.set hkr (by rw[hfp];exact hin) (.inr (by rw[hfp];exact hin)) λK hK=>st ?_;unfold zeL;rw[hr];simp only[hrp,hb,hK.inn r (.inr (by rw[hfp];exact hin)),hkr];simp_all
     .cases h
    .cases h
   .cases h
  .rename_i hrp;simp only[qD,qE.injEq]at h;obtain⟨v',hv',rfl,rfl⟩:=h;refine Loc.read λK hK=>st ?_;simp_all[zeL,qM]
 | none=>
  rw[hr]at hk;have pI:∀ K,zeL P ids rs o f K=pop P o.op f K:=λK=>by unfold zeL;rw[hr]
  rw[pI]at h;have st:∀{K K':za},pop P o.op f K=some (v,K')->StI P ids rs o f K v K':=fun{K K'} hp=>st (by rw[pI];exact hp);dsimp only at hk;split at hk
  .rename_i hkind;obtain⟨rfl,_⟩:=zaE (ziN hkind) h H;exact Loc.read λK hK=>st (zaE (ziN hkind) h K).2
  .rename_i hkind;have hfp:zaw pm rs ro o=⟨[],zaO pm o.op,[],[]⟩:=by unfold zaw;rw[hr,hkind];rfl
   obtain⟨he,hl⟩:=zlk (.inl hkind);obtain rfl:=zc2 he h;refine Loc.read λK hK=>st (zhG (hl hkind) (λi hi=> ?_) h);rcases znw hk i hi with h|h
   .unfold VEq;rw[hK.out i h]
   .exact hK.liv i (by rw[hfp];exact h)
  .rename_i hkind;have hfp:zaw pm rs ro o=⟨zaO pm o.op,[],[],[]⟩:=by unfold zaw;rw[hr,hkind];rfl
   obtain⟨he,_⟩:=zlk (.inr hkind);obtain rfl:=zc2 he h;exact Loc.read λK hK=>st (zk0 he (λi hi=>hK.rd (by rw[hfp]) (znw hk i hi)) h)
  .rename_i hkind;have hfp:zaw pm rs ro o=⟨[],[],zd5 pm o.op,[]⟩:=by unfold zaw;rw[hr,hkind];rfl
   obtain⟨t,x,y,ho⟩:=zmG hkind;rw[ho]at h hk hfp;simp only[pop,qD,qE.injEq]at h;obtain⟨H1,h,rfl,rfl⟩:=h;obtain⟨id,k,b,q1,q2,q3,rfl,q5⟩:=zmd h;have hin:id∈atP ids (zfU pm x):=zjT hk q1;refine Loc.set q2 (by rw[hfp];exact hin) (.inl q3) λK hK=>st ?_;rw[ho];simp only[pop,q5 K (hK.inn id (.inr (by rw[hfp];exact hin))),qM]
  .rename_i hkind;have hfp:zaw pm rs ro o=⟨zaO pm o.op,[],zd5 pm o.op,zd5 pm o.op⟩:=by unfold zaw;rw[hr,hkind];rfl
   obtain⟨args,ts,ho⟩:=zll hkind;have hops:o.op.operands.toList=args.toList:=by rw[ho];simp[Op.operands,Call.operands]
   have hf1:zjX o.op=args.toList[0]? :=by rw[ho];rfl
   split at hk
   .rename_i x hx;simp only[Bool.or_eq_true,qH]at hk;rcases hk with hk|hk;rotate_left
    .unfold zmx at hk;rw[ho]at h hk;dsimp only at hk;split at hk
     .rename_i xs len full ys g hal;have e1:∀ K,pop P (.call { callee:=.builtin .append,args:=args,argTypes:=ts }) f K=zx P K .append ts.toList [.slice xs len full,.slice ys 0 g]:=λK=>by simp only[pop,hal]
      rw[e1]at h
      match htl:ts.toList,h with
      | [t,tx],h=>
       simp only[zx]at h;obtain⟨rfl,hK⟩:=zld h;refine Loc.read λK _=>st ?_;rw[ho,e1,htl];exact hK K
      | [],h=>simp[zx]at h
      | [_],h=>simp[zx]at h
      | _::_::_::_,h=>simp[zx]at h
     .cases hk
    obtain⟨⟨k1,k2⟩,k3⟩:=hk;have hfs:zd5 pm o.op=zfU pm x:=by unfold zd5;rw[hx]
    rw[hf1]at hx;rw[ho]at h;simp only[pop]at h
    match hal:args.toList,htl:ts.toList,hx,h with
    | [x',y],[t,tx],hx,h=>
     simp only[qQ,qB.injEq]at hx;subst hx;simp only[qI,qJ,zx]at h;obtain⟨id,hid⟩:∃ id,zM (ev f x')=[id]:=by cases hv:ev f x'<;>rw[hv]at k2<;>simp[zlm]at k2;exact⟨_,rfl⟩
     have hin:id∈atP ids (zfU pm x'):=zjT k1 hid;obtain⟨k,b,q2,rfl,q5⟩:=zle k2 hid h;refine Loc.set q2 (by rw[hfp];dsimp only;rw[hfs];exact hin) (.inr (by rw[hfp];dsimp only;rw[hfs];exact hin)) λK hK=>st ?_;rw[ho];simp only[pop,hal,htl,qI,qJ,zx];exact q5 K (hK.inn id (.inr (by rw[hfp];dsimp only;rw[hfs];exact hin))) λi hi=>hK.rd (by rw[hfp]) (zmw k3 y (by rw[hops,hal];simp) i hi)
    | [],_,hx,h=>simp at hx
    | [_],_,hx,h=>simp[zx]at h
    | _::_::_::_,_,hx,h=>simp[zx]at h
    | [_,_],[],hx,h=>simp[zx]at h
    | [_,_],[_],hx,h=>simp[zx]at h
    | [_,_],_::_::_::_,hx,h=>simp[zx]at h
   .cases hk
  .rename_i hkind;have hfp:zaw pm rs ro o=⟨zaO pm o.op,[],zd5 pm o.op,[]⟩:=by unfold zaw;rw[hr,hkind];rfl
   obtain⟨args,ts,ho⟩:=zoV hkind;have hops:o.op.operands.toList=args.toList:=by rw[ho];simp[Op.operands,Call.operands]
   have hf1:zjX o.op=args.toList[0]? :=by rw[ho];rfl
   split at hk
   .rename_i x hx;simp only[qH]at hk;obtain⟨k1,k3⟩:=hk;have hfs:zd5 pm o.op=zfU pm x:=by unfold zd5;rw[hx]
    rw[hf1]at hx;rw[ho]at h;simp only[pop]at h
    match hal:args.toList,htl:ts.toList,hx,h with
    | [x',y],[t,tx],hx,h=>
     simp only[qQ,qB.injEq]at hx;subst hx;simp only[qI,qJ,zx]at h;obtain⟨id,hid⟩:∃ id,zM (ev f x')=[id]:=by grind[inO]
     have hin:id∈atP ids (zfU pm x'):=zjT k1 hid;obtain⟨k,b,q2,q3,rfl,q5⟩:=zoO hid h;refine Loc.set q2 (by rw[hfp];dsimp only;rw[hfs];exact hin) (.inl q3) λK hK=>st ?_;rw[ho];simp only[pop,hal,htl,qI,qJ,zx];exact q5 K (hK.inn id (.inr (by rw[hfp];dsimp only;rw[hfs];exact hin))) λi hi=>hK.rd (by rw[hfp]) (zmw k3 y (by rw[hops,hal];simp) i hi)
    | [],_,hx,h=>simp at hx
    | [_],_,hx,h=>simp[zx]at h
    | _::_::_::_,_,hx,h=>simp[zx]at h
    | [_,_],[],hx,h=>simp[zx]at h
    | [_,_],[_],hx,h=>simp[zx]at h
    | [_,_],_::_::_::_,hx,h=>simp[zx]at h
   .cases hk
  .rename_i hkind;have hfp:zaw pm rs ro o=⟨zaO pm o.op,[],zd5 pm o.op,[]⟩:=by unfold zaw;rw[hr,hkind];rfl
   obtain⟨t,m,kk,x,ho⟩:=zrz hkind;have hp2:∀ K,pop P o.op f K=(zdD P K t (ev f m) (ev f kk) (ev f x)).map λH'=>(.tup [],H'):=λK=>by rcases ho with ho|ho<;>rw[ho]<;>rfl
   have hf1:zjX o.op=some m:=by rcases ho with ho|ho<;>rw[ho]<;>rfl
   have hfs:zd5 pm o.op=zfU pm m:=by unfold zd5;rw[hf1]
   rw[hf1]at hk;simp only[qH]at hk;obtain⟨k1,k3⟩:=hk;rw[hp2]at h;simp only[qD,qE.injEq]at h;obtain⟨H1,h,rfl,rfl⟩:=h;obtain⟨id,k,b,q1,q2,q3,rfl,q5⟩:=zoG h;have hin:id∈atP ids (zfU pm m):=zjT k1 q1;refine Loc.set q2 (by rw[hfp];dsimp only;rw[hfs];exact hin) (.inl q3) λK hK=>st ?_;rw[hp2,q5 K (hK.inn id (.inr (by rw[hfp];dsimp only;rw[hfs];exact hin)))];rfl
  .cases hk
def zoo(P:Program)(dr:Bool)(ids:List Nat)(pm:List (Nat×List Nat))(rs:List (Nat×Nat))(ds:List (Option Nat))(o:Oper)(F:Fr)(H:za):Option (Fr×za):=
 match zam ds F o with
 | none=>none
 | some b=>cond b (match !dr||zua ids pm rs o (slot F)with
  | true=>(match zeL P ids rs o (slot F) H with|some (v,H')=>some (put F o.dst v,H')|none=>none)
  | false=>none) (some (put F o.dst (.tup []),H))
def VCj(P:Program)(dr:Bool)(ids:List Nat)(fp:Fp)(rs:List (Nat×Nat))(o:Oper)(F:Fr)(H:za)(K:Fr->za->Prop):Prop:=
 match zn o.op (slot F)with
 | some (g,args)=>∃ v H',(match dr with|true=>Loc P ids rs fp o (slot F) H v H'|false=>CallOk P g args H v H')/\K (put F o.dst v) H'
 | none=>False
def VCi(P:Program)(dr:Bool)(ids:List Nat)(fp:Fp)(rs:List (Nat×Nat))(ds:List (Option Nat))(o:Oper)(F:Fr)(H:za)(K:Fr->za->Prop):Prop:=
 match zam ds F o with
 | none=>False
 | some b=>(b=true->VCj P dr ids fp rs o F H K)/\(b=false->K (put F o.dst (.tup [])) H)
def VOi(P:Program)(dr:Bool)(ids:List Nat)(pm:List (Nat×List Nat))(rs:List (Nat×Nat))(ro:List Nat)(ds:List (Option Nat)):List Oper->Option (Fr×za)->(Fr->za->Prop)->Prop
 | _,none,_=>False
 | [],some (F,H),K=>K F H
 | o::r,some (F,H),K=>match zJ o.op with
  | false=>VOi P dr ids pm rs ro ds r (zoo P dr ids pm rs ds o F H) K
  | true=>VCi P dr ids (zaw pm rs ro o) rs ds o F H λF' H'=>VOi P dr ids pm rs ro ds r (some (F',H')) K
def VRi(P:Program)(dr:Bool)(ids:List Nat)(pm:List (Nat×List Nat))(rs:List (Nat×Nat))(ro:List Nat)(ds:List (Option Nat))(r:List Oper)(K:Fr->za->Prop)(F:Fr)(H:za):Prop:=VOi P dr ids pm rs ro ds r (some (F,H)) K
theorem zuk(dr:Bool)(ids:List Nat)(pm:List (Nat×List Nat))(rs:List (Nat×Nat))(ro:List Nat)(ds:List (Option Nat))(K:Fr->za->Prop)(F:Fr)(H:za):VOi P dr ids pm rs ro ds [] (some (F,H)) K=K F H:=rfl
theorem zcz(dr:Bool)(ids:List Nat)(pm:List (Nat×List Nat))(rs:List (Nat×Nat))(ro:List Nat)(ds:List (Option Nat))(l:List Oper)(K:Fr->za->Prop):VOi P dr ids pm rs ro ds l none K=False:=by cases l<;>rfl
theorem zsF(dr:Bool)(ids:List Nat)(pm:List (Nat×List Nat))(rs:List (Nat×Nat))(ro:List Nat)(ds:List (Option Nat))(o:Oper)(r:List Oper)(K:Fr->za->Prop)(F:Fr)(H:za):
  VOi P dr ids pm rs ro ds (o::r) (some (F,H)) K=match zJ o.op with|false=>VOi P dr ids pm rs ro ds r (zoo P dr ids pm rs ds o F H) K|true=>VCi P dr ids (zaw pm rs ro o) rs ds o F H (VRi P dr ids pm rs ro ds r K):=by
 cases h:zJ o.op with
 | false=>simp only[VOi,h]
 | true=>simp only[VOi,h];rfl
theorem zak{dr:Bool}{ids:List Nat}{pm:List (Nat×List Nat)}{rs:List (Nat×Nat)}{ro:List Nat}{ds:List (Option Nat)}{l:List Oper}{K:Fr->za->Prop}{x:Bool}{A B:Option (Fr×za)}(h1:x=true->VOi P dr ids pm rs ro ds l A K)(h2:x=false->VOi P dr ids pm rs ro ds l B K):VOi P dr ids pm rs ro ds l (cond x A B) K:=by grind
theorem VCj.read{dr:Bool}{ids:List Nat}{fp:Fp}{rs:List (Nat×Nat)}{o:Oper}{K:Fr->za->Prop}{g:FuncId}{args:List PV}{v:PV}(h:∀ L,Agr ids fp H L->CallOk P g args L v L)(hc:zn o.op (slot F)=some (g,args))(hk:K (put F o.dst v) H):VCj P dr ids fp rs o F H K:=by
 unfold VCj;simp only[hc];refine⟨v,H,?_,hk⟩;cases dr with
 | false=>exact h H (.refl _ _ _)
 | true=>exact Loc.read λL hL=>by unfold StI;rw[hc];exact h L hL
theorem VCj.wr1{dr:Bool}{ids:List Nat}{fp:Fp}{rs:List (Nat×Nat)}{o:Oper}{K:Fr->za->Prop}{g:FuncId}{args:List PV}{v:PV}{id:Nat}{k b:Blk}(hkk:H[id]? =some k)(h:∀ L:za,L[id]? =some k->Agr ids fp H L->CallOk P g args L v (L.set id b))(hw:(atP ids fp.w).elem id=true)(hv:b.ver=k.ver\/(atP ids fp.v).elem id=true)
  (hc:zn o.op (slot F)=some (g,args)) (hk:K (put F o.dst v) (H.set id b)):VCj P dr ids fp rs o F H K:=by
 unfold VCj;simp only[hc];refine⟨v,H.set id b,?_,hk⟩;have hw':id∈atP ids fp.w:=by simp_all
 cases dr with
 | false=>exact h H hkk (.refl _ _ _)
 | true=>exact Loc.set hkk hw' (by rcases hv with h|h;exact .inl h;exact .inr (by simpa[qN]using h)) λL hL=>by unfold StI;rw[hc];exact h L ((hL.inn id (.inr hw')).trans hkk) hL
theorem zdy{op:Op}(h:zJ op=false)(f:Nat->PV):zn op f=none:=by
 unfold zn;split
 .simp[zJ]at h
 .rfl
theorem zod{all:List Oper}{ids:List Nat}{pm:List (Nat×List Nat)}{rs:List (Nat×Nat)}{ro:List Nat}{K:Fr->za->Prop}:∀(l:List Oper) (F:Fr) (H:za),VOi P true ids pm rs ro (all.map (·.dst)) l (some (F,H)) K->RunG (ExI P all ids pm rs ro) l (slot F) H (λf H'=>∃ F',f=slot F'/\K F' H')
 | [],F,H,h=>⟨F,rfl,h⟩
 | o::r,F,H,h=>by
  simp only[VOi]at h;have go:∀ v H',ExI P all ids pm rs ro o (slot F) H v H'->VOi P true ids pm rs ro (all.map (·.dst)) r (some (put F o.dst v,H')) K->RunG (ExI P all ids pm rs ro) (o::r) (slot F) H (λf H'=>∃ F',f=slot F'/\K F' H'):=λv H' he hr=>by refine⟨v,H',he,?_⟩;rw[<-zae];exact zod r _ _ hr
  cases hc:zJ o.op with
  | false=>
   simp only[hc]at h;unfold zoo at h;split at h
   .rw[zcz]at h;exact h.elim
   .rename_i b hb;cases b with
    | false=>exact go _ _ (.inl ⟨zw all F o hb,rfl,rfl⟩) h
    | true=>
     simp only[cond_true,Bool.not_true,Bool.false_or]at h;split at h
     .rename_i hk;split at h
      .rename_i v H' hp;exact go v H' (.inr ⟨zw all F o hb,zqG (zdy hc _) hk hp⟩) h
      simp_all[zcz]
     simp_all[zcz]
  | true=>
   simp only[hc]at h;unfold VCi at h;split at h
   .exact h.elim
   .rename_i b hb;cases b with
    | false=>exact go _ _ (.inl ⟨zw all F o hb,rfl,rfl⟩) (h.2 rfl)
    | true=>
     have h:=h.1 rfl;unfold VCj at h;split at h
     .rename_i fn args hp;obtain⟨v,H',h1,h2⟩:=h;exact go v H' (.inr ⟨zw all F o hb,h1⟩) h2
     simp_all
theorem PW.drawi{E:Env}{Q:Exit->Fr->za->Prop}{id:Nat}{ops:Array Oper}(ids:List Nat)(pm:List (Nat×List Nat))(rs:List (Nat×Nat))(ro:List Nat)(hm:P.follows .mixedOrders=true)(hd:zj6 (zg3 (ops.toList.map (·.dst)) pm rs ro) E.N ops.toList=true)(hnd:ids.Nodup)
  (h:∀ K:Fr->za->Prop,(∀ F' H',Q .normal F' H'->K F' H')->VOi P true ids pm rs ro (ops.toList.map (·.dst)) ops.toList (some (F,H)) K):PW P E (.region id ops true) F H Q:=λhs C a w hdf hw hf=>by
 refine wp_region_any hm ?_;have hr:=zod (P:=P) _ _ _ (h (λF' H'=>Q .normal F' H') λ_ _ h=>h);have hall:∀ i,i<ops.toList.length->zh7 (zg3 (ops.toList.map (·.dst)) pm rs ro) (zgq ops.toList) E.N ops.toList i=true:=by simp_all[zj6,qG.1,List.mem_range.2]
 refine zn9 (P:=P) hall (zxd hnd) zxg ops.size (Array.replicate ops.size false) (slot F) H C a w.drew sp ?_ (by rw[zb3];simp) (by rw[zb3,zg8];exact hr) hdf hw.drew hf ?_
 .intro i o ho hl j hj;have hi:i<ops.size:=(Array.getElem?_eq_some_iff.1 ho).1;simp[Array.getD,hi]at hl
 .rintro C' f' H' a' w' p1 p2 p3 p4 p5 ⟨F',rfl,p6⟩;exact⟨C',F',H',p1.toN _,p2,p3,((Below.refl C.B w).drew).trans p4,p5,p6⟩
theorem zvE{all:List Oper}{ids:List Nat}{pm:List (Nat×List Nat)}{rs:List (Nat×Nat)}{ro:List Nat}{K:Fr->za->Prop}:∀(l:List Oper) (F:Fr) (H:za),l.all (zU N)=true->VOi P false ids pm rs ro (all.map (·.dst)) l (some (F,H)) K->∀(C:Ctx) (a:Act) (w:World),a.defers=[]->WRel C H w->FRel C N (slot F) a->
  ∀ Q:Exit->Act->World->Prop,(∀ C' F' H' a' w',CLe C C'->a'.defers=[]->WRel C' H' w'->Below C.B w w'->FRel C' N (slot F') a'->K F' H'->Q .normal a' w')->wpList P all.toArray Q l a w
 | [],F,H,_,h,C,a,w,hd,hw,hf,Q,hQ=>hQ C F H a w (.refl _) hd hw (.refl _ _) hf h
 | o::r,F,H,hall,h,C,a,w,hd,hw,hf,Q,hQ=>by
  simp only[List.all_cons,qH]at hall;simp only[VOi]at h;have go:∀ v H',zam (all.map (·.dst)) F o=some true->StI P ids rs o (slot F) H v H'->VOi P false ids pm rs ro (all.map (·.dst)) r (some (put F o.dst v,H')) K->wpList P all.toArray Q (o::r) a w:=λv H' hb hst hr=>by have hwant:=zS hf (zw all F o hb);unfold wpList;rw[if_pos hwant];left;refine zfL hall.1 hw hf hst _ _ λC' u w' q1 q2 q3 q4=> ?_;rw[<-zae]at q4;refine zvE r _ _ hall.2 hr C' _ w' (by cases ho:o.dst<;>simp[Act.put,hd]) q2 q4 Q ?_;intro C'' F'' H'' a'' w'' p1 p2 p3 p4 p5 p6;exact hQ C'' F'' H'' a'' w'' (q1.trans p1) p2 p3 (q3.trans (by rw[<-q1.B];exact p4)) p5 p6
  have no:zam (all.map (·.dst)) F o=some false->VOi P false ids pm rs ro (all.map (·.dst)) r (some (put F o.dst (.tup []),H)) K->wpList P all.toArray Q (o::r) a w:=λhb hr=>by have hwant:=zS hf (zw all F o hb);unfold wpList;rw[if_neg (by rw[hwant];simp)];have q4:=hf.put o.dst (zaQ hall.1) (VRel.undefV (C:=C));rw[<-zae]at q4;exact zvE r _ _ hall.2 hr C _ w (by cases ho:o.dst<;>simp[Act.put,hd]) hw q4 Q hQ
  cases hc:zJ o.op with
  | false=>
   simp only[hc]at h;unfold zoo at h;split at h
   .rw[zcz]at h;exact h.elim
   .rename_i b hb;cases b with
    | false=>exact no hb h
    | true=>
     simp only[cond_true,Bool.not_false,Bool.true_or]at h;grind[StI,zdy,zcz]
  | true=>
   simp only[hc]at h;unfold VCi at h;split at h
   .exact h.elim
   .rename_i b hb;cases b with
    | false=>exact no hb (h.2 rfl)
    | true=>grind[VCj,StI]
theorem PW.seqi{E:Env}{Q:Exit->Fr->za->Prop}{id:Nat}{ops:Array Oper}(ids:List Nat)(rs:List (Nat×Nat))(hd:ops.toList.all (zU E.N)=true)
  (h:∀ K:Fr->za->Prop,(∀ F' H',Q .normal F' H'->K F' H')->VOi P false ids [] rs [] (ops.toList.map (·.dst)) ops.toList (some (F,H)) K):PW P E (.region id ops false) F H Q:=λhs C a w hdf hw hf=>by
 refine wp_region_list ?_;have:=zvE (P:=P) (all:=ops.toList) ops.toList F H hd (h (λF' H'=>Q .normal F' H') λ_ _ h=>h) C a w hdf hw hf (Post E C w Q) (λC' F' H' a' w' p1 p2 p3 p4 p5 p6=>⟨C',F',H',p1.toN _,p2,p3,p4,p5,p6⟩);simpa using this
end Pm
end Go.Proofs.YtdajpjenhcobkaaGreatDoor
