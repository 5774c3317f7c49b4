/-
  Parts of the proof. No condition.
-/
import Derived.Test.YtleejngibkbjnaaGreatDoorW04
import Derived.WalkSmall
import Derived.Laws.Build
open Array renaming replicate → qD
open List renaming getD → qE
open Option renaming some → qA
open Prod renaming mk → qB
open Go.Proofs.Tryz
set_option linter.all false
set_option maxRecDepth 100000
set_option maxHeartbeats 32000000
namespace Go.Proofs.YtleejngibkbjnaaGreatDoor.Pm
open Go.RowKit
variable {P:Program} {C:Ctx} {H K:za} {w:World} {F:Fr} {a:Act} {N:Nat}
def VEq(H K:za)(id:Nat):Prop:=(K[id]?).map Blk.ver=(H[id]?).map Blk.ver
theorem VEq.le{id:Nat}(h:VEq H K id):VLe H K id:=by unfold VEq at h;intro b hb;rw[hb]at h;exact gO.1 h
def rsv(rs:List (Nat×Nat))(d:Option Nat):Option Nat:=match d with
 | none=>none
 | some d=>match rs with
  | []=>none
  | (t,r)::l=>match Nat.beq t d with|true=>some r|false=>rsv l (some d)
def zsp:List (Nat×List Nat)->Nat->List Nat
 | [],_=>[]
 | (s,ps)::l,t=>match Nat.beq s t with|true=>ps|false=>zsp l t
def zgv(pm:List (Nat×List Nat)):Operand->List Nat
 | .tmp t=>zsp pm t
 | .const _=>[]
 | .func _=>[]
 | .global _=>[]
def zaK(pm:List (Nat×List Nat))(op:Op):List Nat:=(op.operands.toList.map (zgv pm)).flatten
def atP(ids ps:List Nat):List Nat:=ps.filterMap λp=>ids[p]?
structure Fp where
 r:List Nat
 l:List Nat
 w:List Nat
 v:List Nat
def zbA(op:Op):Nat:=match zcd op with
 | true=>0
 | false=>match zX op with
  | true=>7
  | false=>match eff op with
   | false=>(match zbe op with|true=>1|false=>2)
   | true=>match op with
    | .store .. =>3
    | .call { callee:=.builtin .append,.. }=>4
    | .call { callee:=.builtin .copy,.. }=>5
    | .mapUpdate .. =>6
    | .insert .. =>6
    | _=>8
def zkP(op:Op):Option Operand:=match op with
 | .store _ a _=>some a
 | .call { args,.. }=>args.toList[0]?
 | .mapUpdate _ m _ _=>some m
 | .insert _ m _ _=>some m
 | _=>none
def zet(pm:List (Nat×List Nat))(op:Op):List Nat:=match zkP op with|some x=>zgv pm x|none=>[]
def znA(P:Program)(op:Op)(f:Nat->PV):Option (Blk×(Nat->PV)):=match op with
 | .alloc elem=>(zaL P elem).map λz=>(⟨elem,1,z⟩,λr=>.ptr r 1 0)
 | .box elem x=>match (ev f x).cells.all PV.cell with|true=>some (⟨elem,1,(ev f x).cells⟩,λr=>.ptr r 1 0)|false=>none
 | .makeSlice t l c=>match P.underlying t,ev f l,ev f c with
  | some (.slice e),.int _ l,.int _ c=>match szT P e,byT P e,zaL P e with
   | some n,some b,some z=>if 0<=l/\l<=c/\(b:Int) * c<=140737488355328/\c<=140737488355328/\z.length=n/\0<n then some (⟨e,1,zcc l.toNat z⟩,λr=>.msl r 1 0 l.toNat n true)else none
   | _,_,_=>none
  | _,_,_=>none
 | .buildSlice t len parts=>match P.underlying t with
  | some (.slice e)=>match szT P e,zaL P e with
   | some n,some z=>if z.length=n/\0<len * n/\len * n<=65536 then(zdW (λi=>some (i * n,n)) (zcc len z) (parts.toList.map λp=>(p.1,ev f p.2))).map λc=>(⟨e,1,c⟩,λr=>.msl r 1 0 len n true)else none
   | _,_=>none
  | _=>none
 | .call { callee:=.builtin .append,args,argTypes }=>match argTypes.toList,args.toList.map (ev f)with
  | [t,tx],[.slice xs len full,.slice ys m _]=>match P.underlying t,P.underlying tx with
   | some (.slice e),some (.slice _)=>match szT P e,byT P e,zaL P e with
    | some sz,some b,some z=>if 0<sz/\z.length=sz/\full=true/\xs.length=len * sz/\0<m/\ys.length=m * sz/\(len+m) * b<=140737488355328/\len+m<=140737488355328 then some (⟨e,1,xs++ys⟩,λr=>.msl r 1 0 (len+m) sz true)else none
    | _,_,_=>none
   | _,_=>none
  | _,_=>none
 | _=>none
def zxc:Op->Bool
 | .alloc .. | .box .. | .makeSlice .. | .buildSlice .. =>true
 | .call { callee:=.builtin .append,.. }=>true
 | _=>false
def zns(rs:List (Nat×Nat))(o:Oper):Option Nat:=match zxc o.op with|true=>rsv rs o.dst|false=>none
def zat(pm:List (Nat×List Nat))(rs:List (Nat×Nat))(ro:List Nat)(o:Oper):Fp:=match zns rs o with
 | some p=>⟨[],[],[p],[p]⟩
 | none=>match zbA o.op with
  | 0=>⟨[],[],[],[]⟩
  | 1=>⟨[],zaK pm o.op,[],[]⟩
  | 2=>⟨zaK pm o.op,[],[],[]⟩
  | 3=>⟨[],[],zet pm o.op,[]⟩
  | 4=>⟨zaK pm o.op,[],zet pm o.op,zet pm o.op⟩
  | 5=>⟨zaK pm o.op,[],zet pm o.op,[]⟩
  | 6=>⟨zaK pm o.op,[],zet pm o.op,[]⟩
  | 7=>match o.dst with
   | some d=>(match ro.elem d with|true=>⟨zaK pm o.op,zaK pm o.op,[],[]⟩|false=>⟨zaK pm o.op,zaK pm o.op,zaK pm o.op,zaK pm o.op⟩)
   | none=>⟨zaK pm o.op,zaK pm o.op,zaK pm o.op,zaK pm o.op⟩
  | _=>⟨[],[],[],[]⟩
def dis(a b:List Nat):Bool:=a.all λi=> !(b.elem i)
theorem zyU{a b:List Nat}(h:dis a b=true):∀ i∈a,i∉b:=λi hi hb=>by have:=uJ.1 h i hi;simp_all
def zhC(ds:List (Option Nat))(pm:List (Nat×List Nat))(rs:List (Nat×Nat))(ro:List Nat)(x y:Oper):Bool:=clear ds x y&&clear ds y x&&dis (zat pm rs ro x).w (zat pm rs ro y).r&&dis (zat pm rs ro x).w (zat pm rs ro y).w&&dis (zat pm rs ro y).w (zat pm rs ro x).r&&dis (zat pm rs ro x).v (zat pm rs ro y).l&&dis (zat pm rs ro y).v (zat pm rs ro x).l
theorem zlf{ids ps:List Nat}{i:Nat}(h:i∈atP ids ps):∃ p∈ps,ids[p]? =some i:=rF.1 h
theorem zus{ids ps:List Nat}{i:Nat}(h:i∈atP ids ps):i∈ids:=by grind[zlf,List.mem_of_getElem?]
theorem zf7{ids a b:List Nat}(hn:ids.Nodup)(h:dis a b=true){i:Nat}(ha:i∈atP ids a):i∉atP ids b:=λhb=>by grind[zlf,List.getElem?_inj,List.getElem?_eq_some_iff.1,zyU]
structure Agr(ids:List Nat)(fp:Fp)(H K:za):Prop where
 len:K.length=H.length
 out:∀ i,i∉ids->K[i]? =H[i]?
 inn:∀ i,i∈atP ids fp.r\/i∈atP ids fp.w->K[i]? =H[i]?
 liv:∀ i,i∈atP ids fp.l->VEq H K i
theorem Agr.refl(ids:List Nat)(fp:Fp)(H:za):Agr ids fp H H:=⟨rfl,λ_ _=>rfl,λ_ _=>rfl,λ_ _=>rfl⟩
theorem Agr.trans{ids:List Nat}{fp:Fp}{H K L:za}(h:Agr ids fp H K)(k:Agr ids fp K L):Agr ids fp H L:=⟨k.len.trans h.len,λi hi=>(k.out i hi).trans (h.out i hi),λi hi=>(k.inn i hi).trans (h.inn i hi),λi hi=>Eq.trans (k.liv i hi) (h.liv i hi)⟩
structure Upd(ids:List Nat)(fp:Fp)(H H':za):Prop where
 len:H'.length=H.length
 out:∀ i,i∉atP ids fp.w->H'[i]? =H[i]?
 ver:∀ i,i∉atP ids fp.v->VEq H H' i
theorem Upd.refl(ids:List Nat)(fp:Fp)(H:za):Upd ids fp H H:=⟨rfl,λ_ _=>rfl,λ_ _=>rfl⟩
theorem Upd.set{ids:List Nat}{fp:Fp}{id:Nat}{k b:Blk}(hk:H[id]? =some k)(hw:id∈atP ids fp.w)(hv:b.ver=k.ver\/id∈atP ids fp.v):Upd ids fp H (H.set id b):=by have hid:id<H.length:=(gA.1 hk).1;refine⟨by simp,λi hi=> ?_,λi hi=> ?_⟩;all_goals grind[List.getElem?_set_ne,VEq,List.getElem?_set_self]
def zik(P:Program)(op:Op)(f:Nat->PV):Option PV:=match op with
 | .makeSlice t l c=>match P.underlying t,ev f l,ev f c with
  | some (.slice e),.int _ l,.int _ c=>match byT P e,zaL P e with
   | some _,some _=>if l=0/\c=0 then some (.slice [] 0 true)else none
   | _,_=>none
  | _,_,_=>none
 | _=>none
def ze2(P:Program)(ids:List Nat)(rs:List (Nat×Nat))(o:Oper)(f:Nat->PV)(H:za):Option (PV×za):=match zns rs o with
 | some p=>match ids[p]? with
  | some r=>match znA P o.op f with
   | some (b,mk)=>match H[r]? with
    | some k=>if k.e=b.e/\k.ver=0 then some (mk r,H.set r b)else none
    | none=>none
   | none=>none
  | none=>(zik P o.op f).map λv=>(v,H)
 | none=>pop P o.op f H
def StI(P:Program)(ids:List Nat)(rs:List (Nat×Nat))(o:Oper)(f:Nat->PV)(H:za)(v:PV)(H':za):Prop:=match zt o.op f with
 | some (g,args)=>CallOk P g args H v H'
 | none=>ze2 P ids rs o f H=some (v,H')
def Loc(P:Program)(ids:List Nat)(rs:List (Nat×Nat))(fp:Fp)(o:Oper)(f:Nat->PV)(H:za)(v:PV)(H':za):Prop:=Upd ids fp H H'/\∀ K,Agr ids fp H K->∃ K',StI P ids rs o f K v K'/\Upd ids fp K K'/\∀ i,i∈atP ids fp.w->K'[i]? =H'[i]?
def ExI(P:Program)(all:List Oper)(ids:List Nat)(pm:List (Nat×List Nat))(rs:List (Nat×Nat))(ro:List Nat)(o:Oper)(f:Nat->PV)(H:za)(v:PV)(H':za):Prop:=(zbZ all f o=some false/\v= .tup []/\H'=H)\/(zbZ all f o=some true/\Loc P ids rs (zat pm rs ro o) o f H v H')
theorem Loc.now{ids:List Nat}{rs:List (Nat×Nat)}{fp:Fp}{o:Oper}{f:Nat->PV}{v:PV}{H':za}(h:Loc P ids rs fp o f H v H'):StI P ids rs o f H v H':=by
 obtain⟨u,h⟩:=h;obtain⟨K',h1,h2,h3⟩:=h H (.refl _ _ _);have:K'=H':=dG λi=>by
  by_cases hi:i∈atP ids fp.w
  .simp_all
  .rw[h2.out i hi,u.out i hi]
 simp_all
theorem Loc.read{ids:List Nat}{rs:List (Nat×Nat)}{fp:Fp}{o:Oper}{f:Nat->PV}{v:PV}(h:∀ K,Agr ids fp H K->StI P ids rs o f K v K):Loc P ids rs fp o f H v H:=⟨.refl _ _ _,λK hK=>⟨K,h K hK,.refl _ _ _,λi hi=>hK.inn i (.inr hi)⟩⟩
theorem Loc.set{ids:List Nat}{rs:List (Nat×Nat)}{fp:Fp}{o:Oper}{f:Nat->PV}{v:PV}{id:Nat}{k b:Blk}(hk:H[id]? =some k)(hw:id∈atP ids fp.w)(hv:b.ver=k.ver\/id∈atP ids fp.v)
  (h:∀ K,Agr ids fp H K->StI P ids rs o f K v (K.set id b)):Loc P ids rs fp o f H v (H.set id b):=by
 refine⟨.set hk hw hv,λK hK=>⟨K.set id b,h K hK,.set ((hK.inn id (.inr hw)).trans hk) hw hv,λi hi=> ?_⟩⟩;by_cases e:id=i
 .subst e;have hid:id<H.length:=(gA.1 hk).1;rw[vN hid,vN (by rw[hK.len];exact hid)]
 .rw[gR e,gR e,hK.inn i (.inr hi)]
theorem zij{ids:List Nat}{rs:List (Nat×Nat)}{o:Oper}{f g:Nat->PV}(h:∀ x∈o.op.operands.toList,ev f x=ev g x):ze2 P ids rs o f H=ze2 P ids rs o g H:=by
 have e:znA P o.op f=znA P o.op g:=by
  unfold znA;split
  .rfl
  .rename_i el x ho;rw[ho]at h;rw[h x (by simp[Op.operands])]
  .rename_i t l c ho;rw[ho]at h;rw[h l (by simp[Op.operands]),h c (by simp[Op.operands])]
  .rename_i t len parts ho;rw[ho]at h;have:parts.toList.map (λp=>(p.1,ev f p.2))=parts.toList.map (λp=>(p.1,ev g p.2)):=wU λp hp=>by rw[h p.2 (by simp[Op.operands];exact⟨_,vX.1 hp⟩)]
   rw[this]
  .rename_i args ts ho;rw[ho]at h;have:args.toList.map (ev f)=args.toList.map (ev g):=wU λx hx=>h x (by simp[Op.operands,Call.operands];exact vX.1 hx);rw[this]
  .rfl
 have e0:zik P o.op f=zik P o.op g:=by
  unfold zik;split
  .rename_i t l c ho;rw[ho]at h;rw[h l (by simp[Op.operands]),h c (by simp[Op.operands])]
  .rfl
 grind[ze2,zjx]
theorem ExI.congr{all:List Oper}{ids:List Nat}{pm:List (Nat×List Nat)}{rs:List (Nat×Nat)}{ro:List Nat}{o:Oper}{f g:Nat->PV}{v:PV}{H':za}(h:∀ t∈zl2 (all.map (·.dst)) o,f t=g t)(he:ExI P all ids pm rs ro o f H v H'):ExI P all ids pm rs ro o g H v H':=by have e1:zbZ all f o=zbZ all g o:=zfb λt ht=>h t (uF.2 (.inr ht));have e2:∀ x∈o.op.operands.toList,ev f x=ev g x:=λx hx=>ziL λt ht=>h t (uF.2 (.inl (zix (ht▸hx))));grind[ExI,Loc,StI,zc6,zij]
theorem zzJ{all:List Oper}{ids:List Nat}{pm:List (Nat×List Nat)}{rs:List (Nat×Nat)}{ro:List Nat}(hn:ids.Nodup):zjP (ExI P all ids pm rs ro) (zhC (all.map (·.dst)) pm rs ro):=by
 intro x o f H vx Hx v H1 hc hx ho;unfold zhC at hc;simp only[gB]at hc;obtain⟨⟨⟨⟨⟨⟨c1,c2⟩,c3⟩,c4⟩,c5⟩,c6⟩,c7⟩:=hc;have ho':ExI P all ids pm rs ro o f Hx v H1:=ho.congr λt ht=>zcs (zbp c1 t ht);have hx':∀ K K',ExI P all ids pm rs ro x f K vx K'->ExI P all ids pm rs ro x (upd f o.dst v) K vx K':=λK K' h=>h.congr λt ht=>(zcs (zbp c2 t ht)).symm;have hcm:=zhP (f:=f) (u:=vx) (v:=v) (zgL c1);rcases hx with⟨x1,x2,rfl⟩|⟨x1,ux,lx⟩
 .exact⟨H1,ho',hx' _ _ (.inl ⟨x1,x2,rfl⟩),hcm⟩
 rcases ho' with⟨o1,o2,rfl⟩|⟨o1,uo,lo⟩
 .exact⟨H,.inl ⟨o1,o2,rfl⟩,hx' _ _ (.inr ⟨x1,ux,lx⟩),hcm⟩
 have dxr:∀{i},i∈atP ids (zat pm rs ro x).w->i∉atP ids (zat pm rs ro o).r:=λh=>zf7 hn c3 h;have dxw:∀{i},i∈atP ids (zat pm rs ro x).w->i∉atP ids (zat pm rs ro o).w:=λh=>zf7 hn c4 h;have dor:∀{i},i∈atP ids (zat pm rs ro o).w->i∉atP ids (zat pm rs ro x).r:=λh=>zf7 hn c5 h;have dxv:∀{i},i∈atP ids (zat pm rs ro x).v->i∉atP ids (zat pm rs ro o).l:=λh=>zf7 hn c6 h;have dov:∀{i},i∈atP ids (zat pm rs ro o).v->i∉atP ids (zat pm rs ro x).l:=λh=>zf7 hn c7 h;have a1:Agr ids (zat pm rs ro o) Hx H:=⟨ux.len.symm,λi hi=>(ux.out i λh=>hi (zus h)).symm,λi hi=>(ux.out i λh=>by rcases hi with hi|hi;exact dxr h hi;exact dxw h hi).symm,λi hi=>(ux.ver i λh=>dxv h hi).symm⟩;obtain⟨H3,s3,u3,w3⟩:=lo H a1;have a2:Agr ids (zat pm rs ro x) H H3:=⟨u3.len,λi hi=>u3.out i λh=>hi (zus h),λi hi=>u3.out i λh=>by rcases hi with hi|hi;exact dor h hi;exact dxw hi h,λi hi=>u3.ver i λh=>dov h hi⟩;refine⟨H3,.inr ⟨o1,u3,λK hK=> ?_⟩,hx' _ _ (.inr ⟨x1,⟨?_,λi hi=> ?_,λi hi=> ?_⟩,λK hK=> ?_⟩),hcm⟩
 .obtain⟨K',k1,k2,k3⟩:=lo K (a1.trans hK);grind
 .rw[uo.len,ux.len,u3.len]
 .by_cases hw:i∈atP ids (zat pm rs ro o).w
  .simp_all
  .rw[uo.out i hw,ux.out i hi,u3.out i hw]
 .by_cases hw:i∈atP ids (zat pm rs ro o).w
  .unfold VEq;rw[w3 i hw]
  .have:=ux.ver i hi;unfold VEq at this |-;rw[uo.out i hw,u3.out i hw,this]
 .obtain⟨K',k1,k2,k3⟩:=lx K (a2.trans hK);exact⟨K',k1,k2,λi hi=>by rw[k3 i hi,uo.out i (dxw hi)]⟩
theorem zfI{place:Nat->Option (Nat×Nat)}:∀(parts:List (Nat×PV)) (cs ys:List PV),zdW place cs parts=some ys->ys.length=cs.length
 | [],cs,ys,h=>by simp_all[zdW,qA.injEq]
 | (i,v)::rest,cs,ys,h=>by
  simp only[zdW]at h;split at h
  .cases h
  .rename_i off size hp;split at h
   .rename_i hq;rw[zfI rest _ _ h];grind[zM,List.length_append,List.length_take,List.length_drop]
   .cases h
theorem zl9{t tx ty e sz bb len m r:Nat}{full g:Bool}{xs ys z:List PV}{p q:Value}{k:Blk}(hw:WRel C H w)(hsv:VRel C (.slice xs len full) p)(hx:VRel C (.slice ys m g) q)
  (hu:P.underlying t=some (.slice e)) {e':TypeId} (hu':P.underlying tx=some (.slice e')) (hn:szT P e=some sz) (hb:byT P e=some bb) (hz:zaL P e=some z)
  (hq:0<sz/\z.length=sz/\full=true/\xs.length=len * sz/\0<m/\ys.length=m * sz/\(len+m) * bb<=140737488355328/\len+m<=140737488355328) (hk:H[r]? =some k) (he:k.e=e) (hv:k.ver=0):
  ∃ C' u w',CLe C C'/\WRel C' (H.set r ⟨e,1,xs++ys⟩) w'/\Below C.B w w'/\VRel C' (.msl r 1 0 (len+m) sz true) u/\(Builtin.append_ #[t,tx] ty #[p,q]).run P w= .ok u w':=by
 have hid:r<H.length:=(gA.1 hk).1;have g1:r<C.mu.length:=by rw[hw.len];exact hid
 have g2:r<C.vs.length:=by rw[hw.lenv];exact hid
 have g3:r<C.cp.length:=by rw[hw.lenc];exact hid
 obtain⟨q1,q2,rfl,q4,q5,q6,q7,q8⟩:=hq;obtain⟨i,zv,hi,hzv,hzr,hzl,hzc⟩:=zap hz;obtain⟨ie,hie,hs⟩:=zba hn;obtain⟨ib,hib,hby⟩:=zf6 hb;rw[hi]at hie hib;injection hie with hie;injection hib with hib;subst hie hib;have hsrc:zbI P H e sz tx (.slice ys m g)=some (ys,m):=by simp_all[zbI,zcb]
 obtain⟨us,happ,hRn,hln,hnn,hcn⟩:=zf9 hw hx hi hs hzv hz q2 q1 hsrc;have hzsize:∀ m,(Builtin.zeroCells zv.cells m).size=m * sz:=λm=>by rw[size_zeroCells,<-dK,hzl,q2]
 have hshape:∃ ad os,p= .slice ad len len/\os.length=xs.length/\Rel C xs os/\(∀ x∈xs,x.cell=true)/\((len=0/\os=[])\/∃ b o,ad=some ⟨b,o,none⟩/\At w b o os):=by
  cases hsv with
  | @slice _ _ cap b' o' _ us' hl' hM' hc' hR' hcap' hmax' hf'=>rw[hf' rfl];exact⟨_,us',rfl,hl',hR',hc',.inr ⟨b',o',rfl,hw.at_imm hM'⟩⟩
  | sliceN=>exact⟨_,[],rfl,rfl,λj x u hx=>by simp at hx,λx hx=>by simp at hx,.inl ⟨rfl,rfl⟩⟩
 obtain⟨ad,os,rfl,hos,hRx,hcx,hat⟩:=hshape;have hold:(Builtin.firstCells i.size len (.slice ad len len)).run P w.drew= .ok os.toArray w.drew:=by rw[hs];exact zdl (w:=w.drew) om (by rcases hat with h1|⟨b,o,h1,h2⟩;exact .inl h1;exact .inr ⟨b,o,h1,h2⟩)
 have hr:=zm2 (P:=P) (ty:=ty) hu hi hzv hold happ om (by rw[hby];exact q7) q8 (by rw[hs];exact q1);have hge:=grownCap_ge w (len+m) len e;have hle:=grownCap_le_maxLen w (len+m) len e (by simp only[maxLen];omega);generalize grownCap w (len+m) len e=nc at hr hge hle;generalize hcur:(os++us).toArray++Builtin.zeroCells zv.cells (nc - (len+m))=cur at hr;have hsize:cur.size=nc * sz:=by rw[<-hcur,Array.size_append,hzsize];simp only[List.size_toArray,gP,hos,q4,hln,q6,<-vE];simp_all
 have hfit:(xs++ys).length<=cur.size:=by grind
 obtain⟨c1,c2,c30⟩:=hw.drew.move hk 1 om (xs++ys) cur (λx hx=>by rcases uF.1 hx with hx|hx;exact hcx x hx;exact hcn x hx) hfit (λj x u hx hu'=>by
  have hlt:j<(xs++ys).length:=(gA.1 hx).1;refine Rel.append hos hRx hRn j x u hx ?_;rw[<-hcur,<-rJ,nI,gK (by simp at hlt |-;omega)]at hu';exact hu')
 rw[he]at c2 c30;have c3:=((Below.refl C.B w).drew).trans c30;refine⟨_,_,_,c1,c2,c3,?_,hr⟩;refine .msl (by simp[g1]) (by simp[g2]) hge hle (λ_=>⟨rfl,?_⟩);simp[g3,hsize]
theorem znz{op:Op}{f:Nat->PV}{b:Blk}{mk:Nat->PV}{r:Nat}{k:Blk}{o:Oper}(ho:o.op=op)(hw:WRel C H w)(hf:FRel C N f a)(h:znA P op f=some (b,mk))(hk:H[r]? =some k)(he:k.e=b.e)(hv:k.ver=0):
  ∃ C' u w',CLe C C'/\WRel C' (H.set r b) w'/\Below C.B w w'/\VRel C' (mk r) u/\(execOp a.eval o).run P w= .ok (.value u) w':=by
 have hid:r<H.length:=(gA.1 hk).1;have g1:r<C.mu.length:=by rw[hw.len];exact hid
 have g2:r<C.vs.length:=by rw[hw.lenv];exact hid
 have g3:r<C.cp.length:=by rw[hw.lenc];exact hid
 unfold znA at h;split at h
 .rename_i elem;simp only[gO,qB.injEq]at h;obtain⟨z,hz,rfl,rfl⟩:=h;obtain⟨i,zv,hi,hzv,hzr,hzl,hzc⟩:=zap hz;obtain⟨c1,c2,c3⟩:=hw.move hk 1 om z zv.cells hzc (by rw[<-hzl];simp) (λj x u hx hu=>hzr C j x u hx (by simpa using hu));rw[he]at c2 c3;refine⟨_,.pointer (some ⟨w.heap.size,0,none⟩),_,c1,c2,c3,.ptr (by simp[g1]) (by simp[g2]),?_⟩;simp[execOp,ho,Instr.alloc,newVar,newRow,zeroValue,typeInfo,hi,hzv]
 .rename_i elem x;split at h
  .rename_i hall;simp only[qA.injEq,qB.injEq]at h;obtain⟨rfl,rfl⟩:=h;obtain⟨hr,hl⟩:=zdn hall (zx hf x);obtain⟨c1,c2,c3⟩:=hw.move hk 1 om (ev f x).cells (a.eval x).cells (λx hx=>uJ.1 hall x hx) (by rw[<-hl];simp) (λj x u hx hu=>hr j x u hx (by simpa using hu));rw[he]at c2 c3;refine⟨_,.pointer (some ⟨w.heap.size,0,none⟩),_,c1,c2,c3,.ptr (by simp[g1]) (by simp[g2]),?_⟩;simp[execOp,ho,Instr.box,newVar,newRow]
  .cases h
 .rename_i t lo co;split at h
  .rename_i e kl l kc c hu hlv hcv;split at h
   .rename_i n bb z hn hb hz;obtain⟨i,zv,hi,hzv,hzr,hzl,hzc⟩:=zap hz;obtain⟨ie,hie,hs⟩:=zba hn;obtain⟨ib,hib,hby⟩:=zf6 hb;rw[hi]at hie hib;injection hie with hie;injection hib with hib;subst hie hib;split at h
    .rename_i hq;simp only[qA.injEq,qB.injEq]at h;obtain⟨rfl,rfl⟩:=h;have hl:=zx hf lo;have hc:=zx hf co;rw[hlv]at hl;rw[hcv]at hc;have el:=zL hl;have ec:=zL hc;have hr:=run_make (P:=P) w t e i zv hu hi hzv kl kc l c hq.1 hq.2.1 (by rw[hby];have:=hq.2.2.1;omega) (by have:=hq.2.2.2.1;omega);have hcn:l.toNat * z.length<=c.toNat * i.size:=by rw[hs,hq.2.2.2.2.1];exact gT n om
     have hmade:=zen (C:=C) (n:=l.toNat) (m:=c.toNat * i.size) hzl (hzr C) (by rw[hq.2.2.2.2.1];exact hq.2.2.2.2.2) hcn;obtain⟨c1,c2,c3⟩:=hw.move hk 1 om (zcc l.toNat z) (madeCells zv.cells (c.toNat * i.size)) (zde hzc) (by rw[zaT,size_madeCells];exact hcn) (λj x u hx hu=>hmade j x u hx (by rw[rJ];exact hu));rw[he]at c2 c3;refine⟨_,.slice (some ⟨w.heap.size,0,none⟩) l.toNat c.toNat,_,c1,c2,c3,?_,by simp only[execOp,ho,el,ec,Sem.run_bind,hr,Result.andThen_ok,Sem.run_pure]⟩;refine .msl (by simp[g1]) (by simp[g2]) om (by have:=hq.2.2.2.1;simp only[maxLen];omega) (λ_=>⟨rfl,?_⟩);simp[g3,size_madeCells,hs]
    .cases h
   .cases h
  .cases h
 .rename_i t len parts;split at h
  .rename_i e hu;split at h
   .rename_i n z hn hz;obtain⟨i,zv,hi,hzv,hzr,hzl,hzc⟩:=zap hz;obtain⟨ie,hie,hs⟩:=zba hn;rw[hi]at hie;injection hie with hie;subst hie;split at h
    .rename_i hq;simp only[gO,qB.injEq]at h;obtain⟨ys,hys,rfl,rfl⟩:=h;obtain⟨hl,hp⟩:=zgA hf parts;have hpos:0<z.length:=by grind
     have hmade:=zen (C:=C) (n:=len) (m:=len * i.size) hzl (hzr C) hpos (by rw[hs,hq.1];exact gV _);obtain⟨cs',q1,q2,q3,q4⟩:=zb5 (C:=C) (λi=>some (i * n,n)) _ _ (zcc len z) ys ((Array.range (len * i.size)).map (zv.cells[· %zv.cells.size]!)) hl hp hmade
      (by rw[zaT,hq.1,hs];simp) (zde hzc) hys
     have hr:=run_buildSlice (P:=P) w t e len _ cs' i zv hu hi hzv (by rw[hs];have:=hq.2.2;omega) (by rw[hs];have:=hq.2.1;omega) (by rw[hs]at q1 |-;exact q1);obtain⟨c1,c2,c3⟩:=hw.move hk 1 om ys cs' q4 (by rw[<-q3];exact gV _) (λj x u hx hu=>q2 j x u hx (by simpa using hu));rw[he]at c2 c3;refine⟨_,.slice (some ⟨w.heap.size,0,none⟩) len len,_,c1,c2,c3,?_,by simp only[execOp,ho,Sem.run_bind,hr,Result.andThen_ok,Sem.run_pure]⟩;have hln:len<=len * n:=sA len om;refine .msl (by simp[g1]) (by simp[g2]) (gV _) (by simp only[maxLen];omega) (λ_=>⟨rfl,?_⟩);have:ys.length=len * n:=by grind[zfI,zaT]
     simp[g3,<-q3,this]
    .cases h
   .cases h
  .cases h
 .rename_i args ts;split at h
  .rename_i t tx xs len full ys m g hts hal;split at h
   .rename_i e e' hu hu';split at h
    .rename_i sz bb z hn hb hz;split at h
     .rename_i hq;simp only[qA.injEq,qB.injEq]at h;obtain⟨rfl,rfl⟩:=h;obtain⟨x,y,hxy,hx1,hy1⟩:∃ x y,args.toList=[x,y]/\ev f x= .slice xs len full/\ev f y= .slice ys m g:=by
       match hat:args.toList,hal with
       | [x,y],hal=>simp only[dV,rU,List.cons.injEq,mG]at hal;exact⟨x,y,rfl,hal.1,hal.2⟩
       | [],hal=>simp at hal
       | [_],hal=>simp at hal
       | _::_::_::_,hal=>simp at hal
      have r1:=zx hf x;have r2:=zx hf y;rw[hx1]at r1;rw[hy1]at r2;obtain⟨C',u,w',s1,s2,s3,s4,s5⟩:=zl9 (ty:=o.type) hw r1 r2 hu hu' hn hb hz hq hk he hv;refine⟨C',u,w',s1,s2,s3,s4,?_⟩;have ea:args= #[x,y]:=Array.toList_inj.1 (by rw[hxy]);have et:ts= #[t,tx]:=Array.toList_inj.1 (by rw[hts]);subst ea et;have hb:∀ cs,builtin .append #[t,tx] o.type cs #[a.eval x,a.eval y]=(do pure (.value (<-Builtin.append_ #[t,tx] o.type #[a.eval x,a.eval y]))):=λ_=>rfl;simp only[execOp,ho,resolve,invoke,Sem.run_bind,Sem.run_pure,Result.andThen_ok,List.map_toArray,dV,rU,hb,s5]
     .cases h
    .cases h
   .cases h
  .cases h
 .cases h
theorem zma{op:Op}{f:Nat->PV}{v:PV}{o:Oper}(ho:o.op=op)(hw:WRel C H w)(hf:FRel C N f a)(h:zik P op f=some v):
  ∃ u w',WRel C H w'/\Below C.B w w'/\VRel C v u/\(execOp a.eval o).run P w= .ok (.value u) w':=by
 unfold zik at h;split at h
 .rename_i t lo co;split at h
  .rename_i e kl l kc c hu hlv hcv;split at h
   .rename_i bb z hb hz;obtain⟨i,zv,hi,hzv,hzr,hzl,hzc⟩:=zap hz;split at h
    .rename_i hq;obtain⟨rfl,rfl⟩:=hq;simp only[qA.injEq]at h;subst h;have hl:=zx hf lo;have hc:=zx hf co;rw[hlv]at hl;rw[hcv]at hc;have el:=zL hl;have ec:=zL hc;have hr:=run_make (P:=P) w t e i zv hu hi hzv kl kc 0 0 om om om om;refine⟨.slice (some ⟨w.heap.size,0,none⟩) 0 0,_,hw.grown ((Below.refl _ _).alloc (gV _) _),(Below.refl _ _).alloc hw.base _,.sliceN _ _,by simp only[execOp,ho,el,ec,Sem.run_bind,hr,Result.andThen_ok,Sem.run_pure];rfl⟩
    .cases h
   .cases h
  .cases h
 .cases h
theorem zjn{o:Oper}{ids:List Nat}{rs:List (Nat×Nat)}{f:Nat->PV}{v:PV}{H':za}(hd:zT N o=true)(hw:WRel C H w)(hf:FRel C N f a)(h:StI P ids rs o f H v H')(next:Act->World->Prop)(Q:Exit->Act->World->Prop)
  (hn:∀ C' u w',CLe C C'->WRel C' H' w'->Below C.B w w'->FRel C' N (upd f o.dst v) (a.put o.dst u)->next (a.put o.dst u) w'):o.wp P a w next Q:=by
 unfold StI at h;split at h
 .rename_i g args hc;exact zfk hd hw hf (by unfold Exec;rw[hc];exact h) _ _ hn
 .rename_i hc;unfold ze2 at h;split at h
  .rename_i p hp;split at h
   .rename_i r hr;split at h
    .rename_i b mk hb;split at h
     .rename_i k hk;split at h
      .rename_i hq;simp only[qA.injEq,qB.injEq]at h;obtain⟨rfl,rfl⟩:=h;obtain⟨C',u,w',q1,q2,q3,q4,q5⟩:=znz (o:=o) rfl hw hf hb hk hq.1 hq.2;unfold Oper.wp;rw[q5,Oper.upon_value];exact hn C' u w' q1 q2 q3 ((hf.mono q1).put _ (zaX hd) q4)
      .cases h
     .cases h
    .cases h
   .simp only[gO,qB.injEq]at h;obtain⟨v',hv',rfl,rfl⟩:=h;obtain⟨u,w',q2,q3,q4,q5⟩:=zma (o:=o) rfl hw hf hv';unfold Oper.wp;rw[q5,Oper.upon_value];exact hn C u w' (.refl C) q2 q3 (hf.put _ (zaX hd) q4)
  .exact zfk hd hw hf (by unfold Exec;rw[hc];exact h) _ _ hn
theorem zzM{ops:Array Oper}{ids:List Nat}{pm:List (Nat×List Nat)}{rs:List (Nat×Nat)}{ro:List Nat}:zjQ P N ops (ExI P ops.toList ids pm rs ro):=by
 intro o f H v H' C a w hd hw hf he;rcases he with⟨h1,h2,h3⟩|⟨h1,h2⟩
 .have hwant:=zaw hf h1;simp_all
 .have hwant:=zaw hf h1;rw[rP]at hwant;exact .inr ⟨hwant,λnext Q hn=>zjn hd hw hf h2.now _ _ hn⟩
theorem Vs.place{E:Env}(e:Nat):Vs E F H F (H++[⟨e,0,[]⟩]):=λ_ C a w hw hf=>by obtain⟨g1,g2⟩:=hw.ghost e 0;exact⟨_,g1.toN _,g2,hf.mono g1⟩
theorem zv7{i j:Nat}{l:List Nat}(h:i≠j):(j::l).elem i=l.elem i:=by simp_all
theorem ztX(i:Nat)(l:List Nat):(i::l).elem i=true:=by simp
theorem zqL(i:Nat):([]:List Nat).elem i=false:=rfl
end Go.Proofs.YtleejngibkbjnaaGreatDoor.Pm
namespace Go.Proofs.YtleejngibkbjnaaGreatDoor.Pm
open Go.RowKit
variable {P:Program} {C:Ctx} {H K:za} {w:World} {F:Fr} {a:Act} {N:Nat}
def okO(ids:List Nat)(pm:List (Nat×List Nat))(f:Nat->PV)(x:Operand):Bool:=(zaa (ev f x)).all λi=> !(ids.elem i)||(atP ids (zgv pm x)).elem i
def inO(ids:List Nat)(pm:List (Nat×List Nat))(f:Nat->PV)(x:Operand):Bool:=match zaa (ev f x)with
 | [i]=>(atP ids (zgv pm x)).elem i
 | _=>false
def zmD:PV->Bool
 | .msl .. =>true
 | _=>false
def znO(f:Nat->PV)(op:Op):Bool:=match op with
 | .call { args,.. }=>(match args.toList.map (ev f)with|[.slice _ _ _,.slice _ 0 _]=>true|_=>false)
 | _=>false
def zug(ids:List Nat)(pm:List (Nat×List Nat))(rs:List (Nat×Nat))(o:Oper)(f:Nat->PV):Bool:=match zns rs o with
 | some _=>true
 | none=>match zbA o.op with
  | 0=>true
  | 1=>o.op.operands.toList.all (okO ids pm f)
  | 2=>o.op.operands.toList.all (okO ids pm f)
  | 3=>(match zkP o.op with|some x=>inO ids pm f x|none=>false)
  | 4=>(match zkP o.op with|some x=>(inO ids pm f x&&zmD (ev f x)&&o.op.operands.toList.all (okO ids pm f))||znO f o.op|none=>false)
  | 5=>(match zkP o.op with|some x=>inO ids pm f x&&o.op.operands.toList.all (okO ids pm f)|none=>false)
  | 6=>(match zkP o.op with|some x=>inO ids pm f x&&o.op.operands.toList.all (okO ids pm f)|none=>false)
  | _=>false
theorem znN{ids:List Nat}{pm:List (Nat×List Nat)}{f:Nat->PV}{op:Op}(h:op.operands.toList.all (okO ids pm f)=true):∀ x∈op.operands.toList,∀ i∈zaa (ev f x),i∉ids\/i∈atP ids (zaK pm op):=λx hx i hi=>by
 have:=uJ.1 (uJ.1 h x hx) i hi;simp only[wV,vR,sF,gY,rZ]at this;rcases this with h|h
 .exact .inl h
 .obtain⟨p,hp,e⟩:=zlf h;exact .inr (rF.2 ⟨p,sC.2 ⟨_,vW.2 ⟨x,hx,rfl⟩,hp⟩,e⟩)
theorem zo4{ids:List Nat}{pm:List (Nat×List Nat)}{f:Nat->PV}{op:Op}(h:op.operands.toList.all (okO ids pm f)=true):∀ i∈zsM op f,i∉ids\/i∈atP ids (zaK pm op):=λi hi=>by obtain⟨l,hl,hi⟩:=sC.1 hi;grind[List.mem_map.1,znN]
theorem Agr.rd{ids:List Nat}{fp:Fp}{pm:List (Nat×List Nat)}{op:Op}(hA:Agr ids fp H K)(hr:fp.r=zaK pm op){i:Nat}(h:i∉ids\/i∈atP ids (zaK pm op)):K[i]? =H[i]? :=by
 rcases h with h|h
 .exact hA.out i h
 .exact hA.inn i (.inl (by rw[hr];exact h))
theorem zkL{ids:List Nat}{pm:List (Nat×List Nat)}{f:Nat->PV}{x:Operand}{i:Nat}(h:inO ids pm f x=true)(hi:zaa (ev f x)=[i]):i∈atP ids (zgv pm x):=by simp_all[inO,sF]
theorem zjz{op:Op}(h:zbA op=0):zcd op=true:=by unfold zbA at h;grind
theorem zmB{op:Op}(h:zbA op=1\/zbA op=2):eff op=false/\(zbA op=1->zbe op=true):=by unfold zbA at h |-;grind
theorem zfT{op:Op}{n:Nat}(h:zbA op=n+3)(hn:n<=3):eff op=true/\zcd op=false/\zX op=false:=by unfold zbA at h;grind
theorem znW{op:Op}(h:zbA op=3):∃ t x y,op= .store t x y:=by obtain⟨h1,h2,h3⟩:=zfT (n:=0) h om;unfold zbA at h;grind
theorem zmC{op:Op}(h:zbA op=4):∃ args ts,op= .call { callee:=.builtin .append,args:=args,argTypes:=ts }:=by obtain⟨h1,h2,h3⟩:=zfT (n:=1) h om;unfold zbA at h;grind
theorem zqw{op:Op}(h:zbA op=5):∃ args ts,op= .call { callee:=.builtin .copy,args:=args,argTypes:=ts }:=by obtain⟨h1,h2,h3⟩:=zfT (n:=2) h om;unfold zbA at h;grind
theorem ztg{op:Op}(h:zbA op=6):∃ t m k x,op= .mapUpdate t m k x\/op= .insert t m k x:=by obtain⟨h1,h2,h3⟩:=zfT (n:=3) h om;unfold zbA at h;grind
theorem zm3{e sz tx:Nat}{x:PV}{r:List PV×Nat}(hx:∀ id∈zaa x,HLe H K id)(h:zbI P H e sz tx x=some r):zbI P K e sz tx x=some r:=by unfold zbI at h |-;split at h<;>first|exact zib hx h|exact h
theorem znw{t:TypeId}{x v:PV}{H':za}(h:zef P H t x v=some H'):∃ id k b,zaa x=[id]/\H[id]? =some k/\b.ver=k.ver/\H'=H.set id b/\∀ K:za,K[id]? =H[id]? ->zef P K t x v=some (K.set id b):=by
 unfold zef at h;split at h
 .rename_i id ver off;split at h
  .rename_i k hk;split at h
   .rename_i hv;simp only[gO]at h;obtain⟨c,hc,rfl⟩:=h;refine⟨id,k,⟨k.e,k.ver,c⟩,rfl,hk,rfl,rfl,λK hK=> ?_⟩;unfold zef;simp only[hK,hk,hv,wN,hc,vM]
   .cases h
  .cases h
 .cases h
theorem zqm{t:TypeId}{m k x:PV}{H':za}(h:zdV P H t m k x=some H'):∃ id b' b,zaa m=[id]/\H[id]? =some b'/\b.ver=b'.ver/\H'=H.set id b/\∀ K:za,K[id]? =H[id]? ->zdV P K t m k x=some (K.set id b):=by
 unfold zdV at h;split at h
 .rename_i e d id b hm;have hq:zaa m=[id]/\H[id]? =some b:=by
   unfold zbP at hm;split at hm
   .rename_i kt e' id' ver hu;split at hm
    .rename_i d' b' hs hb;split at hm
     .simp only[qA.injEq,qB.injEq]at hm;obtain⟨_,_,rfl,rfl⟩:=hm;exact⟨rfl,hb⟩
     .cases hm
    .cases hm
   .cases hm
  have key:∀ K:za,K[id]? =H[id]? ->zbP P K t m=some (e,d,id,b):=λK hK=>by exact zmc (λi hi b hb=>by rw[hq.1]at hi;simp at hi;rw[hi,hK,<-hi];exact hb) hm
  split at h
  .rename_i i v hf;simp only[qA.injEq]at h;subst h;exact⟨id,b,⟨b.e,b.ver,b.cells.set i (.tup [k,x])⟩,hq.1,hq.2,rfl,rfl,λK hK=>by unfold zdV;rw[key K hK];simp only[hf]⟩
  .rename_i hf;simp only[qA.injEq]at h;subst h;exact⟨id,b,⟨b.e,b.ver,b.cells++[.tup [k,x]]⟩,hq.1,hq.2,rfl,rfl,λK hK=>by unfold zdV;rw[key K hK];simp only[hf]⟩
  .cases h
 .cases h
theorem zqr{t:TypeId}{d x v:PV}{H':za}{id:Nat}(hd:zaa d=[id])(h:zgY P H t d x=some (v,H')):∃ k b,H[id]? =some k/\b.ver=k.ver/\H'=H.set id b/\∀ K:za,K[id]? =H[id]? ->(∀ i∈zaa x,HLe H K i)->zgY P K t d x=some (v,K.set id b):=by
 unfold zgY at h;split at h
 .rename_i e hu;split at h
  .rename_i sz hs;split at h
   .rename_i id' ver off len z g;simp only[zaa,List.cons.injEq,mG]at hd;subst hd;split at h
    .rename_i k ys n hk hy;split at h
     .rename_i hq;simp only[qA.injEq,qB.injEq]at h;obtain⟨rfl,rfl⟩:=h;refine⟨k,⟨k.e,ver,zM k.cells off (ys.take (min n len * sz))⟩,hk,hq.1.symm,rfl,λK hK hx=> ?_⟩;unfold zgY;simp only[hu,hs,hK,hk,zib hx hy];simp_all
     .cases h
    .cases h
   all_goals simp_all[zaa]
  .cases h
 .cases h
theorem zmp{t tx:TypeId}{s x v:PV}{H':za}{id:Nat}(hm:zmD s=true)(hd:zaa s=[id])(h:pappend P H t tx s x=some (v,H')):∃ k b,H[id]? =some k/\H'=H.set id b/\∀ K:za,K[id]? =H[id]? ->(∀ i∈zaa x,HLe H K i)->pappend P K t tx s x=some (v,K.set id b):=by
 unfold pappend at h;split at h
 .rename_i e hu;split at h
  .rename_i sz bb z hs hb hz;split at h
   .rename_i hq0;split at h
    .rename_i news n hsrc;split at h
     .simp[zmD]at hm
     .rename_i id' ver off len sz' g;simp only[zaa,List.cons.injEq,mG]at hd;subst hd;split at h
      .rename_i k hk;split at h
       .rename_i hq;split at h
        .rename_i hn;simp only[qA.injEq,qB.injEq]at h;obtain⟨rfl,rfl⟩:=h;have hset:∀ K:za,K[id']? =some k->K.set id' k=K:=λK hK=>dG λi=>by
          by_cases e:id'=i
          .subst e;rw[vN (gA.1 hK).1,hK]
          simp_all
         refine⟨k,k,hk,(hset _ hk).symm,λK hK hx=> ?_⟩;unfold pappend;simp only[hu,hs,hb,hz,zm3 hx hsrc,hK,hk];rw[gD hq0,gD hq,gD hn,hset K (hK.trans hk)]
        .rename_i hn;simp only[qA.injEq,qB.injEq]at h;obtain⟨rfl,rfl⟩:=h;refine⟨k,⟨e,(k.cells++news).length,k.cells++news⟩,hk,rfl,λK hK hx=> ?_⟩;unfold pappend;simp only[hu,hs,hb,hz,zm3 hx hsrc,hK,hk];grind
       .cases h
      .cases h
     .cases h
    .cases h
   .cases h
  .cases h
 .cases h
theorem zmo{t tx:TypeId}{xs ys:List PV}{len:Nat}{full g:Bool}{v:PV}{H':za}(h:pappend P H t tx (.slice xs len full) (.slice ys 0 g)=some (v,H')):H'=H/\∀ K,pappend P K t tx (.slice xs len full) (.slice ys 0 g)=some (v,K):=by
 have hs:∀ K:za,∀ e sz,zbI P K e sz tx (.slice ys 0 g)=zbI P H e sz tx (.slice ys 0 g):=λK e sz=>by unfold zbI;split<;>rfl
 have h0:∀ e sz news n,zbI P H e sz tx (.slice ys 0 g)=some (news,n)->n=0:=λe sz news n h=>by unfold zbI at h;grind[zcb,qA.injEq,qB.injEq]
 unfold pappend at h |-;simp only[hs];split at h
 .split at h
  .split at h
   .split at h;all_goals grind
   .cases h
  .cases h
 .cases h
theorem zsr{ids:List Nat}{pm:List (Nat×List Nat)}{rs:List (Nat×Nat)}{ro:List Nat}{o:Oper}{f:Nat->PV}{v:PV}{H':za}(hc:zt o.op f=none)(hk:zug ids pm rs o f=true)(h:ze2 P ids rs o f H=some (v,H')):
  Loc P ids rs (zat pm rs ro o) o f H v H':=by
 have st:∀{K K':za},ze2 P ids rs o f K=some (v,K')->StI P ids rs o f K v K':=fun{K K'} hp=>by unfold StI;rw[hc];exact hp
 unfold zug at hk;cases hr:zns rs o with
 | some p=>
  have hfp:zat pm rs ro o=⟨[],[],[p],[p]⟩:=by unfold zat;rw[hr]
  unfold ze2 at h;rw[hr]at h;dsimp only at h;split at h
  .rename_i r hrp;split at h
   .rename_i b mk hb;split at h
    .rename_i k hkr;split at h
     .rename_i hq;simp only[qA.injEq,qB.injEq]at h;obtain⟨rfl,rfl⟩:=h;have hin:r∈atP ids [p]:=rF.2 ⟨p,by simp,hrp⟩;refine Loc.set hkr (by rw[hfp];exact hin) (.inr (by rw[hfp];exact hin)) λK hK=>st ?_;unfold ze2;rw[hr];simp only[hrp,hb,hK.inn r (.inr (by rw[hfp];exact hin)),hkr];simp_all
     .cases h
    .cases h
   .cases h
  .rename_i hrp;simp only[gO,qB.injEq]at h;obtain⟨v',hv',rfl,rfl⟩:=h;refine Loc.read λK hK=>st ?_;simp_all[ze2,vM]
 | none=>
  rw[hr]at hk;have pI:∀ K,ze2 P ids rs o f K=pop P o.op f K:=λK=>by unfold ze2;rw[hr]
  rw[pI]at h;have st:∀{K K':za},pop P o.op f K=some (v,K')->StI P ids rs o f K v K':=fun{K K'} hp=>st (by rw[pI];exact hp);dsimp only at hk;split at hk
  .rename_i hkind;obtain⟨rfl,_⟩:=zfE (zjz hkind) h H;exact Loc.read λK hK=>st (zfE (zjz hkind) h K).2
  .rename_i hkind;have hfp:zat pm rs ro o=⟨[],zaK pm o.op,[],[]⟩:=by unfold zat;rw[hr,hkind];rfl
   obtain⟨he,hl⟩:=zmB (.inl hkind);obtain rfl:=zdh he h;refine Loc.read λK hK=>st (zl8 (hl hkind) (λi hi=> ?_) h);rcases zo4 hk i hi with h|h
   .exact λb hb=>⟨b,by rw[hK.out i h,hb],rfl⟩
   .exact(hK.liv i (by rw[hfp];exact h)).le
  .rename_i hkind;have hfp:zat pm rs ro o=⟨zaK pm o.op,[],[],[]⟩:=by unfold zat;rw[hr,hkind];rfl
   obtain⟨he,_⟩:=zmB (.inr hkind);obtain rfl:=zdh he h;exact Loc.read λK hK=>st (zl7 he (λi hi b hb=>by rw[hK.rd (by rw[hfp]) (zo4 hk i hi)];exact hb) h)
  .rename_i hkind;have hfp:zat pm rs ro o=⟨[],[],zet pm o.op,[]⟩:=by unfold zat;rw[hr,hkind];rfl
   obtain⟨t,x,y,ho⟩:=znW hkind;rw[ho]at h hk hfp;simp only[pop,gO,qB.injEq]at h;obtain⟨H1,h,rfl,rfl⟩:=h;obtain⟨id,k,b,q1,q2,q3,rfl,q5⟩:=znw h;have hin:id∈atP ids (zgv pm x):=zkL hk q1;refine Loc.set q2 (by rw[hfp];exact hin) (.inl q3) λK hK=>st ?_;rw[ho];simp only[pop,q5 K (hK.inn id (.inr (by rw[hfp];exact hin))),vM]
  .rename_i hkind;have hfp:zat pm rs ro o=⟨zaK pm o.op,[],zet pm o.op,zet pm o.op⟩:=by unfold zat;rw[hr,hkind];rfl
   obtain⟨args,ts,ho⟩:=zmC hkind;have hops:o.op.operands.toList=args.toList:=by rw[ho];simp[Op.operands,Call.operands]
   have hf1:zkP o.op=args.toList[0]? :=by rw[ho];rfl
   split at hk
   .rename_i x hx;simp only[wV,gB]at hk;rcases hk with hk|hk;rotate_left
    .unfold znO at hk;rw[ho]at h hk;dsimp only at hk;split at hk
     .rename_i xs len full ys g hal;have e1:∀ K,pop P (.call { callee:=.builtin .append,args:=args,argTypes:=ts }) f K=zH P K .append ts.toList [.slice xs len full,.slice ys 0 g]:=λK=>by simp only[pop,hal]
      rw[e1]at h
      match htl:ts.toList,h with
      | [t,tx],h=>
       simp only[zH]at h;obtain⟨rfl,hK⟩:=zmo h;refine Loc.read λK _=>st ?_;rw[ho,e1,htl];exact hK K
      | [],h=>simp[zH]at h
      | [_],h=>simp[zH]at h
      | _::_::_::_,h=>simp[zH]at h
     .cases hk
    obtain⟨⟨k1,k2⟩,k3⟩:=hk;have hfs:zet pm o.op=zgv pm x:=by unfold zet;rw[hx]
    rw[hf1]at hx;rw[ho]at h;simp only[pop]at h
    match hal:args.toList,htl:ts.toList,hx,h with
    | [x',y],[t,tx],hx,h=>
     simp only[rG,qA.injEq]at hx;subst hx;simp only[dV,rU,zH]at h;obtain⟨id,hid⟩:∃ id,zaa (ev f x')=[id]:=by cases hv:ev f x'<;>rw[hv]at k2<;>simp[zmD]at k2;exact⟨_,rfl⟩
     have hin:id∈atP ids (zgv pm x'):=zkL k1 hid;obtain⟨k,b,q2,rfl,q5⟩:=zmp k2 hid h;refine Loc.set q2 (by rw[hfp];dsimp only;rw[hfs];exact hin) (.inr (by rw[hfp];dsimp only;rw[hfs];exact hin)) λK hK=>st ?_;rw[ho];simp only[pop,hal,htl,dV,rU,zH];exact q5 K (hK.inn id (.inr (by rw[hfp];dsimp only;rw[hfs];exact hin))) λi hi b hb=>by rw[hK.rd (by rw[hfp]) (znN k3 y (by rw[hops,hal];simp) i hi)];exact hb
    | [],_,hx,h=>simp at hx
    | [_],_,hx,h=>simp[zH]at h
    | _::_::_::_,_,hx,h=>simp[zH]at h
    | [_,_],[],hx,h=>simp[zH]at h
    | [_,_],[_],hx,h=>simp[zH]at h
    | [_,_],_::_::_::_,hx,h=>simp[zH]at h
   .cases hk
  .rename_i hkind;have hfp:zat pm rs ro o=⟨zaK pm o.op,[],zet pm o.op,[]⟩:=by unfold zat;rw[hr,hkind];rfl
   obtain⟨args,ts,ho⟩:=zqw hkind;have hops:o.op.operands.toList=args.toList:=by rw[ho];simp[Op.operands,Call.operands]
   have hf1:zkP o.op=args.toList[0]? :=by rw[ho];rfl
   split at hk
   .rename_i x hx;simp only[gB]at hk;obtain⟨k1,k3⟩:=hk;have hfs:zet pm o.op=zgv pm x:=by unfold zet;rw[hx]
    rw[hf1]at hx;rw[ho]at h;simp only[pop]at h
    match hal:args.toList,htl:ts.toList,hx,h with
    | [x',y],[t,tx],hx,h=>
     simp only[rG,qA.injEq]at hx;subst hx;simp only[dV,rU,zH]at h;obtain⟨id,hid⟩:∃ id,zaa (ev f x')=[id]:=by grind[inO]
     have hin:id∈atP ids (zgv pm x'):=zkL k1 hid;obtain⟨k,b,q2,q3,rfl,q5⟩:=zqr hid h;refine Loc.set q2 (by rw[hfp];dsimp only;rw[hfs];exact hin) (.inl q3) λK hK=>st ?_;rw[ho];simp only[pop,hal,htl,dV,rU,zH];exact q5 K (hK.inn id (.inr (by rw[hfp];dsimp only;rw[hfs];exact hin))) λi hi b hb=>by rw[hK.rd (by rw[hfp]) (znN k3 y (by rw[hops,hal];simp) i hi)];exact hb
    | [],_,hx,h=>simp at hx
    | [_],_,hx,h=>simp[zH]at h
    | _::_::_::_,_,hx,h=>simp[zH]at h
    | [_,_],[],hx,h=>simp[zH]at h
    | [_,_],[_],hx,h=>simp[zH]at h
    | [_,_],_::_::_::_,hx,h=>simp[zH]at h
   .cases hk
  .rename_i hkind;have hfp:zat pm rs ro o=⟨zaK pm o.op,[],zet pm o.op,[]⟩:=by unfold zat;rw[hr,hkind];rfl
   obtain⟨t,m,kk,x,ho⟩:=ztg hkind;have hp2:∀ K,pop P o.op f K=(zdV P K t (ev f m) (ev f kk) (ev f x)).map λH'=>(.tup [],H'):=λK=>by rcases ho with ho|ho<;>rw[ho]<;>rfl
   have hf1:zkP o.op=some m:=by rcases ho with ho|ho<;>rw[ho]<;>rfl
   have hfs:zet pm o.op=zgv pm m:=by unfold zet;rw[hf1]
   rw[hf1]at hk;simp only[gB]at hk;obtain⟨k1,k3⟩:=hk;rw[hp2]at h;simp only[gO,qB.injEq]at h;obtain⟨H1,h,rfl,rfl⟩:=h;obtain⟨id,k,b,q1,q2,q3,rfl,q5⟩:=zqm h;have hin:id∈atP ids (zgv pm m):=zkL k1 q1;refine Loc.set q2 (by rw[hfp];dsimp only;rw[hfs];exact hin) (.inl q3) λK hK=>st ?_;rw[hp2,q5 K (hK.inn id (.inr (by rw[hfp];dsimp only;rw[hfs];exact hin)))];rfl
  .cases hk
def zu6(P:Program)(dr:Bool)(ids:List Nat)(pm:List (Nat×List Nat))(rs:List (Nat×Nat))(ds:List (Option Nat))(o:Oper)(F:Fr)(H:za):Option (Fr×za):=
 match zbq ds F o with
 | none=>none
 | some b=>cond b (match !dr||zug ids pm rs o (slot F)with
  | true=>(match ze2 P ids rs o (slot F) H with|some (v,H')=>some (put F o.dst v,H')|none=>none)
  | false=>none) (some (put F o.dst (.tup []),H))
def VCj(P:Program)(dr:Bool)(ids:List Nat)(fp:Fp)(rs:List (Nat×Nat))(o:Oper)(F:Fr)(H:za)(K:Fr->za->Prop):Prop:=
 match zt o.op (slot F)with
 | some (g,args)=>∃ v H',(match dr with|true=>Loc P ids rs fp o (slot F) H v H'|false=>CallOk P g args H v H')/\K (put F o.dst v) H'
 | none=>False
def VCi(P:Program)(dr:Bool)(ids:List Nat)(fp:Fp)(rs:List (Nat×Nat))(ds:List (Option Nat))(o:Oper)(F:Fr)(H:za)(K:Fr->za->Prop):Prop:=
 match zbq ds F o with
 | none=>False
 | some b=>(b=true->VCj P dr ids fp rs o F H K)/\(b=false->K (put F o.dst (.tup [])) H)
def VOi(P:Program)(dr:Bool)(ids:List Nat)(pm:List (Nat×List Nat))(rs:List (Nat×Nat))(ro:List Nat)(ds:List (Option Nat)):List Oper->Option (Fr×za)->(Fr->za->Prop)->Prop
 | _,none,_=>False
 | [],some (F,H),K=>K F H
 | o::r,some (F,H),K=>match zX o.op with
  | false=>VOi P dr ids pm rs ro ds r (zu6 P dr ids pm rs ds o F H) K
  | true=>VCi P dr ids (zat pm rs ro o) rs ds o F H λF' H'=>VOi P dr ids pm rs ro ds r (some (F',H')) K
def VRi(P:Program)(dr:Bool)(ids:List Nat)(pm:List (Nat×List Nat))(rs:List (Nat×Nat))(ro:List Nat)(ds:List (Option Nat))(r:List Oper)(K:Fr->za->Prop)(F:Fr)(H:za):Prop:=VOi P dr ids pm rs ro ds r (some (F,H)) K
theorem zww(dr:Bool)(ids:List Nat)(pm:List (Nat×List Nat))(rs:List (Nat×Nat))(ro:List Nat)(ds:List (Option Nat))(K:Fr->za->Prop)(F:Fr)(H:za):VOi P dr ids pm rs ro ds [] (some (F,H)) K=K F H:=rfl
theorem zi3(dr:Bool)(ids:List Nat)(pm:List (Nat×List Nat))(rs:List (Nat×Nat))(ro:List Nat)(ds:List (Option Nat))(l:List Oper)(K:Fr->za->Prop):VOi P dr ids pm rs ro ds l none K=False:=by cases l<;>rfl
theorem zuG(dr:Bool)(ids:List Nat)(pm:List (Nat×List Nat))(rs:List (Nat×Nat))(ro:List Nat)(ds:List (Option Nat))(o:Oper)(r:List Oper)(K:Fr->za->Prop)(F:Fr)(H:za):
  VOi P dr ids pm rs ro ds (o::r) (some (F,H)) K=match zX o.op with|false=>VOi P dr ids pm rs ro ds r (zu6 P dr ids pm rs ds o F H) K|true=>VCi P dr ids (zat pm rs ro o) rs ds o F H (VRi P dr ids pm rs ro ds r K):=by
 cases h:zX o.op with
 | false=>simp only[VOi,h]
 | true=>simp only[VOi,h];rfl
theorem zV{dr:Bool}{ids:List Nat}{pm:List (Nat×List Nat)}{rs:List (Nat×Nat)}{ro:List Nat}{ds:List (Option Nat)}{l:List Oper}{K:Fr->za->Prop}{x:Bool}{A B:Option (Fr×za)}(h1:x=true->VOi P dr ids pm rs ro ds l A K)(h2:x=false->VOi P dr ids pm rs ro ds l B K):VOi P dr ids pm rs ro ds l (cond x A B) K:=by grind
theorem VCj.read{dr:Bool}{ids:List Nat}{fp:Fp}{rs:List (Nat×Nat)}{o:Oper}{K:Fr->za->Prop}{g:FuncId}{args:List PV}{v:PV}(h:∀ L,Agr ids fp H L->CallOk P g args L v L)(hc:zt o.op (slot F)=some (g,args))(hk:K (put F o.dst v) H):VCj P dr ids fp rs o F H K:=by
 unfold VCj;simp only[hc];refine⟨v,H,?_,hk⟩;cases dr with
 | false=>exact h H (.refl _ _ _)
 | true=>exact Loc.read λL hL=>by unfold StI;rw[hc];exact h L hL
theorem VCj.wr1{dr:Bool}{ids:List Nat}{fp:Fp}{rs:List (Nat×Nat)}{o:Oper}{K:Fr->za->Prop}{g:FuncId}{args:List PV}{v:PV}{id:Nat}{k b:Blk}(hkk:H[id]? =some k)(h:∀ L:za,L[id]? =some k->Agr ids fp H L->CallOk P g args L v (L.set id b))(hw:(atP ids fp.w).elem id=true)(hv:b.ver=k.ver\/(atP ids fp.v).elem id=true)
  (hc:zt o.op (slot F)=some (g,args)) (hk:K (put F o.dst v) (H.set id b)):VCj P dr ids fp rs o F H K:=by
 unfold VCj;simp only[hc];refine⟨v,H.set id b,?_,hk⟩;have hw':id∈atP ids fp.w:=by simp_all
 cases dr with
 | false=>exact h H hkk (.refl _ _ _)
 | true=>exact Loc.set hkk hw' (by rcases hv with h|h;exact .inl h;exact .inr (by simpa[sF]using h)) λL hL=>by unfold StI;rw[hc];exact h L ((hL.inn id (.inr hw')).trans hkk) hL
theorem zi2{op:Op}(h:zX op=false)(f:Nat->PV):zt op f=none:=by
 unfold zt;split
 .simp[zX]at h
 .rfl
theorem zlm{dr:Bool}{all:List Oper}{ids:List Nat}{pm:List (Nat×List Nat)}{rs:List (Nat×Nat)}{ro:List Nat}{K:Fr->za->Prop}{X:Oper->(Nat->PV)->za->PV->za->Prop}(h0:∀ o f H,zbZ all f o=some false->X o f H (.tup []) H)
  (h1:∀ o f H v H',zbZ all f o=some true->zt o.op f=none->(!dr||zug ids pm rs o f)=true->ze2 P ids rs o f H=some (v,H')->X o f H v H')
  (h2:∀ o f H v H' g args,zbZ all f o=some true->zt o.op f=some (g,args)->(dr=true->Loc P ids rs (zat pm rs ro o) o f H v H')->(dr=false->CallOk P g args H v H')->X o f H v H'):
  ∀(l:List Oper) (F:Fr) (H:za),VOi P dr ids pm rs ro (all.map (·.dst)) l (some (F,H)) K->RunG X l (slot F) H (λf H'=>∃ F',f=slot F'/\K F' H')
 | [],F,H,h=>⟨F,rfl,h⟩
 | o::r,F,H,h=>by
  simp only[VOi]at h;have go:∀ v H',X o (slot F) H v H'->VOi P dr ids pm rs ro (all.map (·.dst)) r (some (put F o.dst v,H')) K->RunG X (o::r) (slot F) H (λf H'=>∃ F',f=slot F'/\K F' H'):=λv H' he hr=>by refine⟨v,H',he,?_⟩;rw[<-zaH];exact zlm h0 h1 h2 r _ _ hr
  cases hc:zX o.op with
  | false=>
   simp only[hc]at h;unfold zu6 at h;split at h
   .rw[zi3]at h;exact h.elim
   .rename_i b hb;cases b with
    | false=>exact go _ _ (h0 _ _ _ (zY all F o hb)) h
    | true=>
     simp only[cond_true]at h;split at h
     .rename_i hk;split at h
      .rename_i v H' hp;exact go v H' (h1 _ _ _ _ _ (zY all F o hb) (zi2 hc _) hk hp) h
      simp_all[zi3]
     simp_all[zi3]
  | true=>
   simp only[hc]at h;unfold VCi at h;split at h
   .exact h.elim
   .rename_i b hb;cases b with
    | false=>exact go _ _ (h0 _ _ _ (zY all F o hb)) (h.2 rfl)
    | true=>
     have h:=h.1 rfl;unfold VCj at h;split at h
     .rename_i fn args hp;obtain⟨v,H',q1,q2⟩:=h;exact go v H' (h2 _ _ _ _ _ _ _ (zY all F o hb) hp (λe=>by subst e;exact q1) λe=>by subst e;exact q1) q2
     simp_all
theorem PW.drawi{E:Env}{Q:Exit->Fr->za->Prop}{id:Nat}{ops:Array Oper}(ids:List Nat)(pm:List (Nat×List Nat))(rs:List (Nat×Nat))(ro:List Nat)(hm:P.follows .mixedOrders=true)(hd:ziN (zhC (ops.toList.map (·.dst)) pm rs ro) E.N ops.toList=true)(hnd:ids.Nodup)
  (h:∀ K:Fr->za->Prop,(∀ F' H',Q .normal F' H'->K F' H')->VOi P true ids pm rs ro (ops.toList.map (·.dst)) ops.toList (some (F,H)) K):PW P E (.region id ops true) F H Q:=
 PW.anyR hm hd (zzJ hnd) zzM (zlm (λ_ _ _ h=>.inl ⟨h,rfl,rfl⟩) (λ_ _ _ _ _ h k c p=>.inr ⟨h,zsr k c p⟩) (λ_ _ _ _ _ _ _ h _ c _=>.inr ⟨h,c rfl⟩) _ _ _ (h _ λ_ _ h=>h))
def ExT(P:Program)(all:List Oper)(ids:List Nat)(rs:List (Nat×Nat))(o:Oper)(f:Nat->PV)(H:za)(v:PV)(H':za):Prop:=(zbZ all f o=some false/\v= .tup []/\H'=H)\/(zbZ all f o=some true/\StI P ids rs o f H v H')
theorem zwM{ops:Array Oper}{ids:List Nat}{rs:List (Nat×Nat)}:zjQ P N ops (ExT P ops.toList ids rs):=by
 intro o f H v H' C a w hd hw hf he;rcases he with⟨h1,h2,h3⟩|⟨h1,h2⟩
 .have hwant:=zaw hf h1;rw[rP]at hwant;exact .inl ⟨hwant,h2,h3⟩
 .have hwant:=zaw hf h1;rw[rP]at hwant;exact .inr ⟨hwant,λnext Q hn=>zjn hd hw hf h2 _ _ hn⟩
theorem ExT.run{all:List Oper}{ids:List Nat}{rs:List (Nat×Nat)}{K:Fr->za->Prop}{l:List Oper}(h:VOi P false ids [] rs [] (all.map (·.dst)) l (some (F,H)) K):RunG (ExT P all ids rs) l (slot F) H (λf H'=>∃ F',f=slot F'/\K F' H'):=zlm (λ_ _ _ h=>.inl ⟨h,rfl,rfl⟩) (λ_ _ _ _ _ h k _ p=>.inr ⟨h,by unfold StI;rw[k];exact p⟩) (λ_ _ _ _ _ _ _ h k _ c=>.inr ⟨h,by unfold StI;rw[k];exact c rfl⟩) _ _ _ h
theorem zmx{X:Oper->(Nat->PV)->za->PV->za->Prop}{ops:Array Oper}{K:(Nat->PV)->za->Prop}{Q:Exit->Act->World->Prop}(hstep:zjQ P N ops X):∀(l:List Oper) (f:Nat->PV) (H:za),l.all (zT N)=true->RunG X l f H K->∀(C:Ctx) (a:Act) (w:World),a.defers=[]->WRel C H w->FRel C N f a->
  (∀ C' f' H' a' w',CLe C C'->a'.defers=[]->WRel C' H' w'->Below C.B w w'->FRel C' N f' a'->K f' H'->Q .normal a' w')->wpList P ops Q l a w
 | [],f,H,_,h,C,a,w,hd,hw,hf,hQ=>hQ C f H a w (.refl _) hd hw (.refl _ _) hf h
 | o::r,f,H,hall,h,C,a,w,hd,hw,hf,hQ=>by
  simp only[dW,gB]at hall;obtain⟨v,H',he,hr⟩:=h;have next:∀ C' u w',CLe C C'->WRel C' H' w'->Below C.B w w'->FRel C' N (upd f o.dst v) (a.put o.dst u)->wpList P ops Q r (a.put o.dst u) w':=λC' u w' q1 q2 q3 q4=>zmx hstep r _ _ hall.2 hr C' _ w' (by cases ho:o.dst<;>simp[Act.put,hd]) q2 q4 λC'' f'' H'' a'' w'' p1 p2 p3 p4 p5 p6=>hQ C'' f'' H'' a'' w'' (q1.trans p1) p2 p3 (q3.trans (by rw[<-q1.B];exact p4)) p5 p6
  unfold wpList;rcases hstep o f H v H' C a w hall.1 hw hf he with⟨h1,rfl,rfl⟩|⟨h1,h2⟩
  .rw[gC (by rw[h1];simp)];exact next C _ w (.refl _) hw (.refl _ _) (hf.put o.dst (zaX hall.1) VRel.undefV)
  .rw[gD h1];exact .inl (h2 _ _ next)
theorem PW.seqi{E:Env}{Q:Exit->Fr->za->Prop}{id:Nat}{ops:Array Oper}(ids:List Nat)(rs:List (Nat×Nat))(hd:ops.toList.all (zT E.N)=true)
  (h:∀ K:Fr->za->Prop,(∀ F' H',Q .normal F' H'->K F' H')->VOi P false ids [] rs [] (ops.toList.map (·.dst)) ops.toList (some (F,H)) K):PW P E (.region id ops false) F H Q:=λhs C a w hdf hw hf=>by
 refine wp_region_list ?_;exact zmx zwM _ _ _ hd (ExT.run (h (λF' H'=>Q .normal F' H') λ_ _ h=>h)) C a w hdf hw hf λC' f' H' a' w' p1 p2 p3 p4 p5 ⟨F',e,p6⟩=>⟨C',F',H',p1.toN _,p2,p3,p4,e▸p5,p6⟩
end Go.Proofs.YtleejngibkbjnaaGreatDoor.Pm
namespace Go.Proofs.YtleejngibkbjnaaGreatDoor.Pm
open Go.RowKit
attribute [go_sem] rsv zv7 ztX zqL zww zuG VRi VCi zu6 zug ze2 zns zxc znA zik zbA zkP zet znO okO inO zmD zsp zgv zaK atP zat dis Call.operands List.filterMap_cons_some List.filterMap_nil List.filterMap_cons Array.toList_append
theorem PW.y{P:Program}{E:Env}{F:Fr}{H:za}{Q R:Exit->Fr->za->Prop}{c:Code}{id:Nat}{ops:Array Oper}[k:Ld P E c Q (.region id ops true) R](ids:List Nat)(pm:List (Nat×List Nat))(rs:List (Nat×Nat))(ro:List Nat)(h:∀ K:Fr->za->Prop,(∀ F' H',R .normal F' H'->K F' H')->VOi P true ids pm rs ro (ops.toList.map (·.dst)) ops.toList (some (F,H)) K)(hm:P.follows .mixedOrders=true:=by exact mix)(hd:ziN (zhC (ops.toList.map (·.dst)) pm rs ro) E.N ops.toList=true:=by kernel_rfl)(hnd:ids.Nodup:=by(simp<;>omega)):PW P E c F H Q:=k.h _ _ (PW.drawi ids pm rs ro hm hd hnd h)
end Go.Proofs.YtleejngibkbjnaaGreatDoor.Pm
namespace Go.Proofs.YtleejngibkbjnaaGreatDoor.Sc
open Pm Ty Go.RowKit
theorem apn(H K:za)(n:Nat):(H++K)[H.length+n]? =K[n]? :=by rw[gN om,show H.length+n - H.length=n from om]
theorem aps(H K:za)(n:Nat)(X:Blk):(H++K).set (H.length+n) X=H++K.set n X:=by rw[uC _ _ om,show H.length+n - H.length=n from om]
theorem zac{α:Type}(enc:α->List PV)(N:Nat):∀(l:List α),(∀ x∈l,(enc x).length=N)->(l.flatMap enc).length=l.length * N
 | [],_=>by simp
 | a::r,h=>by rw[wP,gP,zac enc N r (λx hx=>h x (uM _ hx)),h a (uK ..),gZ,vE,wK,sG]
theorem zbE{α:Type}(enc:α->List PV)(N:Nat):∀(l:List α) (k:Nat) (hk:k<l.length),(∀ x∈l,(enc x).length=N)->List.take N (List.drop (k * N) (l.flatMap enc))=enc l[k]
 | [],k,hk,_=>by simp at hk
 | a::r,0,_,h=>by
  rw[vV,List.drop_zero,wP];exact wZ (h a (uK ..))
 | a::r,k+1,hk,h=>by
  have e:(k+1) * N=(enc a).length+k * N:=by rw[h a (uK ..),vE,wK,sG]
  rw[wP,e,<-dL,List.drop_left];exact zbE enc N r k (by simpa using hk) (λx hx=>h x (uM _ hx))
theorem zfi{H K:za}(hK:∀ b∈K,∀ x∈b.cells,Scoped (H.length+K.length) x)(h:HSc H):HSc (H++K):=λid k hk x hx=>by
 rw[gP];rw[nA]at hk;split at hk
 .exact(h id k hk x hx).mono om
 .exact hK k (uE hk) x hx
end Go.Proofs.YtleejngibkbjnaaGreatDoor.Sc
namespace Go.Proofs.YtleejngibkbjnaaGreatDoor.Pm
open Go.RowKit
variable {P:Program} {C:Ctx} {H K:za} {w:World} {F:Fr} {a:Act} {N:Nat}
def zkC(rs:List (Nat×Nat))(o:Oper):Bool:=match zns rs o with|some _=>false|none=> !zX o.op&& !eff o.op
def zk9(ds:List (Option Nat))(rs:List (Nat×Nat))(x o:Oper):Bool:=clear ds x o&&clear ds o x&&zkC rs x&&zkC rs o
theorem ExT.congr{all:List Oper}{ids:List Nat}{rs:List (Nat×Nat)}{o:Oper}{f g:Nat->PV}{v:PV}{H':za}(h:∀ t∈zl2 (all.map (·.dst)) o,f t=g t)(he:ExT P all ids rs o f H v H'):ExT P all ids rs o g H v H':=by have e1:zbZ all f o=zbZ all g o:=zfb λt ht=>h t (uF.2 (.inr ht));have e2:∀ x∈o.op.operands.toList,ev f x=ev g x:=λx hx=>ziL λt ht=>h t (uF.2 (.inl (zix (ht▸hx))));unfold ExT StI at he |-;simp only[<-e1,<-zc6 e2,<-zij e2];exact he
theorem ExT.same{all:List Oper}{ids:List Nat}{rs:List (Nat×Nat)}{o:Oper}{f:Nat->PV}{v:PV}{H':za}(hn:zkC rs o=true)(he:ExT P all ids rs o f H v H'):H'=H:=by
 rcases he with⟨_,_,e⟩|⟨_,h⟩
 .exact e
 unfold zkC at hn;cases hr:zns rs o with
 | some p=>rw[hr]at hn;cases hn
 | none=>rw[hr]at hn;simp only[gB,vR]at hn;unfold StI at h;rw[zi2 hn.1]at h;dsimp only at h;unfold ze2 at h;rw[hr]at h;exact zdh hn.2 h
theorem zzI{all:List Oper}{ids:List Nat}{rs:List (Nat×Nat)}:zjP (ExT P all ids rs) (zk9 (all.map (·.dst)) rs):=by intro x o f H vx Hx v H1 hc hx ho;unfold zk9 at hc;simp only[gB]at hc;obtain⟨⟨⟨c1,c2⟩,c3⟩,c4⟩:=hc;obtain rfl:=hx.same c3;obtain rfl:=ho.same c4;exact⟨H1,ho.congr λt ht=>zcs (zbp c1 t ht),hx.congr λt ht=>(zcs (zbp c2 t ht)).symm,zhP (f:=f) (u:=vx) (v:=v) (zgL c1)⟩
theorem PW.drawt{E:Env}{Q:Exit->Fr->za->Prop}{id:Nat}{ops:Array Oper}(ids:List Nat)(rs:List (Nat×Nat))(hm:P.follows .mixedOrders=true)(hd:ziN (zk9 (ops.toList.map (·.dst)) rs) E.N ops.toList=true)
  (h:∀ K:Fr->za->Prop,(∀ F' H',Q .normal F' H'->K F' H')->VOi P false ids [] rs [] (ops.toList.map (·.dst)) ops.toList (some (F,H)) K):PW P E (.region id ops true) F H Q:=
 PW.anyR hm hd zzI zwM (ExT.run (h _ λ_ _ h=>h))
theorem VCj.now{ids:List Nat}{fp:Fp}{rs:List (Nat×Nat)}{o:Oper}{K:Fr->za->Prop}{g:FuncId}{args:List PV}{v:PV}{H':za}(h:CallOk P g args H v H')(hc:zt o.op (slot F)=some (g,args))(hk:K (put F o.dst v) H'):VCj P false ids fp rs o F H K:=by unfold VCj;simp only[hc];exact⟨v,H',h,hk⟩
end Go.Proofs.YtleejngibkbjnaaGreatDoor.Pm
namespace Go.Proofs.YtleejngibkbjnaaGreatDoor.Pm
open Go.RowKit
variable {P:Program} {C:Ctx} {H:za} {w:World} {F:Fr} {a:Act} {N:Nat}
def CallPan(P:Program)(f:FuncId)(args:List PV)(H:za)(ch:List PanicEntry)(H':za):Prop:=
 zaC P f=true/\∀(C:Ctx) (us:List Value) (w:World),WRel C H w->VRels C args us->
  Calls P f us.toArray w λe w'=>∃ C',CLe C C'/\WRel C' H' w'/\Below C.B w w'/\e= .panicked ch
theorem zc8{all:List Oper}{K:Fr->za->Prop}{D:List Deferred}{rest:List Oper}:∀(l:List Oper) (F:Fr) (H:za),l.all (zT N)=true->zbK P all l K F H->∀(C:Ctx) (a:Act) (w:World),a.defers=D->WRel C H w->FRel C N (slot F) a->
  ∀ Q:Exit->Act->World->Prop,(∀ C' F' H' a' w',CLe C C'->a'.defers=D->WRel C' H' w'->Below C.B w w'->FRel C' N (slot F') a'->K F' H'->wpList P all.toArray Q rest a' w')->wpList P all.toArray Q (l++rest) a w
 | [],F,H,_,h,C,a,w,hd,hw,hf,Q,hQ=>hQ C F H a w (.refl _) hd hw (.refl _ _) hf h
 | o::r,F,H,hall,h,C,a,w,hd,hw,hf,Q,hQ=>by
  simp only[dW,gB]at hall;simp only[zbK]at h;rw[uZ];split at h
  .rename_i b hb;have hwant:=zaw hf hb;unfold wpList;cases b with
   | true=>
    rw[gD hwant];left;have h1:=h.1 rfl;have step:∀ R,zcX P o (slot F) H R->(∀ v H',R v H'->zbK P all r K (put F o.dst v) H')->o.wp P a w (wpList P all.toArray Q (r++rest)) Q:=λR he hr=>by refine zb8 hall.1 hw hf he _ _ λC' u w' v H' q0 q1 q2 q3 q4=> ?_;rw[<-zaH]at q4;refine zc8 (D:=D) (rest:=rest) r _ _ hall.2 (hr v H' q0) C' _ w' (by cases ho:o.dst<;>simp[Act.put,hd]) q2 q4 Q ?_;intro C'' F'' H'' a'' w'' p1 p2 p3 p4 p5 p6;exact hQ C'' F'' H'' a'' w'' (q1.trans p1) p2 p3 (q3.trans (by rw[<-q1.B];exact p4)) p5 p6
    split at h1
    .rename_i g args hc;obtain⟨R,hcall,hr⟩:=h1;exact step R (by unfold zcX;rw[hc];exact hcall) hr
    .rename_i hc;split at h1
     .rename_i v H' hp;exact step (λv' H''=>v'=v/\H''=H') (by unfold zcX;rw[hc];exact⟨v,H',hp,rfl,rfl⟩) (λv' H'' e=>by rw[e.1,e.2];exact h1)
     .exact h1.elim
   | false=>rw[gC (by rw[hwant];simp)];have h2:=h.2 rfl;have q4:=hf.put o.dst (zaX hall.1) (VRel.undefV (C:=C));rw[<-zaH]at q4;exact zc8 (D:=D) (rest:=rest) r _ _ hall.2 h2 C _ w (by cases ho:o.dst<;>simp[Act.put,hd]) hw q4 Q hQ
  .exact h.elim
theorem zfa{o:Oper}{f:Nat->PV}{g:FuncId}{args:List PV}{ch:List PanicEntry}{H':za}(hw:WRel C H w)(hf:FRel C N f a)(hc:zt o.op f=some (g,args))(h:CallPan P g args H ch H')
  (next:Act->World->Prop) (Q:Exit->Act->World->Prop) (hn:∀ C' w',CLe C C'->WRel C' H' w'->Below C.B w w'->FRel C' N f a->Q (.panic ch) a w'):o.wp P a w next Q:=by
 unfold zt at hc;split at hc
 .rename_i x xs ts ho;split at hc
  .rename_i f' first captured hfv
   simp only[qA.injEq,qB.injEq]at hc;obtain⟨rfl,rfl⟩:=hc;have hv:=zx hf x;rw[hfv]at hv;obtain⟨us,ws,hl,hl',hR,hR',he⟩:∃ us ws,us.length=first.length/\ws.length=captured.length/\Rel C first us/\Rel C captured ws/\a.eval x= .func (.func f') us.toArray ws.toArray:=by
    generalize a.eval x=q at hv;cases hv with
    | func hl hl' hR hR'=>exact⟨_,_,hl,hl',hR,hR',rfl⟩
   obtain⟨hal,har⟩:=zeW hf xs.toList;have hrun:(execOp a.eval o).run P w= .ok (.enter f' (us++xs.toList.map a.eval++ws).toArray) w:=by
    have e1:us.toArray++xs.map a.eval++ws.toArray=(us++xs.toList.map a.eval++ws).toArray:=by apply sT;simp
    simp only[execOp,ho,resolve,he,Deferred.ofValue,invoke,Sem.run_bind,Sem.run_pure,Result.andThen_ok,zdz h.1,e1]
   unfold Oper.wp;rw[hrun,Oper.upon_enter];refine(h.2 C _ w hw ⟨by simp[hl,hl'],Rel.append (by simp[hl]) (Rel.append hl hR har) hR'⟩).mono ?_;rintro e w' ⟨C',q1,q2,q3,rfl⟩;exact hn C' w' q1 q2 q3 (hf.mono q1)
  .cases hc
 .cases hc
section rules
variable {E:Env} {Q:Exit->Fr->za->Prop}
theorem PW.region_pan{id:Nat}{ops:Array Oper}(n:Nat)(hd:(ops.toList.take n).all (zT E.N)=true)
  (h:zbK P ops.toList (ops.toList.take n) (λF' H'=>∃ o r g args ch H'',ops.toList.drop n=o::r/\zbZ ops.toList (slot F') o=some true/\zt o.op (slot F')=some (g,args)/\CallPan P g args H' ch H''/\Q (.panic ch) F' H'') F H):
  PW P E (.region id ops false) F H Q:=λhs C a w hdf hw hf=>by
 refine wp_region_list ?_;have:=zc8 (P:=P) (all:=ops.toList) (rest:=ops.toList.drop n) (ops.toList.take n) F H hd h C a w hdf hw hf (Post E C w Q) (λC' F' H' a' w' p1 p2 p3 p4 p5 p6=>by
  obtain⟨o,r,g,args,ch,H'',e1,e2,e3,e4,e5⟩:=p6;rw[e1];unfold wpList;rw[gD (zaw p5 e2)];left;exact zfa p3 p5 e3 e4 _ _ λC'' w'' r1 r2 r3 r4=>⟨C'',F',H'',(p1.trans r1).toN _,p2,r2,p4.trans (by rw[<-p1.B];exact r3),r4,e5⟩)
 rw[rH]at this;simpa using this
end rules
def zAE(H:za)(Hout:za)(H':za):Prop:=H'=Hout\/(∃ K,H'=H++K/\Hout=H)\/(HSc H->H.length<=Hout.length/\CutH H' Hout)
def zz8(ch:List PanicEntry)(H Hout:za):Exit->Fr->za->Prop
 | .panic ch',_,H'=>ch'=ch/\zAE H Hout H'
 | _,_,_=>False
theorem CallPan.intro{f:FuncId}{fn:Func}{c:Code}{args:List PV}{ch:List PanicEntry}{Hout:za}(hf:P.funcs[f]? =some fn)(hb:fn.body=some c)(hcall:zaC P f=true)(hn:args.length<=fn.ntmps)
  (h:PW P ⟨fn.ntmps,H⟩ c (zb9 args 0) H (zz8 ch H Hout)):CallPan P f args H ch Hout:=by
 refine⟨hcall,λC us w hw hargs=>calls_of_wp hf hb ?_⟩;have hfr:FRel C fn.ntmps (slot (zb9 args 0)) { tmps:=us.toArray++qD (fn.ntmps - us.toArray.size) Go.undef,defers:=[] }:=by
  refine⟨by simp[hargs.1];omega,λt=> ?_⟩;rw[zdk];simp only[vU,wN,dM];by_cases ht:t<args.length
  .have htu:t<us.length:=by rw[hargs.1];exact ht
   have e1:args.getD t .undef=args[t]:=by simp[qE,ht]
   have e2:(us.toArray++qD (fn.ntmps - us.toArray.size) Go.undef).getD t Go.undef=us[t]:=by rw[vO,dT (by simpa using htu)];simp[htu]
   rw[e1,e2];exact hargs.2 t _ _ (gG ht) (gG htu)
  .have e1:args.getD t .undef= .undef:=by simp[qE,vP (by omega:args.length<=t)]
   rw[e1];exact .undef _
 refine wp_mono (h hw.hsc C _ w rfl hw hfr) ?_;rintro e a' w' ⟨C',F',H',q1,q2,q3,q4,q5,q6⟩;have q1':=q1.full hw.lenv;cases e with
 | panic ch'=>
  obtain⟨rfl,hp⟩:=q6;refine⟨q2,?_⟩;rcases hp with rfl|⟨K,rfl,rfl⟩|hp
  .exact⟨C',q1',q3,q4,rfl⟩
  .obtain⟨g1,g2⟩:=WRel.give hw q1' q3;exact⟨_,g1,g2,q4,rfl⟩
  .obtain⟨hlen,hcut⟩:=hp hw.hsc;obtain⟨g1,g2⟩:=q3.cutN hcut;exact⟨_,(q1.trans (g1.less hlen)).full hw.lenv,g2,q4,rfl⟩
 | _=>exact q6.elim
theorem CallPan.body{f:FuncId}{fn:Func}{c:Code}{F0:Fr}{args:List PV}{ch:List PanicEntry}{Hout:za}(hf:P.funcs[f]? =some fn)(hb:fn.body=some c)(hN:fn.ntmps=N)(hF:zb9 args 0=F0)
  (hcall:zaC P f=true) (hn:Nat.ble args.length N=true) (h:PW P ⟨N,H⟩ c F0 H (zz8 ch H Hout)):CallPan P f args H ch Hout:=by
 subst hN hF;exact CallPan.intro hf hb hcall (wB hn) h
end Go.Proofs.YtleejngibkbjnaaGreatDoor.Pm
namespace Go.Proofs.YtleejngibkbjnaaGreatDoor.Pm
open Go.RowKit
variable {P:Program} {C:Ctx} {H:za} {w:World} {F:Fr} {a:Act} {N:Nat}
def pnc(ty:TypeId)(k:IntKind)(e:Int):List PanicEntry:=[{ v:=.iface ty (.agg #[.int k e]),recovered:=false }]
theorem zuz{C:Ctx}{k:IntKind}{e:Int}{u:Value}(h:VRel C (.agg [.int k e]) u):u= .agg #[.int k e]:=by
 cases h with
 | agg hl hc hR=>
  rename_i us
  match us,hl with
  | [y],_=>have:=hR 0 _ _ rfl rfl;cases this;rfl
section rules
variable {E:Env} {Q:Exit->Fr->za->Prop}
theorem PW.raise{id:Nat}{ops:Array Oper}(n:Nat){s d:Nat}{ty:TypeId}{k:IntKind}{e:Int}(hd:(ops.toList.take n).all (zT E.N)=true)(hdN:d<E.N)(hty:P.concrete ty=true)
  (h:zbK P ops.toList (ops.toList.take n) (λF' H'=>∃ o1 o2 r,ops.toList.drop n=o1::o2::r/\o1.guard=none/\o2.guard=none/\o1.op= .makeInterface ty (.tmp s)/\o1.dst=some d/\o2.op= .panic (.tmp d)/\slot F' s= .agg [.int k e]/\Q (.panic (pnc ty k e)) (put F' (some d) .undef) H') F H):
  PW P E (.region id ops false) F H Q:=λhs C a w hdf hw hf=>by
 refine wp_region_list ?_;have:=zc8 (P:=P) (all:=ops.toList) (rest:=ops.toList.drop n) (ops.toList.take n) F H hd h C a w hdf hw hf (Post E C w Q) (λC' F' H' a' w' p1 p2 p3 p4 p5 p6=>by
  obtain⟨o1,o2,r,e1,g1,g2,x1,d1,x2,hsl,hq⟩:=p6;rw[e1];have hv:=p5.2 s;rw[hsl]at hv;have hu:=zuz hv;have hsz:=p5.1;have w1:∀ a0:Act,Region.wanted o1 (yielded ops.toList.toArray a0.tmps)=true:=λa0=>by simp[Region.wanted,g1]
  have w2:∀ a0:Act,Region.wanted o2 (yielded ops.toList.toArray a0.tmps)=true:=λa0=>by simp[Region.wanted,g2]
  have r1:(execOp a'.eval o1).run P w'= .ok (.value (.iface ty (.agg #[.int k e]))) w':=by simp only[execOp,x1];have:a'.eval (.tmp s)= .agg #[.int k e]:=hu;rw[this];simp only[Sem.run_bind,run_makeInterface _ _ _ hty,Result.andThen_ok,Sem.run_pure]
  unfold wpList;rw[gD (w1 _)];left;unfold Oper.wp;rw[r1,Oper.upon_value];unfold wpList;rw[gD (w2 _)];left;have hlt:d<a'.tmps.size:=om;have r2:(execOp (a'.put o1.dst (.iface ty (.agg #[.int k e]))).eval o2).run P w'= .halt (.panic (.iface ty (.agg #[.int k e]))) w':=by
   simp only[execOp,x2];have:(a'.put o1.dst (.iface ty (.agg #[.int k e]))).eval (.tmp d)= .iface ty (.agg #[.int k e]):=by rw[d1];simp[Act.put,Act.eval,hlt]
   rw[this];simp only[Sem.run_bind,run_panic_iface,Result.andThen_halt]
  unfold Oper.wp;rw[r2,Oper.upon_panic];have q4:=p5.put (some d) (λt ht=>by injection ht with ht;omega) (VRel.undef (C:=C') (.iface ty (.agg #[.int k e])));rw[<-zaH]at q4;exact⟨C',_,H',p1.toN _,by rw[d1];simpa[Act.put]using p2,p3,p4,by rw[d1];exact q4,hq⟩)
 rw[rH]at this;simpa using this
theorem PW.raiseV{id:Nat}{ops:Array Oper}(n:Nat){s d:Nat}{ty:TypeId}{k:IntKind}{e:Int}(hd:(ops.toList.take n).all (zT E.N)=true)
  (hs:∃ o1 o2 r,ops.toList.drop n=o1::o2::r/\o1.guard=none/\o2.guard=none/\o1.op= .makeInterface ty (.tmp s)/\o1.dst=some d/\o2.op= .panic (.tmp d)) (hdN:d<E.N) (hty:P.concrete ty=true)
  (h:∀ K:Fr->za->Prop,(∀ F' H',slot F' s= .agg [.int k e]->Q (.panic (pnc ty k e)) (put F' (some d) .undef) H'->K F' H')->VO P (ops.toList.map (·.dst)) (ops.toList.take n) (some (F,H)) K):PW P E (.region id ops false) F H Q:=by
 obtain⟨o1,o2,r,e1,e2,e3,e4,e5,e6⟩:=hs;exact .raise n hd hdN hty (zav _ _ _ (h _ λF' H' h1 h2=>⟨o1,o2,r,e1,e2,e3,e4,e5,e6,h1,h2⟩))
theorem PW.panV{id:Nat}{ops:Array Oper}(n:Nat){o:Oper}(hd:(ops.toList.take n).all (zT E.N)=true)(hs:∃ o' r,ops.toList.drop n=o'::r/\(o'=o/\o'.guard=none))
  (h:∀ K:Fr->za->Prop,(∀ F' H' g args ch H'',zt o.op (slot F')=some (g,args)->CallPan P g args H' ch H''->Q (.panic ch) F' H''->K F' H')->VO P (ops.toList.map (·.dst)) (ops.toList.take n) (some (F,H)) K):PW P E (.region id ops false) F H Q:=by
 obtain⟨o',r,e1,rfl,e2⟩:=hs;exact .region_pan n hd (zav _ _ _ (h _ λF' H' g args ch H'' h1 h2 h3=>⟨o',r,g,args,ch,H'',e1,by unfold zbZ;rw[e2],h1,h2,h3⟩))
end rules
end Go.Proofs.YtleejngibkbjnaaGreatDoor.Pm
namespace Go.Proofs.YtleejngibkbjnaaGreatDoor.Pm
open Go.RowKit
variable {P:Program} {C:Ctx} {H:za} {w:World} {F:Fr} {a:Act} {N:Nat}
theorem zm7{all:Array Oper}{o:Oper}{rest:List Oper}{v:PV}{H':za}{Q:Exit->Act->World->Prop}(hw:WRel C H w)(hf:FRel C N (slot F) a)(hd:zT N o=true)(hg:o.guard=none)(hp:zt o.op (slot F)=none)(he:pop P o.op (slot F) H=some (v,H'))
  (hn:∀ C' u w',CLe C C'->WRel C' H' w'->Below C.B w w'->FRel C' N (slot (put F o.dst v)) (a.put o.dst u)->wpList P all Q rest (a.put o.dst u) w'):wpList P all Q (o::rest) a w:=by
 unfold wpList;rw[gD (by simp[Region.wanted,hg])];left;refine zb8 hd hw hf (R:=λv' H''=>v'=v/\H''=H') (by unfold zcX;rw[hp];exact⟨v,H',he,rfl,rfl⟩) _ _ λC' u w' v' H'' q0 q1 q2 q3 q4=> ?_;obtain⟨rfl,rfl⟩:=q0;rw[<-zaH]at q4;exact hn C' u w' q1 q2 q3 q4
theorem zjX{all:Array Oper}{o:Oper}{rest:List Oper}{u:Value}{Q:Exit->Act->World->Prop}(hg:o.guard=none)(he:(execOp a.eval o).run P w= .ok (.value u) w)(hn:wpList P all Q rest (a.put o.dst u) w):wpList P all Q (o::rest) a w:=by unfold wpList;rw[gD (by simp[Region.wanted,hg])];left;unfold Oper.wp;rw[he,Oper.upon_value];exact hn
theorem zqD{args:List PV}{us:List Value}(hargs:VRels C args us)(hn:args.length<=N):FRel C N (slot (zb9 args 0)) { tmps:=us.toArray++qD (N - us.toArray.size) Go.undef,defers:=[] }:=by
 refine⟨by simp[hargs.1];omega,λt=> ?_⟩;rw[zdk];simp only[vU,wN,dM];by_cases ht:t<args.length
 .have htu:t<us.length:=by rw[hargs.1];exact ht
  have e1:args.getD t .undef=args[t]:=by simp[qE,ht]
  have e2:(us.toArray++qD (N - us.toArray.size) Go.undef).getD t Go.undef=us[t]:=by rw[vO,dT (by simpa using htu)];simp[htu]
  rw[e1,e2];exact hargs.2 t _ _ (gG ht) (gG htu)
 .have e1:args.getD t .undef= .undef:=by simp[qE,vP (by omega:args.length<=t)]
  rw[e1];exact .undef _
theorem WRel.drop{A K:za}{C0:Ctx}{w0:World}(h0:WRel C0 H w0)(hl:H.length=A.length)(hA:HSc A)(hle:CLe C0 C)(hw:WRel C (A++K) w):∃ C',CLe C0 C'/\WRel C' A w:=by obtain⟨g1,g2⟩:=hw.cutN (CutH.base hA);exact⟨_,((hle.toN _).trans (g1.less (m:=H.length) om)).full h0.lenv,g2⟩
theorem zpV{all:Array Oper}{o:Oper}{rest:List Oper}{d:Deferred}{Q:Exit->Act->World->Prop}(hg:o.guard=none)(he:(execOp a.eval o).run P w= .ok (.defer d) w)(hn:wpList P all Q rest ({ a with defers:=d::a.defers }.put o.dst Go.undef) w):wpList P all Q (o::rest) a w:=by unfold wpList;rw[gD (by simp[Region.wanted,hg])];left;unfold Oper.wp;rw[he,Oper.upon_defer];exact hn
theorem PW.hand{c:Code}{F1:Fr}{H1:za}{Q:Exit->Act->World->Prop}(ks:List Nat)(h:PW P ⟨N,H⟩ c F H (λx F' H'=>x= .normal/\kp ks F'=F1/\H'=H1))(hd:a.defers=[])(hw:WRel C H w)(hf:FRel C N (slot F) a)
  (hn:∀ C' a' w',CLe C C'->a'.defers=[]->WRel C' H1 w'->Below C.B w w'->FRel C' N (slot F1) a'->Q .normal a' w'):c.wp P Q a w:=by
 refine wp_mono (h hw.hsc C a w hd hw hf) ?_;rintro x a' w' ⟨C',F',H',y1,y2,y3,y4,y5,rfl,rfl,rfl⟩;exact hn C' a' w' (y1.full hw.lenv) y2 y3 y4 (y5.keep ks)
theorem ze7{id:Nat}{ops:Array Oper}{K:Fr->za->Prop}{Q:Exit->Act->World->Prop}(n:Nat)(hd:(ops.toList.take n).all (zT N)=true)(h:VO P (ops.toList.map (·.dst)) (ops.toList.take n) (some (F,H)) K){D:List Deferred}(hD:a.defers=D)(hw:WRel C H w)(hf:FRel C N (slot F) a)
  (hn:∀ C' F' H' a' w',CLe C C'->a'.defers=D->WRel C' H' w'->Below C.B w w'->FRel C' N (slot F') a'->K F' H'->wpList P ops Q (ops.toList.drop n) a' w'):(Code.region id ops false).wp P Q a w:=by
 refine wp_region_list ?_;have:=zc8 (P:=P) (all:=ops.toList) (rest:=ops.toList.drop n) (ops.toList.take n) F H hd (zav _ _ _ h) C a w hD hw hf Q (λC' F' H' a' w' p1 p2 p3 p4 p5 p6=>by
  simpa using hn C' F' H' a' w' p1 p2 p3 p4 p5 p6)
 rw[rH]at this;simpa using this
theorem WRel.dropV{A K:za}{C0:Ctx}{w0:World}{v:PV}{u:Value}(h0:WRel C0 H w0)(hl:H.length=A.length)(hA:HSc A)(hle:CLe C0 C)(hw:WRel C (A++K) w)(hv:VRel C v u)(hs:Scoped A.length v):∃ C',CLe C0 C'/\WRel C' A w/\VRel C' v u:=by obtain⟨g1,g2⟩:=hw.cutN (CutH.base hA);exact⟨_,((hle.toN _).trans (g1.less (m:=H.length) om)).full h0.lenv,g2,(Fz.id hs).sound hw hv⟩
end Go.Proofs.YtleejngibkbjnaaGreatDoor.Pm
namespace Go.Proofs.YtleejngibkbjnaaGreatDoor.Sc
open Pm Ty Go.RowKit
theorem zin(d:TypeDesc)(k a v:PV):∀(xs:List PV) (i:Nat),zcg d k (xs++[.tup [a,v]]) i=match zcg d k xs i with
  | some (some r)=>some (some r)
  | some none=>(match zek d k a with|some true=>some (some (i+xs.length,v))|some false=>some none|none=>none)
  | none=>none
 | [],i=>by
  simp only[vC,zcg,uS,vQ];cases zek d k a with
  | none=>rfl
  | some t=>cases t<;>rfl
 | x::r,i=>by
  rw[uZ];have ih:=zin d k a v r (i+1)
  match x with
  | .tup [b,u]=>
   simp only[zcg];cases zek d k b with
   | none=>rfl
   | some t=>
    cases t with
    | true=>rfl
    | false=>
     dsimp only;rw[ih,show i+1+r.length=i+(.tup [b,u]::r:List PV).length by simp;omega]
  | .tup []=>rfl
  | .tup [_]=>rfl
  | .tup (_::_::_::_)=>rfl
  | .int _ _=>rfl
  | .bool _=>rfl
  | .str _=>rfl
  | .nilp=>rfl
  | .nl _=>rfl
  | .undef=>rfl
  | .ptr _ _ _=>rfl
  | .ip _ _=>rfl
  | .slice _ _ _=>rfl
  | .msl _ _ _ _ _ _=>rfl
  | .mp _ _=>rfl
  | .agg _=>rfl
  | .func _ _ _=>rfl
  | .yl _ _ _=>rfl
  | .lp _ _=>rfl
theorem zqZ:zrT prog 3=some (.int .i64 0):=kr
def zkn:Nat->List PV
 | 0=>[]
 | i+1=>zkn i++[.tup [.int .i64 (1+(i:Int)),.int .i64 (i:Int)]]
theorem zgs(t:Int):∀ r:Nat,((1<=t/\t<1+(r:Int))->∃ p,zcg (.int .i64) (.int .i64 t) (zkn r) 0=some (some (p,.int .i64 (t - 1))))/\(¬(1<=t/\t<1+(r:Int))->zcg (.int .i64) (.int .i64 t) (zkn r) 0=some none)
 | 0=>⟨λh=>om,λ_=>rfl⟩
 | r+1=>by
  obtain⟨ih1,ih2⟩:=zgs t r;rw[zkn,zin];by_cases h:1<=t/\t<1+(r:Int)
  .obtain⟨p,hp⟩:=ih1 h;rw[hp];exact⟨λ_=>⟨p,rfl⟩,λh2=>om⟩
  .rw[ih2 h];by_cases h2:t=1+(r:Int)
   .have:zek (.int .i64) (.int .i64 t) (.int .i64 (1+(r:Int)))=some true:=by simp[zek,h2]
    rw[this];refine⟨λ_=>⟨0+(zkn r).length,?_⟩,λh3=>om⟩;dsimp only;rw[show t - 1=(r:Int)from om]
   .have:zek (.int .i64) (.int .i64 t) (.int .i64 (1+(r:Int)))=some false:=by simp[zek,h2]
    rw[this];exact⟨λh3=>om,λ_=>rfl⟩
def mpB(r:Nat):Blk:=⟨124,0,zkn r⟩
theorem zyd(r:Nat)(H:za)(hr:r<=1000):CallOk prog 44 [.int .i64 (r:Int)] H (.mp H.length 0) (H++[mpB r]):=by
 refine .go func44 ntmps44 results44 ?_;refine .e (.e ?_);refine .e (.l ?_);suffices hl1:∀ j:Nat,j<=r->PL prog _ _ [(3,.mp H.length 0),(6,.int .i64 (r:Int)),(7,.int .i64 (j:Int))] (H++[⟨124,0,zkn j⟩]) _ by exact .a (hl1 0 om)
 intro j hj;induction hd:r - j using Nat.strongRecOn generalizing j with
 | _ d ih=>
  refine .round (.e ?_);refine .c (λh=> ?_) (λh=> ?_)
  .have hjr:j<r:=ot h;have hp:=(zgs (1+(j:Int)) j).2 om;refine .skip (.b ?_);refine .e (.f (λK k=>by simp(disch:=omega) only[go_sem,hp,zdV,zbP,zdc];exact k) ?_);refine .e ?_;exact .a (ih (r - (j+1)) om (j+1) om rfl)
  .have hjr:j=r:=ofF h;subst hjr;refine .exit (.e ?_);refine .v (.mp H.length 0) ?_;exact .now
end Go.Proofs.YtleejngibkbjnaaGreatDoor.Sc
