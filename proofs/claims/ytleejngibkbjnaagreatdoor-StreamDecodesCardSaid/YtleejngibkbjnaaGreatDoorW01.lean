/-
  Parts of the proof. No condition.
-/
import Derived.WalkKit
import Derived.WalkSpells
import Derived.WalkLawsBesides
import Derived.Deep.Draws
import Derived.Deep.AppendSrc
import Derived.Great.BuildSlice
open List renaming getElem?_eq_some_iff → qD, getElem?_append_left → qE, mem_of_mem_take → qH, mem_of_mem_drop → qI
open Nat renaming beq → qB, eq_of_beq_eq_true → qG
open Option renaming some → qA, map_eq_some_iff → qF
set_option linter.all false
set_option maxRecDepth 100000
set_option maxHeartbeats 32000000
namespace Go.Proofs.YtleejngibkbjnaaGreatDoor
def gA:=@qD
def gB:=@Bool.and_eq_true
def gC:=@if_neg
def gD:=@if_pos
def gG:=@List.getElem?_eq_getElem
def gH:=@List.take_of_length_le
def gJ:=@Bool.eq_iff_iff
def gK:=@qE
def gL:=@List.not_mem_nil
def gM:=@List.mem_cons
def gN:=@List.getElem?_append_right
def gO:=@qF
def gP:=@List.length_append
def gQ:=@List.append_nil
def gR:=@List.getElem?_set_ne
def gS:=@List.length_set
def gT:=@Nat.mul_le_mul_right
def gU:=@List.append_assoc
def gV:=@Nat.le_refl
def gW:=@decide_eq_false
def gX:=@decide_eq_true
def gY:=@decide_eq_true_eq
def gZ:=@List.length_cons
def uA:=@or_false
def uB:=@List.drop_of_length_le
def uC:=@List.set_append_right
def uD:=@Option.bind_eq_bind
def uE:=@List.mem_of_getElem?
def uF:=@List.mem_append
def uH:=@List.getD_eq_getElem?_getD
def uI:=@And.intro
def uJ:=@List.all_eq_true
def uK:=@List.mem_cons_self
def uL:=@List.set_append_left
def uM:=@List.mem_cons_of_mem
def uN:=@Option.pure_def
def uO:=@Option.bind_some
def uP:=@Bool.true_and
def uQ:=@List.length_replicate
def uR:=@List.mapM_cons
def uS:=@List.length_nil
def uT:=@Nat.mul_le_mul
def uU:=@List.eq_nil_of_length_eq_zero
def uV:=@Int.toNat_natCast
def uW:=@Nat.add_sub_cancel_left
def uX:=@List.mem_singleton
def uY:=@List.getElem_mem
def uZ:=@List.cons_append
def vA:=@List.mapM_nil
def vB:=@Bool.false_and
def vC:=@List.nil_append
def vD:=@List.getElem?_map
def vE:=@Nat.add_mul
def vF:=@of_decide_eq_true
def vG:=@List.getElem?_set
def vH:=@of_decide_eq_false
def vI:=@qH
def vJ:=@Array.getElem?_eq_some_iff
def vK:=@Nat.sub_self
def vL:=@List.set_set
def vM:=@Option.map_some
def vN:=@List.getElem?_set_self
def vO:=@Array.getD_eq_getD_getElem?
def vP:=@List.getElem?_eq_none
def vQ:=@Nat.add_zero
def vR:=@Bool.not_eq_true'
def vS:=@Nat.eq_zero_or_pos
def vT:=@Nat.add_assoc
def vU:=@Nat.zero_le
def vV:=@Nat.zero_mul
def vW:=@List.mem_map
def vX:=@Array.mem_toList_iff
def vY:=@List.drop_eq_getElem_cons
def vZ:=@List.getElem?_take
def wA:=@List.length_take
def wB:=@Nat.le_of_ble_eq_true
def wC:=@qG
def wD:=@Nat.succ_mul
def wE:=@Int.natCast_mul
def wF:=@Nat.zero_add
def wG:=@Array.getElem?_eq_getElem
def wH:=@beq_iff_eq
def wI:=@List.getElem?_drop
def wJ:=@Option.bind_eq_some_iff
def wK:=@Nat.one_mul
def wL:=@qI
def wM:=@List.mem_flatMap
def wN:=@if_true
def wO:=@List.mem_range
def wP:=@List.flatMap_cons
def wQ:=@Int.tdiv_eq_ediv_of_nonneg
def wS:=@beq_eq_false_iff_ne
def wT:=@List.replicate_succ
def wU:=@List.map_congr_left
def wV:=@Bool.or_eq_true
def wW:=@List.drop_length
def wX:=@Bool.false_eq_true
def wY:=@List.getElem?_cons_succ
def wZ:=@List.take_left'
def dC:=@Nat.mul_comm
def dD:=@List.ext_getElem
def dE:=@List.drop_left'
def dF:=@Nat.pow_le_pow_right
def dG:=@List.ext_getElem?
def dI:=@List.getElem_of_mem
def dJ:=@List.getElem?_range
def dK:=@Array.length_toList
def dL:=@List.drop_drop
def dM:=@Nat.sub_zero
def dN:=@Nat.lt_or_ge
def dO:=@Bool.true_or
def dP:=@List.length_map
def dQ:=@List.set_comm
def dR:=@Bool.false_or
def dS:=@Nat.mul_pos
def dT:=@Array.getElem?_append_left
def dU:=@Nat.mul_zero
def dV:=@List.map_cons
def dW:=@List.all_cons
def dZ:=@Bool.eq_false_or_eq_true
def rC:=@Nat.mod_lt
def rD:=@Nat.eq_or_lt_of_le
def rE:=@List.set_cons_succ
def rF:=@List.mem_filterMap
def rG:=@List.getElem?_cons_zero
def rH:=@List.take_append_drop
def rI:=@List.contains_iff_mem
def rJ:=@Array.getElem?_toList
def rK:=@Option.getD_some
def rL:=@List.drop_append
def rM:=@List.take_append_of_le_length
def rN:=@Int.le_refl
def rP:=@Array.toArray_toList
def rQ:=@List.map_append
def rS:=@List.drop_replicate
def rU:=@List.map_nil
def rV:=@List.set_cons_zero
def rW:=@List.mem_or_eq_of_mem_set
def rX:=@List.flatten_cons
def rY:=@Bool.and_true
def rZ:=@decide_eq_false_iff_not
def sA:=@Nat.le_mul_of_pos_right
def sC:=@List.mem_flatten
def sD:=@List.getElem?_replicate
def sE:=@List.flatMap_nil
def sF:=@List.elem_eq_mem
def sG:=@Nat.add_comm
def sI:=@Exists.intro
def sJ:=@List.range_succ
def sK:=@List.all_append
def sL:=@Nat.mul_one
def sM:=@List.getElem?_of_mem
def sN:=@Nat.mul_le_mul_left
def sO:=@List.take_replicate
def sP:=@List.drop_succ_cons
def sQ:=@false_implies
def sR:=@List.pairwise_cons
def sS:=@List.length_modify
def sT:=@Array.ext'
def sU:=@true_implies
def sV:=@if_false
def sW:=@Nat.gcd_comm
def sX:=@Bool.eq_false_iff
def sY:=@List.replicate_append_replicate
def sZ:=@Nat.mod_eq_of_lt
def mA:=@List.take_append
def mC:=@List.range'_succ
def mD:=@Nat.mul_eq_zero
def mE:=@Int.natCast_add
def mF:=@Array.getElem?_setIfInBounds
def mG:=@and_true
def mH:=@List.take_zero
def mI:=@List.take_take
def mJ:=@Int.mul_nonneg
def mK:=@Int.mul_le_mul
def mL:=@Int.fdiv_eq_ediv_of_nonneg
def mM:=@Bool.not_false
def mN:=@Bool.and_false
def mO:=@Bool.and_assoc
def mP:=@List.extract_eq_take_drop
def mQ:=@List.filterMap_cons_some
def mR:=@Int.ofNat_inj
def mS:=@forall_eq
def mT:=@Nat.mul_succ
def mU:=@List.length_eq_one_iff
def mV:=@List.all_nil
def mX:=@List.mem_iff_getElem?
def mY:=@List.filterMap_append
def mZ:=@List.pairwise_append
def nA:=@List.getElem?_append
def nB:=@List.drop_eq_nil_iff
def nC:=@Bool.or_eq_false_iff
def nD:=@BitVec.ofInt_natCast
def nE:=@List.mem_map_of_mem
def nF:=@List.flatten_append
def nG:=@List.flatMap_append
def nH:=@Int.toNat_of_nonneg
def nI:=@Array.toList_append
def nJ:=@Array.getElem?_push
end Go.Proofs.YtleejngibkbjnaaGreatDoor
namespace Go.Proofs.YtleejngibkbjnaaGreatDoor.Pm
def zAf:List (IntKind×Int):=[0,8,16,24,1,9,2,10,17,25,32,40,48,56,57,49,41,33,26,18,3,11,4,12,19,27,34,42,50,58,35,43,51,59,20,28,5,13,6,14,21,29,36,44,52,60,37,45,53,61,22,30,7,15,23,31,38,46,54,62,39,47,55,63].map λn=>(.i64,n)
def ztC:List (IntKind×Int):=[8,16,19,22,26,27,29,34,16,16,22,24,27,29,34,37,19,22,26,27,29,34,34,38,22,22,26,27,29,34,37,40,22,26,27,29,32,35,40,48,26,27,29,32,35,40,48,58,26,27,29,34,38,46,56,69,27,29,35,38,46,56,69,83].map λn=>(.u8,n)
def zyG(g:Nat):Option (List (IntKind×Int)):=
 if g=1 then some zAf else
 if g=0 then some ztC else
 none
end Go.Proofs.YtleejngibkbjnaaGreatDoor.Pm
namespace Go.Proofs.YtleejngibkbjnaaGreatDoor.Pm
open Go.RowKit
inductive PV where
 | int (k:IntKind) (n:Int)
 | bool (b:Bool)
 | str (s:List UInt8)
 | nilp
 | ptr (id ver off:Nat)
 | ip (xs:List PV) (off:Nat)
 | slice (xs:List PV) (len:Nat) (full:Bool)
 | msl (id ver off len sz:Nat) (g:Bool)
 | agg (cs:List PV)
 | tup (vs:List PV)
 | func (f:FuncId) (first captured:List PV)
 | mp (id ver:Nat)
 | nl (k:Nat)
 | yl (l:Nat) (us:List Value) (fs:List PV)
 | lp (l:Nat) (o:Obj)
 | undef
def PV.cell:PV->Bool
 | .agg _| .tup _| .undef| .lp _ _=>false
 | _=>true
def PV.cells:PV->List PV
 | .agg cs=>cs
 | v=>[v]
structure Blk where
 e:TypeId
 ver:Nat
 cells:List PV
abbrev za:=List Blk
structure Ctx where
 B:Nat
 M:Nat->Nat->Option Value
 mu:List (Option Nat)
 vs:List Nat
 cp:List Nat
 top:Nat
def nlV:Nat->Value
 | 0=>.nilFunc
 | 1=>.nilIface
 | 2=>.map none
 | g+3=>.pointer (some ⟨g,0,none⟩)
theorem zsT(k:Nat):(nlV k).oneCell'=true:=by unfold nlV;split<;>rfl
inductive VRel(C:Ctx):PV->Value->Prop where
 | nl (k:Nat):VRel C (.nl k) (nlV k)
 | yl {l:Nat} {us:List Value} {fs:List PV} (hl:us.length=fs.length) (hR:∀(j:Nat) (x:PV) (u:Value),fs[j]? =some x->us[j]? =some u->VRel C x u):VRel C (.yl l us fs) (.func (.yield l) #[] #[])
 | int (k:IntKind) (n:Int):VRel C (.int k n) (.int k n)
 | bool (b:Bool):VRel C (.bool b) (.bool b)
 | str (s:ByteArray):VRel C (.str s.data.toList) (.string s)
 | nilp:VRel C .nilp (.pointer none)
 | ptr {id ver off b:Nat} (hm:C.mu[id]? =some (some b)) (hv:C.vs[id]? =some ver):VRel C (.ptr id ver off) (.pointer (some ⟨b,off,none⟩))
 | ptrS {id ver off cur:Nat} (v:Value) (h1:v.oneCell'=true) (hv:C.vs[id]? =some cur) (hlt:ver<cur):VRel C (.ptr id ver off) v
 | ip {xs:List PV} {off b o:Nat} {us:List Value} (hl:us.length=xs.length) (hM:∀(j:Nat) (u:Value),us[j]? =some u->C.M b (o+j)=some u)
   (hc:∀ x∈xs,x.cell=true) (hR:∀(j:Nat) (x:PV) (u:Value),xs[j]? =some x->us[j]? =some u->VRel C x u):VRel C (.ip xs off) (.pointer (some ⟨b,o+off,none⟩))
 | slice {xs:List PV} {len cap b o:Nat} {full:Bool} {us:List Value} (hl:us.length=xs.length) (hM:∀(j:Nat) (u:Value),us[j]? =some u->C.M b (o+j)=some u)
   (hc:∀ x∈xs,x.cell=true) (hR:∀(j:Nat) (x:PV) (u:Value),xs[j]? =some x->us[j]? =some u->VRel C x u) (hcap:len<=cap) (hmax:cap<=maxLen) (hf:full=true->cap=len):
   VRel C (.slice xs len full) (.slice (some ⟨b,o,none⟩) len cap)
 | sliceN (ad:Option Addr) (full:Bool):VRel C (.slice [] 0 full) (.slice ad 0 0)
 | msl {id ver off len sz b cap:Nat} {g:Bool} (hm:C.mu[id]? =some (some b)) (hv:C.vs[id]? =some ver) (hcap:len<=cap) (hmax:cap<=maxLen)
   (hg:g=true->off=0/\C.cp[id]? =some (cap * sz)):VRel C (.msl id ver off len sz g) (.slice (some ⟨b,off,none⟩) len cap)
 | mslE {id ver off off' sz b cap:Nat} (hm:C.mu[id]? =some (some b)) (hv:C.vs[id]? =some ver) (hmax:cap<=maxLen):VRel C (.msl id ver off 0 sz false) (.slice (some ⟨b,off',none⟩) 0 cap)
 | mslG {id ver off sz:Nat} {g:Bool} (ad:Option Addr) (hm:C.mu[id]? =some none/\C.cp[id]? =some 0) (hv:C.vs[id]? =some ver):VRel C (.msl id ver off 0 sz g) (.slice ad 0 0)
 | mslS {id ver off len sz cur:Nat} {g:Bool} (v:Value) (h1:v.oneCell'=true) (hv:C.vs[id]? =some cur) (hlt:ver<cur):VRel C (.msl id ver off len sz g) v
 | mp {id ver b:Nat} (hm:C.mu[id]? =some none) (hv:C.vs[id]? =some ver) (hb:C.cp[id]? =some (b+1)):VRel C (.mp id ver) (.map (some b))
 | mpS {id ver cur:Nat} (v:Value) (h1:v.oneCell'=true) (hv:C.vs[id]? =some cur) (hlt:ver<cur):VRel C (.mp id ver) v
 | agg {cs:List PV} {us:List Value} (hl:us.length=cs.length) (hc:∀ x∈cs,x.cell=true) (hR:∀(j:Nat) (x:PV) (u:Value),cs[j]? =some x->us[j]? =some u->VRel C x u):VRel C (.agg cs) (.agg us.toArray)
 | tup {vs:List PV} {us:List Value} (hl:us.length=vs.length) (hR:∀(j:Nat) (x:PV) (u:Value),vs[j]? =some x->us[j]? =some u->VRel C x u):VRel C (.tup vs) (.tuple us.toArray)
 | func {f:FuncId} {fs cs:List PV} {us ws:List Value} (hl:us.length=fs.length) (hl':ws.length=cs.length)
   (hR:∀(j:Nat) (x:PV) (u:Value),fs[j]? =some x->us[j]? =some u->VRel C x u) (hR':∀(j:Nat) (x:PV) (u:Value),cs[j]? =some x->ws[j]? =some u->VRel C x u):VRel C (.func f fs cs) (.func (.func f) us.toArray ws.toArray)
 | undef (v:Value):VRel C .undef v
def VRels(C:Ctx)(xs:List PV)(us:List Value):Prop:=us.length=xs.length/\∀(j:Nat) (x:PV) (u:Value),xs[j]? =some x->us[j]? =some u->VRel C x u
structure CLe(C C':Ctx):Prop where
 B:C'.B=C.B
 M:∀ b o u,C.M b o=some u->C'.M b o=some u
 top:C'.top=C.top
 mnew:∀ b o u,C'.M b o=some u->C.M b o=some u\/C.top<=b\/some b∈C.mu
 unew:∀ b,some b∈C'.mu->some b∈C.mu\/C.top<=b
 ids:∀(id ver:Nat),C.vs[id]? =some ver->∃ ver',C'.vs[id]? =some ver'/\ver<=ver'/\(ver'=ver->C'.mu[id]? =C.mu[id]? /\C'.cp[id]? =C.cp[id]?)
theorem CLe.refl(C:Ctx):CLe C C:=⟨rfl,λ_ _ _ h=>h,rfl,λ_ _ _ h=>.inl h,λ_ h=>.inl h,λ_ ver h=>⟨ver,h,gV _,λ_=>⟨rfl,rfl⟩⟩⟩
theorem CLe.trans{C C' C'':Ctx}(h:CLe C C')(k:CLe C' C''):CLe C C'':=by
 refine⟨k.B.trans h.B,λb o u e=>k.M _ _ _ (h.M _ _ _ e),k.top.trans h.top,λb o u e=> ?_,λb e=> ?_,λid ver e=> ?_⟩
 .rcases k.mnew b o u e with e|e|e
  .exact h.mnew b o u e
  .exact .inr (.inl (by rw[<-h.top];exact e))
  .rcases h.unew b e with e|e;all_goals simp_all
 .rcases k.unew b e with e|e
  .exact h.unew b e
  .exact .inr (by rw[<-h.top];exact e)
 obtain⟨v1,e1,l1,q1⟩:=h.ids id ver e;obtain⟨v2,e2,l2,q2⟩:=k.ids id v1 e1;grind
theorem VRel.mono{C C':Ctx}(h:CLe C C'){x:PV}{u:Value}(r:VRel C x u):VRel C' x u:=by
 induction r with
 | nl k=>exact .nl k
 | yl hl _ ih=>exact .yl hl ih
 | int k n=>exact .int k n
 | bool b=>exact .bool b
 | str s=>exact .str s
 | nilp=>exact .nilp
 | ptr hm hv=>
  obtain⟨v',e,l,q⟩:=h.ids _ _ hv;rcases rD l with he|he
  .exact .ptr ((q he.symm).1.trans hm) (he▸e)
  .exact .ptrS _ rfl e he
 | ptrS v h1 hv hlt=>
  obtain⟨v',e,l,q⟩:=h.ids _ _ hv;exact .ptrS v h1 e (by omega)
 | ip hl hM hc _ ih=>exact .ip hl (λj u hu=>h.M _ _ _ (hM j u hu)) hc ih
 | slice hl hM hc _ hcap hmax hf ih=>exact .slice hl (λj u hu=>h.M _ _ _ (hM j u hu)) hc ih hcap hmax hf
 | sliceN ad full=>exact .sliceN ad full
 | msl hm hv hcap hmax hg=>
  obtain⟨v',e,l,q⟩:=h.ids _ _ hv;rcases rD l with he|he
  .exact .msl ((q he.symm).1.trans hm) (he▸e) hcap hmax (λhgt=>⟨(hg hgt).1,(q he.symm).2.trans (hg hgt).2⟩)
  .exact .mslS _ rfl e he
 | mslE hm hv hmax=>
  obtain⟨v',e,l,q⟩:=h.ids _ _ hv;rcases rD l with he|he
  .exact .mslE ((q he.symm).1.trans hm) (he▸e) hmax
  .exact .mslS _ rfl e he
 | mslG ad hm hv=>
  obtain⟨v',e,l,q⟩:=h.ids _ _ hv;rcases rD l with he|he
  .exact .mslG ad ⟨(q he.symm).1.trans hm.1,(q he.symm).2.trans hm.2⟩ (he▸e)
  .exact .mslS _ rfl e he
 | mslS v h1 hv hlt=>
  obtain⟨v',e,l,q⟩:=h.ids _ _ hv;exact .mslS v h1 e (by omega)
 | mp hm hv hb=>
  obtain⟨v',e,l,q⟩:=h.ids _ _ hv;rcases rD l with he|he
  .exact .mp ((q he.symm).1.trans hm) (he▸e) ((q he.symm).2.trans hb)
  .exact .mpS _ rfl e he
 | mpS v h1 hv hlt=>
  obtain⟨v',e,l,q⟩:=h.ids _ _ hv;exact .mpS v h1 e (by omega)
 | agg hl hc _ ih=>exact .agg hl hc ih
 | tup hl _ ih=>exact .tup hl ih
 | func hl hl' _ _ ih ih'=>exact .func hl hl' ih ih'
 | undef v=>exact .undef v
theorem VRel.oneCell{C:Ctx}{x:PV}{u:Value}(r:VRel C x u)(hc:x.cell=true):u.oneCell'=true:=by cases r<;>first|rfl|assumption|exact zsT _|(simp[PV.cell]at hc)
def zn0:Obj->Bool
 | .cells _ _ _=>true
 | _=>false
def zzh(C:Ctx)(w:World)(k:Blk)(p:Option Nat):Prop:=
 ∃(b:Nat) (es:Array MapEntry) (clock:Nat),p=some (b+1)/\C.B<=b/\w.heap[b]? =some (.map es clock)/\es.size=k.cells.length/\
  ∀(j:Nat) (x:PV) (e:MapEntry),k.cells[j]? =some x->es[j]? =some e->VRel C x (.tuple #[e.key,e.val])
def zzi(C:Ctx)(w:World)(k:Blk)(p:Option Nat):Prop:=∃(b:Nat) (o:Obj),p=some (b+1)/\C.B<=b/\w.heap[b]? =some o/\k.cells=[.lp b o]/\zn0 o=false
def MapAt(C:Ctx)(w:World)(k:Blk)(p:Option Nat):Prop:=zzh C w k p\/zzi C w k p
theorem MapAt.mono{C C':Ctx}(hle:CLe C C'){w w':World}{k:Blk}{p p':Option Nat}(hp:p'=p)(hw:∀(b:Nat) (o:Obj),zn0 o=false->p=some (b+1)->w.heap[b]? =some o->w'.heap[b]? =some o)(h:MapAt C w k p):MapAt C' w' k p':=by
 rcases h with⟨b,es,clock,q1,q2,q3,q4,q5⟩|⟨b,r,q1,q2,q3,q4⟩
 .exact .inl ⟨b,es,clock,hp.trans q1,by rw[hle.B];exact q2,hw b _ rfl q1 q3,q4,λj x e hx he=>(q5 j x e hx he).mono hle⟩
 .exact .inr ⟨b,r,hp.trans q1,by rw[hle.B];exact q2,hw b _ q4.2 q1 q3,q4⟩
theorem MapAt.lt{C:Ctx}{w:World}{k:Blk}{b:Nat}(h:MapAt C w k (some (b+1))):b<w.heap.size:=by
 rcases h with⟨b',es,clock,q1,q2,q3,q4,q5⟩|⟨b',r,q1,q2,q3,q4⟩<;>
 grind
def Glob(M:Nat->Nat->Option Value):Prop:=∀(g:Nat) (l:List (IntKind×Int)),zyG g=some l->∀(j:Nat) (x:IntKind×Int),l[j]? =some x->M g j=some (.int x.1 x.2)
theorem Glob.mono{M M':Nat->Nat->Option Value}(h:Glob M)(hle:∀ b o u,M b o=some u->M' b o=some u):Glob M':=λg l hg j x hx=>hle _ _ _ (h g l hg j x hx)
structure WRel(C:Ctx)(H:za)(w:World):Prop where
 gl:Glob C.M
 base:C.B<=w.heap.size
 tople:C.top<=w.heap.size
 imm:∀ b o u,C.M b o=some u->w.cell? ⟨b,o,none⟩=some u
 len:C.mu.length=H.length
 lenv:C.vs.length=H.length
 lenc:C.cp.length=H.length
 ver:∀(id:Nat) (k:Blk),H[id]? =some k->C.vs[id]? =some k.ver
 gho:∀(id:Nat) (k:Blk),H[id]? =some k->C.mu[id]? =some none->(C.cp[id]? =some 0/\k.cells=[])\/MapAt C w k C.cp[id]?
 own:∀(id:Nat) (k:Blk) (b:Nat),H[id]? =some k->C.mu[id]? =some (some b)->∃ cur,C.cp[id]? =some cur.size/\C.B<=b/\
  w.heap[b]? =some (.cells cur k.e (0,0))/\(∀ x∈k.cells,x.cell=true)/\k.cells.length<=cur.size/\∀(j:Nat) (x:PV) (u:Value),k.cells[j]? =some x->cur[j]? =some u->VRel C x u
 disj:∀(id b:Nat),C.mu[id]? =some (some b)->∀ o,C.M b o=none
 inj:∀(i j b:Nat),C.mu[i]? =some (some b)->C.mu[j]? =some (some b)->i=j
 minj:∀(i j b:Nat),C.mu[i]? =some none->C.mu[j]? =some none->C.cp[i]? =some (b+1)->C.cp[j]? =some (b+1)->i=j
attribute [go_sem_proc ↓] reduceIte
attribute [go_sem_proc] reduceCtorEq
theorem om{p:Prop}(h:p:=by omega):p:=h
theorem kr{p:Prop}(h:p:=by kernel_rfl):p:=h
theorem sp{p:Prop}(h:p:=by simp):p:=h
theorem ot{p q:Prop}[Decidable p](h:decide p=true)(k:p->q:=by(intro h;omega)):q:=k (vF h)
theorem ofF{p q:Prop}[Decidable p](h:decide p=false)(k:¬ p->q:=by(intro h;omega)):q:=k (vH h)
variable {C:Ctx} {H:za} {w:World}
theorem WRel.mu_lt(h:WRel C H w){id b:Nat}(hm:C.mu[id]? =some (some b)):b<w.heap.size:=by
 have hid:id<H.length:=by have:=(gA.1 hm).1;have:=h.len;omega
 obtain⟨cur,_,_,hb,_⟩:=h.own id H[id] b (gG hid) hm;grind
theorem WRel.imm_lt(h:WRel C H w){b o:Nat}{u:Value}(hm:C.M b o=some u):b<w.heap.size:=World.block_lt_of_cell? w ⟨b,o,none⟩ (h.imm b o u hm)
theorem WRel.map_lt(h:WRel C H w){id b:Nat}(hm:C.mu[id]? =some none)(hc:C.cp[id]? =some (b+1)):b<w.heap.size:=by
 have hid:id<H.length:=by have:=(gA.1 hm).1;have:=h.len;omega
 rcases h.gho id H[id] (gG hid) hm with⟨h1,_⟩|h1
 .simp_all
 .rw[hc]at h1;exact h1.lt
theorem WRel.heap(h:WRel C H w){w':World}(he:w'.heap=w.heap):WRel C H w':=by
 have hcell:∀ a,w'.cell? a=w.cell? a:=λa=>by simp[World.cell?,he]
 exact⟨h.gl,by rw[he];exact h.base,by rw[he];exact h.tople,λb o u hu=>(hcell _).trans (h.imm b o u hu),h.len,h.lenv,h.lenc,h.ver,λid k hk hm=>(h.gho id k hk hm).imp_right (λm=>m.mono (.refl _) rfl (λb es c _ hb=>by rw[he];exact hb)),λid k b hk=>by rw[he];exact h.own id k b hk,h.disj,h.inj,h.minj⟩
theorem WRel.drew(h:WRel C H w):WRel C H w.drew:=h.heap rfl
def Ctx.more(C:Ctx)(b:Option Nat)(n:Nat)(v:Nat:=0):Ctx:={ C with mu:=C.mu++[b],vs:=C.vs++[v],cp:=C.cp++[n] }
theorem Ctx.le_more(C:Ctx)(b:Option Nat)(n v:Nat)(hb:∀ b',b=some b'->C.top<=b')(h1:C.mu.length=C.vs.length)(h2:C.cp.length=C.vs.length):CLe C (C.more b n v):=by refine⟨rfl,λ_ _ _ h=>h,rfl,λ_ _ _ h=>.inl h,λb' h=> ?_,λid ver h=>⟨ver,?_,gV _,λ_=>⟨?_,?_⟩⟩⟩;all_goals grind[Ctx.more,List.mem_singleton,qD.1,qE]
theorem zE{α:Type}{l:List α}{a x:α}{i:Nat}(h:(l++[a])[i]? =some x):(i<l.length/\l[i]? =some x)\/(i=l.length/\x=a):=by grind
theorem zeN(h:WRel C H w){b:Option Nat}{n v:Nat}(hn:∀(p:Nat),b=none->n=p+1->∀(i:Nat),C.mu[i]? =some none->C.cp[i]? ≠some (p+1))(i j p:Nat)(hi:(C.more b n v).mu[i]? =some none)(hj:(C.more b n v).mu[j]? =some none)
  (ci:(C.more b n v).cp[i]? =some (p+1)) (cj:(C.more b n v).cp[j]? =some (p+1)):i=j:=by
 have e1:=h.len;have e3:=h.lenc;simp only[Ctx.more]at hi hj ci cj;rcases zE hi with⟨li,hi⟩|⟨li,hi⟩<;>rcases zE hj with⟨lj,hj⟩|⟨lj,hj⟩<;>rcases zE ci with⟨mi,ci⟩|⟨mi,ci⟩<;>rcases zE cj with⟨mj,cj⟩|⟨mj,cj⟩<;>first
  | omega
  | exact h.minj i j p hi hj ci cj
  | exact absurd ci (hn p hj.symm cj.symm i hi)
  | exact absurd cj (hn p hi.symm ci.symm j hj)
theorem WRel.allocOwn(h:WRel C H w)(cur:Array Value)(e:TypeId)(xs:List PV)(v:Nat)(hc:∀ x∈xs,x.cell=true)(hl:xs.length<=cur.size)
  (hR:∀(j:Nat) (x:PV) (u:Value),xs[j]? =some x->cur[j]? =some u->VRel C x u):
  CLe C (C.more (some w.heap.size) cur.size v)/\WRel (C.more (some w.heap.size) cur.size v) (H++[⟨e,v,xs⟩]) (w.alloc (.cells cur e))/\Below C.B w (w.alloc (.cells cur e)):=by
 have hle:CLe C (C.more (some w.heap.size) cur.size v):=C.le_more _ _ _ (λb' e=>by injection e with e;rw[<-e];exact h.tople) (h.len.trans h.lenv.symm) (h.lenc.trans h.lenv.symm);refine⟨hle,?_,(Below.refl _ _).alloc h.base _⟩;have e1:=h.len;have e2:=h.lenv;have e3:=h.lenc;refine⟨h.gl.mono hle.M,?_,?_,?_,?_,?_,?_,?_,?_,?_,?_,?_,zeN h (λ_ hp=>by cases hp)⟩
 .have:=h.base;simp only[Ctx.more,World.size_alloc];omega
 .have:=h.tople;simp only[Ctx.more,World.size_alloc];omega
 .intro b o u hu;have hb:=h.imm_lt (o:=o) hu;exact(World.cell?_alloc_lt w _ ⟨b,o,none⟩ hb).trans (h.imm b o u hu)
 .simp[Ctx.more,e1]
 .simp[Ctx.more,e2]
 .simp[Ctx.more,e3]
 .intro id k hk;simp only[Ctx.more];rcases zE hk with⟨hid,hk⟩|⟨rfl,rfl⟩
  .rw[gK om];exact h.ver id k hk
  .simp[<-e2]
 .intro id k hk hm;simp only[Ctx.more]at hm |-;rcases zE hk with⟨hid,hk⟩|⟨rfl,rfl⟩
  .rw[gK om]at hm |-;exact(h.gho id k hk hm).imp_right (λm=>m.mono hle rfl (λb es c hp hb=>by rw[Below.heap_alloc _ _ _ (vJ.1 hb).1];exact hb))
  .simp[<-e1]at hm
 .intro id k b hk hm;simp only[Ctx.more]at hm |-;rcases zE hk with⟨hid,hk⟩|⟨rfl,rfl⟩
  .rw[gK om]at hm;obtain⟨c,q3,q4,q5,q6,q7,q8⟩:=h.own id k b hk hm;exact⟨c,by rw[gK om];exact q3,q4,by rw[Below.heap_alloc _ _ _ (h.mu_lt hm)];exact q5,q6,q7,λj x u hx hu=>(q8 j x u hx hu).mono hle⟩
  .simp[<-e1]at hm;subst hm;exact⟨cur,by simp[<-e3],h.base,heap_alloc_new w _,hc,hl,λj x u hx hu=>(hR j x u hx hu).mono hle⟩
 .intro id b hb o;simp only[Ctx.more]at hb |-;rcases zE hb with⟨hid,hb1⟩|⟨rfl,hb1⟩
  .exact h.disj id b hb1 o
  .injection hb1 with hb1;subst hb1;cases hM:C.M w.heap.size o with
   | none=>rfl
   | some u=>exact absurd (h.imm_lt hM) om
 .intro i j b hi hj;simp only[Ctx.more]at hi hj;rcases zE hi with⟨li,hi⟩|⟨li,hi⟩<;>rcases zE hj with⟨lj,hj⟩|⟨lj,hj⟩
  .exact h.inj i j b hi hj
  .injection hj with hj;subst hj;exact absurd (h.mu_lt hi) om
  .injection hi with hi;subst hi;exact absurd (h.mu_lt hj) om
  .omega
theorem WRel.ghost(h:WRel C H w)(e v:Nat):CLe C (C.more none 0 v)/\WRel (C.more none 0 v) (H++[⟨e,v,[]⟩]) w:=by
 have hle:CLe C (C.more none 0 v):=C.le_more _ _ _ (λb' e=>by cases e) (h.len.trans h.lenv.symm) (h.lenc.trans h.lenv.symm);refine⟨hle,?_⟩;have e1:=h.len;have e2:=h.lenv;have e3:=h.lenc;refine⟨h.gl,h.base,h.tople,h.imm,?_,?_,?_,?_,?_,?_,?_,?_,zeN h (λ_ _ hc=>by cases hc)⟩
 .simp[Ctx.more,e1]
 .simp[Ctx.more,e2]
 .simp[Ctx.more,e3]
 .intro id k hk;simp only[Ctx.more];rcases zE hk with⟨hid,hk⟩|⟨rfl,rfl⟩
  .rw[gK om];exact h.ver id k hk
  simp_all
 .intro id k hk hm;simp only[Ctx.more]at hm |-;rcases zE hk with⟨hid,hk⟩|⟨rfl,rfl⟩
  .rw[gK om]at hm |-;exact(h.gho id k hk hm).imp_right (λm=>m.mono hle rfl (λb es c hp hb=>hb))
  simp_all
 .intro id k b hk hm;simp only[Ctx.more]at hm |-;rcases zE hk with⟨hid,hk⟩|⟨rfl,rfl⟩
  .rw[gK om]at hm;obtain⟨c,q3,q4,q5,q6,q7,q8⟩:=h.own id k b hk hm;exact⟨c,by rw[gK om];exact q3,q4,q5,q6,q7,λj x u hx hu=>(q8 j x u hx hu).mono hle⟩
  simp_all
 .intro id b hb o;simp only[Ctx.more]at hb |-;rcases zE hb with⟨hid,hb1⟩|⟨rfl,hb1⟩
  .exact h.disj id b hb1 o
  .cases hb1
 .intro i j b hi hj;simp only[Ctx.more]at hi hj;rcases zE hi with⟨li,hi⟩|⟨li,hi⟩<;>rcases zE hj with⟨lj,hj⟩|⟨lj,hj⟩
  .exact h.inj i j b hi hj
  all_goals simp_all
def Ctx.imm(C:Ctx)(b:Nat)(cur:Array Value):Ctx:={ C with M:=λb' o=>if b'=b then cur[o]? else C.M b' o }
theorem WRel.allocImm(h:WRel C H w)(cur:Array Value)(e:TypeId):
  CLe C (C.imm w.heap.size cur)/\WRel (C.imm w.heap.size cur) H (w.alloc (.cells cur e))/\Below C.B w (w.alloc (.cells cur e)):=by
 have hle:CLe C (C.imm w.heap.size cur):=by
  refine⟨rfl,λb o u hu=> ?_,rfl,λb o u hu=> ?_,λ_ h=>.inl h,λid ver hv=>⟨ver,hv,gV _,λ_=>⟨rfl,rfl⟩⟩⟩
  .have:=h.imm_lt hu;grind[Ctx.imm]
  .simp only[Ctx.imm]at hu;split at hu
   .rename_i hb;exact .inr (.inl (by rw[hb];exact h.tople))
   simp_all
 refine⟨hle,?_,(Below.refl _ _).alloc h.base _⟩;refine⟨h.gl.mono hle.M,?_,?_,?_,h.len,h.lenv,h.lenc,h.ver,λid k hk hm=>(h.gho id k hk hm).imp_right (λm=>m.mono hle rfl (λb es c hp hb=>by rw[Below.heap_alloc _ _ _ (vJ.1 hb).1];exact hb)),?_,?_,h.inj,h.minj⟩
 .have:=h.base;simp only[Ctx.imm,World.size_alloc];omega
 .have:=h.tople;simp only[Ctx.imm,World.size_alloc];omega
 .intro b o u hu;simp only[Ctx.imm]at hu;by_cases hb:b=w.heap.size
  .subst hb;simp only[wN]at hu;rw[World.cell?_alloc_at _ _ _ _ rfl];exact hu
  .rw[gC hb]at hu;exact(World.cell?_alloc_lt w _ ⟨b,o,none⟩ (h.imm_lt hu)).trans (h.imm b o u hu)
 .intro id k b hk hm;obtain⟨c,q3,q4,q5,q6,q7,q8⟩:=h.own id k b hk hm;exact⟨c,q3,q4,by rw[Below.heap_alloc _ _ _ (h.mu_lt hm)];exact q5,q6,q7,λj x u hx hu=>(q8 j x u hx hu).mono hle⟩
 .intro id b hb o;have:=h.mu_lt hb;simp only[Ctx.imm];rw[gC om];exact h.disj id b hb o
theorem zoP{k:Blk}{id ver':Nat}(hver:k.ver<=ver')(hk:H[id]? =some k)(h:WRel C H w)(mu':List (Option Nat))(cp':List Nat)(hmu:∀ i,i≠id->mu'[i]? =C.mu[i]? /\cp'[i]? =C.cp[i]?)(hun:∀ b,some b∈mu'->some b∈C.mu\/C.top<=b)
  (hs:k.ver=ver'->mu'[id]? =C.mu[id]? /\cp'[id]? =C.cp[id]?):CLe C { C with mu:=mu',vs:=C.vs.set id ver',cp:=cp' }:=by
 have hid:id<H.length:=(gA.1 hk).1;have p2:=h.ver id k hk;have e2:=h.lenv;refine⟨rfl,λ_ _ _ hu=>hu,rfl,λ_ _ _ h=>.inl h,hun,λi ver hv=> ?_⟩;by_cases hi:i=id
 .subst hi;rw[p2]at hv;injection hv with hv;exact⟨ver',by simp[e2,hid],om,λhe=>hs om⟩
 .exact⟨ver,by simp only[vG];rw[gC om];exact hv,gV _,λ_=>hmu i hi⟩
theorem WRel.write(h:WRel C H w){id b:Nat}{k:Blk}{cur:Array Value}(hk:H[id]? =some k)(hm:C.mu[id]? =some (some b))(hb:w.heap[b]? =some (.cells cur k.e (0,0)))
  (ver':Nat) (hver:k.ver<=ver') (xs:List PV) (cur':Array Value) (hsz:cur'.size=cur.size) (hc:∀ x∈xs,x.cell=true) (hl:xs.length<=cur'.size)
  (hR:∀(j:Nat) (x:PV) (u:Value),xs[j]? =some x->cur'[j]? =some u->VRel C x u):
  CLe C { C with vs:=C.vs.set id ver' }/\WRel { C with vs:=C.vs.set id ver' } (H.set id ⟨k.e,ver',xs⟩) (w.setRow b cur')/\Below C.B w (w.setRow b cur'):=by
 have hid:id<H.length:=(gA.1 hk).1;obtain⟨cur0,p3,p4,p5,_⟩:=h.own id k b hk hm;rw[hb]at p5;injection p5 with p5;injection p5 with p5;subst p5;have e1:=h.len;have e2:=h.lenv;have e3:=h.lenc;have hle:CLe C { C with vs:=C.vs.set id ver' }:=zoP hver hk h C.mu C.cp (λ_ _=>⟨rfl,rfl⟩) (λ_ h=>.inl h) (λ_=>⟨rfl,rfl⟩);refine⟨hle,?_,?_⟩
 .refine⟨h.gl,?_,?_,?_,?_,?_,?_,?_,?_,?_,h.disj,h.inj,h.minj⟩
  .have:=h.base;simp[World.setRow];exact this
  .have:=h.tople;simp[World.setRow];exact this
  .intro b' o u hu;have hne:b'≠b:=by rintro rfl;have:=h.disj id b' hm o;simp_all
   exact(cell_setRow_other w b cur' ⟨b',o,none⟩ hne).trans (h.imm b' o u hu)
  .simp[e1]
  .simp[e2]
  .simp[e3]
  .intro i k' hk';by_cases hi:i=id
   .subst hi;simp[hid]at hk';subst hk';simp[e2,hid]
   .rw[gR om]at hk';rw[gR om];exact h.ver i k' hk'
  .intro i k' hk' hm';by_cases hi:i=id
   .subst hi;rw[hm]at hm';cases hm'
   .rw[gR om]at hk';exact(h.gho i k' hk' hm').imp_right (λm=>m.mono hle rfl (λb2 es c hp hb2=>by
     have hne:b2≠b:=by rintro rfl;rw[hb]at hb2;injection hb2 with hb2;subst hb2;cases c
     rw[setRow_other w b b2 cur' hne];exact hb2))
  .intro i k' b' hk' hm';by_cases hi:i=id
   .subst hi;simp[hid]at hk';subst hk';rw[hm]at hm';injection hm' with hm';injection hm' with hm';subst hm';exact⟨cur',by rw[hsz];exact p3,p4,setRow_heap w b cur cur' k.e _ hb,hc,hl,λj x u hx hu=>(hR j x u hx hu).mono hle⟩
   .rw[gR om]at hk';obtain⟨c,q3,q4,q5,q6,q7,q8⟩:=h.own i k' b' hk' hm';have hne:b'≠b:=by rintro rfl;exact hi (h.inj i id b' hm' hm)
    exact⟨c,q3,q4,by rw[setRow_other w b b' cur' hne];exact q5,q6,q7,λj x u hx hu=>(q8 j x u hx hu).mono hle⟩
 .refine⟨rfl,rfl,rfl,by simp[World.setRow],λi hi=>setRow_other w b i cur' om⟩
theorem WRel.move(h:WRel C H w){id:Nat}{k:Blk}(hk:H[id]? =some k)(ver':Nat)(hver:k.ver<ver')(xs:List PV)(cur':Array Value)(hc:∀ x∈xs,x.cell=true)(hl:xs.length<=cur'.size)
  (hR:∀(j:Nat) (x:PV) (u:Value),xs[j]? =some x->cur'[j]? =some u->VRel C x u):
  CLe C { C with mu:=C.mu.set id (some w.heap.size),vs:=C.vs.set id ver',cp:=C.cp.set id cur'.size }/\
  WRel { C with mu:=C.mu.set id (some w.heap.size),vs:=C.vs.set id ver',cp:=C.cp.set id cur'.size } (H.set id ⟨k.e,ver',xs⟩) (w.alloc (.cells cur' k.e))/\
  Below C.B w (w.alloc (.cells cur' k.e)):=by
 have hid:id<H.length:=(gA.1 hk).1;have e1:=h.len;have e2:=h.lenv;have e3:=h.lenc;have hle:CLe C { C with mu:=C.mu.set id (some w.heap.size),vs:=C.vs.set id ver',cp:=C.cp.set id cur'.size }:=
  zoP om hk h _ _ (λi hi=>⟨gR om,gR om⟩) (λb hb=>by
   rcases rW hb with hb|hb
   .exact .inl hb
   .injection hb with hb;exact .inr (by rw[hb];exact h.tople)) (λhe=>om)
 refine⟨hle,?_,(Below.refl _ _).alloc h.base _⟩;refine⟨h.gl,?_,?_,?_,?_,?_,?_,?_,?_,?_,?_,?_,?_⟩
 .have:=h.base;simp only[World.size_alloc];omega
 .have:=h.tople;simp only[World.size_alloc];omega
 .intro b o u hu;exact(World.cell?_alloc_lt w _ ⟨b,o,none⟩ (h.imm_lt hu)).trans (h.imm b o u hu)
 .simp[e1]
 .simp[e2]
 .simp[e3]
 .intro i k' hk';by_cases hi:i=id
  .subst hi;simp[hid]at hk';subst hk';simp[e2,hid]
  .rw[gR om]at hk';rw[gR om];exact h.ver i k' hk'
 .intro i k' hk' hm';by_cases hi:i=id
  .subst hi;simp[e1,hid]at hm'
  .rw[gR om]at hk' hm';rw[gR om];exact(h.gho i k' hk' hm').imp_right (λm=>m.mono hle rfl (λb es c hp hb=>by rw[Below.heap_alloc _ _ _ (vJ.1 hb).1];exact hb))
 .intro i k' b' hk' hm';by_cases hi:i=id
  .subst hi;simp[hid]at hk';subst hk';simp[e1,hid]at hm';subst hm';exact⟨cur',by simp[e3,hid],h.base,heap_alloc_new w _,hc,hl,λj x u hx hu=>(hR j x u hx hu).mono hle⟩
  .rw[gR om]at hk' hm';obtain⟨c,q3,q4,q5,q6,q7,q8⟩:=h.own i k' b' hk' hm';exact⟨c,by rw[gR om];exact q3,q4,by rw[Below.heap_alloc _ _ _ (h.mu_lt hm')];exact q5,q6,q7,λj x u hx hu=>(q8 j x u hx hu).mono hle⟩
 .intro i b hb o;by_cases hi:i=id
  .subst hi;simp[e1,hid]at hb;subst hb;cases hM:C.M w.heap.size o with
   | none=>rfl
   | some u=>exact absurd (h.imm_lt hM) om
  .simp only[gR (by omega:id≠i)]at hb;exact h.disj i b hb o
 .intro i j b hbi hbj;by_cases hi:i=id<;>by_cases hj:j=id
  .omega
  .subst hi;simp[e1,hid]at hbi;simp only[gR (by omega:i≠j)]at hbj;subst hbi;exact absurd (h.mu_lt hbj) om
  .subst hj;simp[e1,hid]at hbj;simp only[gR (by omega:j≠i)]at hbi;subst hbj;exact absurd (h.mu_lt hbi) om
  .simp only[gR (by omega:id≠i)]at hbi;simp only[gR (by omega:id≠j)]at hbj;exact h.inj i j b hbi hbj
 .have ne:∀{i:Nat},(C.mu.set id (some w.heap.size))[i]? =some none->id≠i/\C.mu[i]? =some none:=fun{i} h=>by grind
  intro i j b mi mj ci cj;simp only[gR (ne mi).1]at ci;simp only[gR (ne mj).1]at cj;exact h.minj i j b (ne mi).2 (ne mj).2 ci cj
theorem WRel.allocMap(h:WRel C H w)(e v:Nat):CLe C (C.more none (w.heap.size+1) v)/\WRel (C.more none (w.heap.size+1) v) (H++[⟨e,v,[]⟩]) (w.alloc (.map #[] 0))/\Below C.B w (w.alloc (.map #[] 0)):=by
 have hle:CLe C (C.more none (w.heap.size+1) v):=C.le_more _ _ _ (λb' e=>by cases e) (h.len.trans h.lenv.symm) (h.lenc.trans h.lenv.symm);refine⟨hle,?_,(Below.refl _ _).alloc h.base _⟩;have e1:=h.len;have e2:=h.lenv;have e3:=h.lenc;refine⟨h.gl.mono hle.M,?_,?_,?_,?_,?_,?_,?_,?_,?_,?_,?_,zeN h (λp _ hp i hi hc=> ?_)⟩
 .have:=h.base;simp only[Ctx.more,World.size_alloc];omega
 .have:=h.tople;simp only[Ctx.more,World.size_alloc];omega
 .intro b o u hu;have hb:=h.imm_lt (o:=o) hu;exact(World.cell?_alloc_lt w _ ⟨b,o,none⟩ hb).trans (h.imm b o u hu)
 .simp[Ctx.more,e1]
 .simp[Ctx.more,e2]
 .simp[Ctx.more,e3]
 .intro id k hk;simp only[Ctx.more];rcases zE hk with⟨hid,hk⟩|⟨rfl,rfl⟩
  .rw[gK om];exact h.ver id k hk
  simp_all
 .intro id k hk hm;simp only[Ctx.more]at hm |-;rcases zE hk with⟨hid,hk⟩|⟨rfl,rfl⟩
  .rw[gK om]at hm |-;exact(h.gho id k hk hm).imp_right (λm=>m.mono hle rfl (λb es c hp hb=>by rw[Below.heap_alloc _ _ _ (vJ.1 hb).1];exact hb))
  .exact .inr (.inl ⟨w.heap.size,#[],0,by simp[<-e3],h.base,heap_alloc_new w _,rfl,λj x e hx=>by simp at hx⟩)
 .intro id k b hk hm;simp only[Ctx.more]at hm |-;rcases zE hk with⟨hid,hk⟩|⟨rfl,rfl⟩
  .rw[gK om]at hm;obtain⟨c,q3,q4,q5,q6,q7,q8⟩:=h.own id k b hk hm;exact⟨c,by rw[gK om];exact q3,q4,by rw[Below.heap_alloc _ _ _ (h.mu_lt hm)];exact q5,q6,q7,λj x u hx hu=>(q8 j x u hx hu).mono hle⟩
  simp_all
 .intro id b hb o;simp only[Ctx.more]at hb |-;rcases zE hb with⟨hid,hb1⟩|⟨rfl,hb1⟩
  .exact h.disj id b hb1 o
  .cases hb1
 .intro i j b hi hj;simp only[Ctx.more]at hi hj;rcases zE hi with⟨li,hi⟩|⟨li,hi⟩<;>rcases zE hj with⟨lj,hj⟩|⟨lj,hj⟩
  .exact h.inj i j b hi hj
  all_goals simp_all
 .have:=h.map_lt hi hc;omega
theorem WRel.mapSet(h:WRel C H w){id b:Nat}{k:Blk}{es:Array MapEntry}{clock:Nat}(hk:H[id]? =some k)(hm:C.mu[id]? =some none)(hp:C.cp[id]? =some (b+1))(hb:w.heap[b]? =some (.map es clock))(es':Array MapEntry)(clock':Nat)(cs:List PV)(hs:es'.size=cs.length)
  (hR:∀(j:Nat) (x:PV) (e:MapEntry),cs[j]? =some x->es'[j]? =some e->VRel C x (.tuple #[e.key,e.val])):
  WRel C (H.set id ⟨k.e,k.ver,cs⟩) { w with heap:=w.heap.setIfInBounds b (.map es' clock') }/\Below C.B w { w with heap:=w.heap.setIfInBounds b (.map es' clock') }:=by
 have hid:id<H.length:=(gA.1 hk).1;have hbl:b<w.heap.size:=(vJ.1 hb).1;have e1:=h.len;have e2:=h.lenv;have e3:=h.lenc;have oth:∀ b',b'≠b->(w.heap.setIfInBounds b (.map es' clock'))[b']? =w.heap[b']? :=λb' hne=>by grind
 have hB:C.B<=b:=by rcases h.gho id k hk hm with⟨h1,_⟩|⟨b',_,_,h1,h2,_⟩|⟨b',_,h1,h2,_⟩;all_goals simp_all
 refine⟨⟨h.gl,?_,?_,?_,?_,?_,?_,?_,?_,?_,h.disj,h.inj,h.minj⟩,rfl,rfl,rfl,by simp,λi hi=>oth i om⟩
 .have:=h.base;simpa using this
 .have:=h.tople;simpa using this
 .intro b' o u hu;have hc:=h.imm b' o u hu;have hne:b'≠b:=by rintro rfl;simp[World.cell?,hb]at hc
  simp only[World.cell?]at hc |-;rw[oth b' hne];exact hc
 .simp[e1]
 .simp[e2]
 .simp[e3]
 .intro i k' hk';by_cases hi:i=id
  .subst hi;simp[hid]at hk';subst hk';exact h.ver i k hk
  .rw[gR om]at hk';exact h.ver i k' hk'
 .intro i k' hk' hm';by_cases hi:i=id
  .subst hi;simp[hid]at hk';subst hk';exact .inr (.inl ⟨b,es',clock',hp,hB,by simp[hbl],hs,hR⟩)
  .rw[gR om]at hk';exact(h.gho i k' hk' hm').imp_right (λm=>m.mono (.refl _) rfl (λb2 es2 c2 hp2 hb2=>by
    have hne:b2≠b:=by rintro rfl;exact hi (h.minj i id b2 hm' hm hp2 hp)
    rw[oth b2 hne];exact hb2))
 .intro i k' b' hk' hm';by_cases hi:i=id
  .subst hi;rw[hm]at hm';cases hm'
  .rw[gR om]at hk';obtain⟨c,q3,q4,q5,q6,q7,q8⟩:=h.own i k' b' hk' hm';have hne:b'≠b:=by grind
   exact⟨c,q3,q4,by rw[oth b' hne];exact q5,q6,q7,q8⟩
end Go.Proofs.YtleejngibkbjnaaGreatDoor.Pm
namespace Go.Proofs.YtleejngibkbjnaaGreatDoor.Pm
open Go.RowKit
abbrev Fr:=List (Nat×PV)
def slot:Fr->Nat->PV
 | [],_=>.undef
 | (k,v)::r,t=>match qB k t with|true=>v|false=>slot r t
def put(F:Fr)(d:Option Nat)(v:PV):Fr:=match d with|none=>F|some d=>(d,v)::F
def pv1:Value->PV
 | .int k n=>.int k n
 | .bool b=>.bool b
 | .string s=>.str s.data.toList
 | .pointer none=>.nilp
 | .slice none 0 0=>.slice [] 0 true
 | .nilFunc=>.nl 0
 | .nilIface=>.nl 1
 | .map none=>.nl 2
 | _=>.undef
def pvc:Value->PV
 | .agg cs=>match (cs.toList.map pv1).all PV.cell with|true=>.agg (cs.toList.map pv1)|false=>.undef
 | .tuple vs=>.tup (vs.toList.map pv1)
 | v=>pv1 v
def ev(F:Nat->PV):Operand->PV
 | .tmp t=>F t
 | .const v=>pvc v
 | .func f=>.func f [] []
 | .global g=>.nl (g+3)
def szT(P:Program)(t:TypeId):Option Nat:=(P.info? t).map (·.size)
def byT(P:Program)(t:TypeId):Option Nat:=(P.info? t).map (·.bytes)
def zrT(P:Program)(t:TypeId):Option PV:=(P.info? t).bind λi=>i.zero.map pvc
def zd1(P:Program)(t:TypeId):Option Bool:=
 match P.underlying t with
 | some (.struct _)=>some true
 | some (.array _ _)=>some true
 | some _=>some false
 | none=>none
def ze3(H:za)(id ver:Nat):Bool:=match H[id]? with|some k=>qB k.ver ver|none=>false
def za7(op:BinOp)(k:IntKind)(a:Int)(k':IntKind)(b:Int):Option PV:=
 match op with
 | .shl=>if b<0 then none else some (.int k (k.wrap (a * 2^min b.toNat k.bits)))
 | .shr=>if b<0 then none else some (.int k (a.fdiv (2^min b.toNat k.bits)))
 | .add=>if k=k' then some (.int k (k.wrap (a+b)))else none
 | .sub=>if k=k' then some (.int k (k.wrap (a - b)))else none
 | .mul=>if k=k' then some (.int k (k.wrap (a * b)))else none
 | .quo=>if k=k' then(if b=0 then none else some (.int k (k.wrap (a.tdiv b))))else none
 | .rem=>if k=k' then(if b=0 then none else some (.int k (a.tmod b)))else none
 | .and=>if k=k' then some (.int k (k.wrap (BitVec.ofInt k.bits a&&& BitVec.ofInt k.bits b).toNat))else none
 | .or=>if k=k' then some (.int k (k.wrap (BitVec.ofInt k.bits a|||BitVec.ofInt k.bits b).toNat))else none
 | .xor=>if k=k' then some (.int k (k.wrap (BitVec.ofInt k.bits a^^^BitVec.ofInt k.bits b).toNat))else none
 | .andNot=>if k=k' then some (.int k (k.wrap (BitVec.ofInt k.bits a&&& ~~~BitVec.ofInt k.bits b).toNat))else none
 | .eql=>if k=k' then some (.bool (a==b))else none
 | .neq=>if k=k' then some (.bool (a !=b))else none
 | .lss=>if k=k' then some (.bool (decide (a<b)))else none
 | .leq=>if k=k' then some (.bool (decide (a<=b)))else none
 | .gtr=>if k=k' then some (.bool (decide (b<a)))else none
 | .geq=>if k=k' then some (.bool (decide (b<=a)))else none
def zvq(op:BinOp)(a b:List UInt8):Option PV:=
 match op with
 | .add=>if a.length+b.length<=140737488355328 then some (.str (a++b))else none
 | .eql=>some (.bool (a==b))
 | .neq=>some (.bool !(a==b))
 | .lss=>some (.bool (Op.bytesLess a b))
 | .leq=>some (.bool (Op.bytesLess a b||a==b))
 | .gtr=>some (.bool !(Op.bytesLess a b||a==b))
 | .geq=>some (.bool !(Op.bytesLess a b))
 | _=>none
def peq(op:BinOp)(b:Bool):Option PV:=
 match op with
 | .eql=>some (.bool b)
 | .neq=>some (.bool !b)
 | _=>none
def zer(P:Program)(t:TypeId):Bool:=match P.underlying t with|some (.pointer _)=>true|_=>false
def zhu(P:Program)(t:TypeId):Bool:=match P.underlying t with|some .bool=>true|_=>false
def zmn(P:Program)(H:za)(op:BinOp)(t:TypeId)(x y:PV):Option PV:=
 match x,y with
 | .int k a,.int k' b=>za7 op k a k' b
 | .str a,.str b=>zvq op a b
 | .bool a,.bool b=>match zhu P t with|true=>peq op (a==b)|false=>none
 | .nilp,.nilp=>match zer P t with|true=>peq op true|false=>none
 | .ptr id ver _,.nilp=>match zer P t&&ze3 H id ver with|true=>peq op false|false=>none
 | .nilp,.ptr id ver _=>match zer P t&&ze3 H id ver with|true=>peq op false|false=>none
 | .ip _ _,.nilp=>match zer P t with|true=>peq op false|false=>none
 | .nilp,.ip _ _=>match zer P t with|true=>peq op false|false=>none
 | _,_=>none
def zdc(P:Program)(t:TypeId):Option TypeDesc:=match P.underlying t with|some (.int k)=>some (.int k)|some .bool=>some .bool|some .string=>some .string|_=>none
def zek:TypeDesc->PV->PV->Option Bool
 | .int _,.int k a,.int k' b=>if k=k' then some (a==b)else none
 | .bool,.bool a,.bool b=>some (a==b)
 | .string,.str a,.str b=>some (a==b)
 | _,_,_=>none
def zel(u:TypeDesc):List PV->List PV->Option Bool
 | [],[]=>some true
 | x::xs,y::ys=>match zek u x y with
  | some c=>(zel u xs ys).map λr=>c&&r
  | none=>none
 | _,_=>none
def pun(op:UnOp)(x:PV):Option PV:=
 match op,x with
 | .neg,.int k n=>some (.int k (k.wrap (0 - n)))
 | .xor,.int k n=>some (.int k (k.wrap (BitVec.ofInt k.bits (if k.signed then -1 else k.max)^^^BitVec.ofInt k.bits n).toNat))
 | .not,.bool b=>some (.bool !b)
 | _,_=>none
def byteOf:PV->Option UInt8
 | .int .u8 n=>some (UInt8.ofNat n.toNat)
 | _=>none
def zgy(xs:List PV):Option (List UInt8):=xs.mapM byteOf
def zcb(H:za)(sz:Nat)(x:PV):Option (List PV×Nat):=
 match x with
 | .slice xs len _=>if xs.length=len * sz then some (xs,len)else none
 | .msl id ver off len _ _=>match H[id]? with
  | some k=>if k.ver=ver/\off+len * sz<=k.cells.length then some ((k.cells.drop off).take (len * sz),len)else none
  | none=>none
 | _=>none
def zml(P:Program)(H:za)(src dst:TypeId)(x:PV):Option PV:=
 match P.underlying src,P.underlying dst,x with
 | some _,some (.int k),.int _ n=>some (.int k (k.wrap n))
 | some _,some .string,.str s=>some (.str s)
 | some _,some .string,.int _ n=>if 0<=n/\n<128 then some (.str [UInt8.ofNat n.toNat])else none
 | some (.slice e),some .string,x=>match P.underlying e with
  | some (.int .u8)=>(zcb H 1 x).bind λc=>(zgy c.1).map .str
  | _=>none
 | _,_,_=>none
def zM(xs:List PV)(off:Nat)(ys:List PV):List PV:=xs.take off++ys++xs.drop (off+ys.length)
def rd(P:Program)(t:TypeId)(xs:List PV)(off:Nat):Option PV:=
 match zd1 P t with
 | some true=>match szT P t with
  | some n=>if off+n<=xs.length then some (.agg ((xs.drop off).take n))else none
  | none=>none
 | some false=>xs[off]?
 | none=>none
def zxe(P:Program)(t:TypeId):Nat->Option PV
 | g+3=>match zyG g with
  | some l=>rd P t (l.map λx=>.int x.1 x.2) 0
  | none=>none
 | _=>none
def zim(P:Program)(H:za)(t:TypeId)(x:PV):Option PV:=
 match x with
 | .nl k=>zxe P t k
 | .ip xs off=>rd P t xs off
 | .ptr id ver off=>match H[id]? with
  | some k=>if k.ver=ver then rd P t k.cells off else none
  | none=>none
 | _=>none
def wr(P:Program)(t:TypeId)(xs:List PV)(off:Nat)(v:PV):Option (List PV):=
 match v with
 | .agg cs=>if szT P t=some cs.length/\off+cs.length<=xs.length then some (zM xs off cs)else none
 | v=>if szT P t=some 1/\v.cell=true/\off<xs.length then some (xs.set off v)else none
def zef(P:Program)(H:za)(t:TypeId)(x v:PV):Option za:=
 match x with
 | .ptr id ver off=>match H[id]? with
  | some k=>if k.ver=ver then(wr P t k.cells off v).map λc=>H.set id ⟨k.e,k.ver,c⟩else none
  | none=>none
 | _=>none
def zcl(eq:TypeId->PV->PV->Option Bool)(P:Program)(xs ys:List PV):List Field->Option Bool
 | []=>some true
 | f :: r => match decide (f.name = "_") with
  | true=>none
  | false=>match rd P f.type xs f.offset,rd P f.type ys f.offset with
   | some a,some b=>match eq f.type a b with
    | some c=>(zcl eq P xs ys r).map λq=>c&&q
    | none=>none
   | _,_=>none
def zjc(eq:TypeId->PV->PV->Option Bool)(P:Program)(e n:Nat)(xs ys:List PV):List Nat->Option Bool
 | []=>some true
 | i::r=>match rd P e xs (i * n),rd P e ys (i * n)with
  | some a,some b=>match eq e a b with
   | some c=>(zjc eq P e n xs ys r).map λq=>c&&q
   | none=>none
  | _,_=>none
def za0(P:Program):Nat->TypeId->PV->PV->Option Bool
 | 0,_,_,_=>none
 | d+1,t,x,y=>match P.underlying t with
  | some (.struct fs)=>match x,y with
   | .agg xs,.agg ys=>match P.stoodInHeld t with
    | false=>zcl (za0 P d) P xs ys fs.toList
    | true=>none
   | _,_=>none
  | some (.array len e)=>match x,y with
   | .agg xs,.agg ys=>match zdc P e with
    | some u=>if szT P e=some 1/\xs.length=len/\ys.length=len then zel u xs ys else none
    | none=>match szT P e with
     | some n=>zjc (za0 P d) P e n xs ys (List.range len)
     | none=>none
   | _,_=>none
  | some u=>zek u x y
  | none=>none
def zdF(P:Program)(op:BinOp)(t:TypeId)(x y:PV):Option PV:=
 match P.eqGuardType P.depth t with
 | false=>match za0 P 12 t x y with
  | some b=>peq op b
  | none=>none
 | true=>none
def zcA(P:Program)(H:za)(s:TypeId)(x:PV)(f:Nat):Option PV:=
 match P.underlying s with
 | some (.struct fs)=>match fs[f]? with
  | some fd=>match szT P fd.type with
   | some n=>if 0<n then match x with
     | .ip xs off=>some (.ip xs (off+fd.offset))
     | .ptr id ver off=>match ze3 H id ver with|true=>some (.ptr id ver (off+fd.offset))|false=>none
     | _=>none
    else none
   | none=>none
  | none=>none
 | _=>none
def zkz(P:Program)(s:TypeId)(x:PV)(f:Nat):Option PV:=
 match P.underlying s with
 | some (.struct fs)=>match fs[f]? with
  | some fd=>match x with
   | .agg cs=>rd P fd.type cs fd.offset
   | _=>none
  | none=>none
 | _=>none
def zcy(P:Program)(H:za)(t:TypeId)(x i:PV):Option PV:=
 match P.underlying t,x,i with
 | some (.slice e),.slice xs len _,.int _ i=>match szT P e with
  | some n=>if 0<=i/\i<len/\len * n<=xs.length/\0<n then some (.ip xs (i.toNat * n))else none
  | none=>none
 | some (.slice e),.msl id ver off len _ _,.int _ i=>match szT P e,ze3 H id ver with
  | some n,true=>if 0<=i/\i<len then some (.ptr id ver (off+i.toNat * n))else none
  | _,_=>none
 | some (.array len e),.ptr id ver off,.int _ i=>match szT P e,ze3 H id ver with
  | some n,true=>if 0<=i/\i<len then some (.ptr id ver (off+i.toNat * n))else none
  | _,_=>none
 | some (.array len e),.ip xs off,.int _ i=>match szT P e with
  | some n=>if 0<=i/\i<len then some (.ip xs (off+i.toNat * n))else none
  | none=>none
 | _,_,_=>none
def zkw(P:Program)(t:TypeId)(x i:PV):Option PV:=
 match P.underlying t,x,i with
 | some (.array len e),.agg cs,.int _ i=>match szT P e with
  | some n=>if 0<=i/\i<len then rd P e cs (i.toNat * n)else none
  | none=>none
 | some .string,.str s,.int _ i=>if 0<=i/\i<s.length then some (.int .u8 ((s.getD i.toNat 0).toNat:Int))else none
 | _,_,_=>none
def zaA(d:Nat):Option PV->Option Nat
 | none=>some d
 | some (.int _ i)=>if 0<=i then some i.toNat else none
 | some _=>none
def zii(P:Program)(H:za)(t:TypeId)(x:PV)(lo hi mx:Option PV):Option PV:=
 match P.underlying t,x with
 | some (.slice e),.slice xs len full=>match szT P e,zaA 0 lo,zaA len hi with
  | some n,some l,some h=>match mx with
   | none=>if l<=h/\h<=len/\xs.length=len * n then some (.slice ((xs.drop (l * n)).take ((h - l) * n)) (h - l) (full&&decide (h=len)))else none
   | some z=>match zaA len (some z),hi with
    | some m,some _=>if l<=h/\h<=m/\m<=len/\xs.length=len * n then some (.slice ((xs.drop (l * n)).take ((h - l) * n)) (h - l) (decide (m=h)))else none
    | _,_=>none
  | _,_,_=>none
 | some (.slice e),.msl id ver off len sz g=>match szT P e,zaA 0 lo,zaA len hi,mx,ze3 H id ver with
  | some n,some l,some h,none,true=>if l<=h/\h<=len then some (.msl id ver (off+l * n) (h - l) sz (match lo with|none=>g|some _=>false))else none
  | _,_,_,_,_=>none
 | some (.array len e),.ptr id ver off=>match szT P e,zaA 0 lo,zaA len hi,mx,ze3 H id ver with
  | some n,some l,some h,none,true=>if l<=h/\h<=len/\len<=1048576 then some (.msl id ver (off+l * n) (h - l) n false)else none
  | _,_,_,_,_=>none
 | some .string,.str s=>match zaA 0 lo,zaA s.length hi,mx with
  | some l,some h,none=>if l<=h/\h<=s.length then some (.str ((s.drop l).take (h - l)))else none
  | _,_,_=>none
 | _,_=>none
def zdW(place:Nat->Option (Nat×Nat))(cs:List PV):List (Nat×PV)->Option (List PV)
 | []=>some cs
 | (i,v)::rest=>match place i with
  | none=>none
  | some (off,size)=>if v.cells.length=size/\off+size<=cs.length/\v.cells.all PV.cell=true then zdW place (zM cs off v.cells) rest else none
def zaV(P:Program)(fs:List Field)(i:Nat):Option (Nat×Nat):=
 match fs[i]? with
 | some f=>(szT P f.type).map λn=>(f.offset,n)
 | none=>none
def zaL(P:Program)(t:TypeId):Option (List PV):=match zrT P t with|some z=>(match z.cells.all PV.cell with|true=>some z.cells|false=>none)|none=>none
def zdG(P:Program)(t:TypeId)(parts:List (Nat×PV)):Option PV:=
 match P.underlying t,zaL P t with
 | some (.struct fs),some z=>match fs.toList.all (λf=>(szT P f.type).isSome)with
  | true=>(zdW (zaV P fs.toList) z parts).map .agg
  | false=>none
 | some (.array _ e),some z=>match szT P e with
  | some n=>(zdW (λi=>some (i * n,n)) z parts).map .agg
  | none=>none
 | _,_=>none
def zcc(n:Nat)(z:List PV):List PV:=(List.replicate n z).flatten
def zcU(P:Program)(t:TypeId)(len:Nat)(parts:List (Nat×PV)):Option PV:=
 match P.underlying t with
 | some (.slice e)=>match szT P e,zaL P e with
  | some n,some z=>if len=0/\parts.length=0 then some (.slice [] 0 true)else if z.length=n/\0<len * n/\len * n<=65536 then(zdW (λi=>some (i * n,n)) (zcc len z) parts).map λc=>.slice c len true else none
  | _,_=>none
 | _=>none
def zme(P:Program)(H:za)(t:TypeId)(l c:PV):Option (PV×za):=
 match P.underlying t,l,c with
 | some (.slice e),.int _ l,.int _ c=>match szT P e,byT P e,zaL P e with
  | some n,some b,some z=>if 0<=l/\l<=c/\(b:Int) * c<=140737488355328/\c<=140737488355328/\z.length=n/\0<n then some (.msl H.length 0 0 l.toNat n true,H++[⟨e,0,zcc l.toNat z⟩])else none
  | _,_,_=>none
 | _,_,_=>none
def zbI(P:Program)(H:za)(e sz:Nat)(tx:TypeId)(x:PV):Option (List PV×Nat):=
 match P.underlying tx,x with
 | some (.slice _),x=>zcb H sz x
 | some (.int _),.int _ n=>match zaL P e with
  | some z=>if 0<=n/\n<=1048576/\z.length=sz then some (zcc n.toNat z,n.toNat)else none
  | none=>none
 | some .string,.str s=>if sz=1 then some (s.map λb=>.int .u8 (b.toNat:Int),s.length)else none
 | _,_=>none
def pappend(P:Program)(H:za)(t tx:TypeId)(s x:PV):Option (PV×za):=
 match P.underlying t with
 | some (.slice e)=>match szT P e,byT P e,zaL P e with
  | some sz,some b,some z=>
   if 0<sz/\z.length=sz then
    match zbI P H e sz tx x with
    | some (news,n)=>
     match s with
     | .slice xs len full=>
      if n=0 then some (.slice xs len full,H)
      else if full=true/\xs.length=len * sz/\(len+n) * b<=140737488355328/\len+n<=140737488355328 then some (.msl H.length (xs++news).length 0 (len+n) sz true,H++[⟨e,(xs++news).length,xs++news⟩])else none
     | .msl id ver off len sz' g=>match H[id]? with
      | some k=>
       if k.ver=ver/\g=true/\off=0/\sz'=sz/\k.e=e/\k.cells.length=len * sz/\k.ver<=k.cells.length/\(len+n) * b<=140737488355328/\len+n<=140737488355328 then
        (if n=0 then some (.msl id ver off len sz' g,H)else some (.msl id (k.cells++news).length 0 (len+n) sz true,H.set id ⟨e,(k.cells++news).length,k.cells++news⟩))else none
      | none=>none
     | _=>none
    | none=>none
   else none
  | _,_,_=>none
 | _=>none
def zgY(P:Program)(H:za)(t:TypeId)(d x:PV):Option (PV×za):=
 match P.underlying t with
 | some (.slice e)=>match szT P e with
  | some sz=>match d with
   | .msl id ver off len _ _=>match H[id]?,zcb H sz x with
    | some k,some (ys,n)=>if k.ver=ver/\off+len * sz<=k.cells.length then some (.int .i64 (min n len:Nat),H.set id ⟨k.e,ver,zM k.cells off (ys.take (min n len * sz))⟩)else none
    | _,_=>none
   | .slice _ 0 _=>match zcb H sz x with
    | some _=>some (.int .i64 0,H)
    | none=>none
   | _=>none
  | none=>none
 | _=>none
def znE(P:Program)(H:za)(t:TypeId)(x:PV):Option PV:=
 match P.underlying t,x with
 | some .string,.str s=>some (.int .i64 (s.length:Nat))
 | some (.array n _),_=>some (.int .i64 (n:Nat))
 | some (.slice _),.slice _ n _=>some (.int .i64 (n:Nat))
 | some (.slice _),.msl id ver _ n _ _=>match ze3 H id ver with|true=>some (.int .i64 (n:Nat))|false=>none
 | _,_=>none
def zvu(x y:PV):Option PV:=match x,y with| .int k a,.int _ b=>some (.int k (if b<a then b else a))|_,_=>none
def zqn(x y:PV):Option PV:=match x,y with| .int k a,.int _ b=>some (.int k (if b>a then b else a))|_,_=>none
def zfH(f:PV->PV->Option PV):PV->List PV->Option PV
 | x,[]=>some x
 | x,y::r=>match f x y with|some z=>zfH f z r|none=>none
def zH(P:Program)(H:za)(b:Builtin)(ts:List TypeId)(args:List PV):Option (PV×za):=
 match b,ts,args with
 | .len,[t],[x]=>(znE P H t x).map λv=>(v,H)
 | .append,[t,tx],[s,x]=>pappend P H t tx s x
 | .copy,[t,_],[d,x]=>zgY P H t d x
 | .min,_,x::r=>(zfH zvu x r).map λv=>(v,H)
 | .max,_,x::r=>(zfH zqn x r).map λv=>(v,H)
 | _,_,_=>none
def zss(H:za)(x:PV):Option PV:=
 match x with
 | .ptr id ver off=>match ze3 H id ver with|true=>some (.ptr id ver off)|false=>none
 | .ip xs off=>some (.ip xs off)
 | .func f a b=>some (.func f a b)
 | _=>none
def znZ:Value->Bool
 | .slice none n m=>qB n 0&&qB m 0
 | _=>false
def zdL:Operand->Bool
 | .const v=>znZ v
 | .tmp _=>false
 | .func _=>false
 | .global _=>false
def zfF(P:Program)(H:za)(op:BinOp)(t:TypeId)(x:PV):Option PV:=
 match P.underlying t with
 | some (.slice _)=>match x with
  | .slice _ n _=>if 0<n then peq op false else none
  | .msl id ver _ n _ _=>if 0<n/\ze3 H id ver=true then peq op false else none
  | _=>none
 | _=>none
def zcg(d:TypeDesc)(k:PV):List PV->Nat->Option (Option (Nat×PV))
 | [],_=>some none
 | .tup [a,v]::r,i=>match zek d k a with
  | some true=>some (some (i,v))
  | some false=>zcg d k r (i+1)
  | none=>none
 | _::_,_=>none
def zbP(P:Program)(H:za)(t:TypeId)(m:PV):Option (TypeId×TypeDesc×Nat×Blk):=
 match P.underlying t,m with
 | some (.map kt e),.mp id ver=>match zdc P kt,H[id]? with
  | some d,some b=>if b.ver=ver then some (e,d,id,b)else none
  | _,_=>none
 | _,_=>none
def zil(P:Program)(H:za)(t:TypeId)(m k:PV)(ok:Bool):Option PV:=
 match zbP P H t m with
 | some (e,d,_,b)=>match zcg d k b.cells 0 with
  | some (some (_,v))=>some (match ok with|true=>.tup [v,.bool true]|false=>v)
  | some none=>match zrT P e with
   | some z=>some (match ok with|true=>.tup [z,.bool false]|false=>z)
   | none=>none
  | none=>none
 | none=>none
def zdV(P:Program)(H:za)(t:TypeId)(m k v:PV):Option za:=
 match zbP P H t m with
 | some (_,d,id,b)=>match zcg d k b.cells 0 with
  | some (some (i,_))=>some (H.set id ⟨b.e,b.ver,b.cells.set i (.tup [k,v])⟩)
  | some none=>some (H.set id ⟨b.e,b.ver,b.cells++[.tup [k,v]]⟩)
  | none=>none
 | none=>none
def pop(P:Program)(op:Op)(F:Nat->PV)(H:za):Option (PV×za):=
 match op with
 | .move x=>some (ev F x,H)
 | .assign x=>some (ev F x,H)
 | .pick c a b=>match ev F c,ev F a,ev F b with
  | .bool t,.bool p,.bool q=>some (.bool (bif t then p else q),H)
  | .bool t,p,q=>some (bif t then p else q,H)
  | _,_,_=>none
 | .box elem x=>match (ev F x).cells.all PV.cell with|true=>some (.ptr H.length 0 0,H++[⟨elem,0,(ev F x).cells⟩])|false=>none
 | .alloc elem=>(zaL P elem).map λz=>(.ptr H.length 0 0,H++[⟨elem,0,z⟩])
 | .build t parts=>(zdG P t (parts.toList.map λp=>(p.1,ev F p.2))).map λv=>(v,H)
 | .buildSlice t len parts=>(zcU P t len (parts.toList.map λp=>(p.1,ev F p.2))).map λv=>(v,H)
 | .load t a=>(zim P H t (ev F a)).map λv=>(v,H)
 | .store t a x=>(zef P H t (ev F a) (ev F x)).map λH'=>(.tup [],H')
 | .nilCheck x=>(zss H (ev F x)).map λv=>(v,H)
 | .binOp op t x y _=>match zdL y with
  | true=>(zfF P H op t (ev F x)).map λv=>(v,H)
  | false=>match ev F x,ev F y with
   | .agg xs,.agg ys=>(zdF P op t (.agg xs) (.agg ys)).map λv=>(v,H)
   | a,b=>(zmn P H op t a b).map λv=>(v,H)
 | .unOp op _ x=>(pun op (ev F x)).map λv=>(v,H)
 | .convert src dst x=>(zml P H src dst (ev F x)).map λv=>(v,H)
 | .makeFunc (.func f) first captured=>some (.func f (first.toList.map (ev F)) (captured.toList.map (ev F)),H)
 | .makeSlice t l c=>zme P H t (ev F l) (ev F c)
 | .slice t x lo hi mx=>(zii P H t (ev F x) (lo.map (ev F)) (hi.map (ev F)) (mx.map (ev F))).map λv=>(v,H)
 | .fieldAddr s x f=>(zcA P H s (ev F x) f).map λv=>(v,H)
 | .field s x f=>(zkz P s (ev F x) f).map λv=>(v,H)
 | .indexAddr t x i=>(zcy P H t (ev F x) (ev F i)).map λv=>(v,H)
 | .index t x i=>(zkw P t (ev F x) (ev F i)).map λv=>(v,H)
 | .makeMap t none=>some (.mp H.length 0,H++[⟨t,0,[]⟩])
 | .lookup t m k ok=>(zil P H t (ev F m) (ev F k) ok).map λv=>(v,H)
 | .mapUpdate t m k x=>(zdV P H t (ev F m) (ev F k) (ev F x)).map λH'=>(.tup [],H')
 | .insert t m k x=>(zdV P H t (ev F m) (ev F k) (ev F x)).map λH'=>(.tup [],H')
 | .extract x i=>match ev F x with| .tup vs=>(vs[i]?).map λv=>(v,H)|_=>none
 | .call { callee:=.builtin b,args,argTypes }=>zH P H b argTypes.toList (args.toList.map (ev F))
 | _=>none
def zt(op:Op)(F:Nat->PV):Option (FuncId×List PV):=
 match op with
 | .call { callee:=.value f,args,.. }=>match ev F f with
  | .func f first captured=>some (f,first++args.toList.map (ev F)++captured)
  | _=>none
 | _=>none
variable {P:Program} {C:Ctx} {H:za} {w:World} {F:Nat->PV} {a:Act} {N:Nat}
def FRel(C:Ctx)(N:Nat)(F:Nat->PV)(a:Act):Prop:=a.tmps.size=N/\∀ t,VRel C (F t) (a.tmps.getD t Go.undef)
theorem FRel.mono{C':Ctx}(h:CLe C C')(r:FRel C N F a):FRel C' N F a:=⟨r.1,λt=>(r.2 t).mono h⟩
theorem VRel.undefV:VRel C (.tup []) Go.undef:=.tup (us:=[]) rfl (λj x u hx=>by simp at hx)
def upd(F:Nat->PV)(d:Option Nat)(v:PV):Nat->PV:=match d with|none=>F|some d=>λt=>if d=t then v else F t
theorem zaH(F:Fr)(d:Option Nat)(v:PV):slot (put F d v)=upd (slot F) d v:=by
 cases d with
 | none=>rfl
 | some d=>
  funext t;show(match qB d t with|true=>v|false=>slot F t)=if d=t then v else slot F t
  grind[Nat.beq_refl,qB,qG]
theorem FRel.put(r:FRel C N F a)(d:Option Nat)(hd:∀ t,d=some t->t<N){v:PV}{u:Value}(hv:VRel C v u):FRel C N (upd F d v) (a.put d u):=by
 cases d with
 | none=>exact r
 | some d=>
  have hlt:=hd d rfl;refine⟨by simp[Act.put,r.1],λt=> ?_⟩;simp only[upd,Act.put,vO,mF];by_cases h:d=t
  .subst h;simp[r.1,hlt,hv]
  .simp only[h,sV];have:=r.2 t;simp_all
theorem zkq(v:Value):VRel C (pv1 v) v:=by unfold pv1;split;all_goals first|exact .int _ _|exact .bool _|exact .str _|exact .nilp|exact .sliceN _ _|exact .nl 0|exact .nl 1|exact .nl 2|exact .undef _
theorem zfB(v:Value):VRel C (pvc v) v:=by
 unfold pvc;split
 .rename_i cs;split
  .rename_i h;have:=VRel.agg (C:=C) (cs:=cs.toList.map pv1) (us:=cs.toList) sp (λx hx=>uJ.1 h x hx) (λj x u hx hu=>by
    simp only[vD,hu,vM,qA.injEq]at hx;subst hx;exact zkq u)
   omega
  .exact .undef _
 .rename_i vs;have:=VRel.tup (C:=C) (vs:=vs.toList.map pv1) (us:=vs.toList) sp (λj x u hx hu=>by
   simp only[vD,hu,vM,qA.injEq]at hx;subst hx;exact zkq u)
  omega
 .exact zkq _
theorem zx(r:FRel C N F a)(x:Operand):VRel C (ev F x) (a.eval x):=by
 cases x with
 | tmp t=>exact r.2 t
 | const v=>exact zfB v
 | global g=>exact .nl (g+3)
 | func f=>exact .func (us:=[]) (ws:=[]) rfl rfl (λj x u hx=>by simp at hx) (λj x u hx=>by simp at hx)
theorem zeW(r:FRel C N F a)(xs:List Operand):VRels C (xs.map (ev F)) (xs.map a.eval):=by refine⟨by simp,λj x u hx hu=> ?_⟩;grind[qF,zx]
def OpOk(P:Program)(o:Oper)(a:Act)(w:World)(C:Ctx)(v:PV)(H':za):Prop:=∃ C' u w',CLe C C'/\WRel C' H' w'/\Below C.B w w'/\VRel C' v u/\((execOp a.eval o).run P w= .ok (.value u) w'\/((execOp a.eval o).run P w= .ok .skip w'/\u=Go.undef))
theorem OpOk.pure{o:Oper}{v:PV}{u:Value}(hw:WRel C H w)(hv:VRel C v u)(hr:(execOp a.eval o).run P w= .ok (.value u) w):OpOk P o a w C v H:=⟨C,u,w,.refl _,hw,.refl _ _,hv,.inl hr⟩
theorem zL{k:IntKind}{n:Int}{v:Value}(h:VRel C (.int k n) v):v= .int k n:=by cases h;rfl
theorem zar{b:Bool}{v:Value}(h:VRel C (.bool b) v):v= .bool b:=by cases h;rfl
theorem zdj{v:Value}(h:VRel C .nilp v):v= .pointer none:=by cases h;rfl
theorem zbB{s:List UInt8}{v:Value}(h:VRel C (.str s) v):∃ t:ByteArray,v= .string t/\t.data.toList=s:=by cases h;exact⟨_,rfl,rfl⟩
theorem zbV(hw:WRel C H w){id ver:Nat}(h:ze3 H id ver=true):C.vs[id]? =some ver/\∃ k,H[id]? =some k/\k.ver=ver:=by
 unfold ze3 at h;split at h
 .rename_i k hk;have q2:=hw.ver id k hk;simp_all
 .cases h
theorem zbW(_hw:WRel C H w){id ver off:Nat}{v:Value}(hv:VRel C (.ptr id ver off) v)(hl:C.vs[id]? =some ver):∃ b,C.mu[id]? =some (some b)/\v= .pointer (some ⟨b,off,none⟩):=by
 cases hv with
 | ptr hm _=>exact⟨_,hm,rfl⟩
 | ptrS _ _ hv' hlt=>rw[hl]at hv';injection hv' with hv';omega
theorem zyE(_hw:WRel C H w){id ver:Nat}{v:Value}(hv:VRel C (.mp id ver) v)(hl:C.vs[id]? =some ver):∃ b,C.mu[id]? =some none/\C.cp[id]? =some (b+1)/\v= .map (some b):=by
 cases hv with
 | mp hm _ hb=>exact⟨_,hm,hb,rfl⟩
 | mpS _ _ hv' hlt=>rw[hl]at hv';injection hv' with hv';omega
theorem zbC(_hw:WRel C H w){id ver off len sz:Nat}{g:Bool}{v:Value}(hv:VRel C (.msl id ver off len sz g) v)(hl:C.vs[id]? =some ver):
  (∃ b cap off',C.mu[id]? =some (some b)/\v= .slice (some ⟨b,off',none⟩) len cap/\len<=cap/\cap<=maxLen/\(0<len->off'=off)/\(g=true->off=0/\off'=0/\C.cp[id]? =some (cap * sz)))\/
  (∃ ad,(C.mu[id]? =some none/\C.cp[id]? =some 0)/\len=0/\v= .slice ad 0 0):=by
 cases hv with
 | msl hm _ hcap hmax hg=>exact .inl ⟨_,_,_,hm,rfl,hcap,hmax,λ_=>rfl,λh=>⟨(hg h).1,(hg h).1,(hg h).2⟩⟩
 | mslG ad hm _=>exact .inr ⟨ad,hm,rfl,rfl⟩
 | mslE hm _ hmax=>exact .inl ⟨_,_,_,hm,rfl,vU _,hmax,λh=>absurd h om,λh=>by cases h⟩
 | mslS _ _ hv' hlt=>rw[hl]at hv';injection hv' with hv';omega
theorem znG{op:BinOp}{k k':IntKind}{x y:Int}{v:PV}(t:TypeId)(h:za7 op k x k' y=some v):∃ u,VRel C v u/\(binOp op t (.int k x) (.int k' y)).run P w= .ok u w:=by
 cases op<;>simp only[za7]at h<;>(repeat' split at h)<;>(try(cases h;done))<;>(injection h with h;subst h);all_goals first
  | (refine⟨_,.int _ _,?_⟩;simp_all[binOp,Op.intArith,Op.intDiv,Op.intBits];done)
  | (refine⟨_,.bool _,?_⟩;simp_all[binOp,Op.intCmp];done)
  | (refine⟨_,.int _ _,?_⟩;rename_i hy;simp only[binOp,Op.shift];rw[gC hy];simp;done)
theorem znH{op:BinOp}{t:TypeId}{x y:Operand}{k k':IntKind}{m n:Int}:(eqGuard op t x y (.int k m) (.int k' n)).run P w= .ok () w:=by cases op<;>simp[eqGuard]
theorem znu{op:BinOp}{x y:ByteArray}{v:PV}(t:TypeId)(h:zvq op x.data.toList y.data.toList=some v):∃ u,VRel C v u/\(binOp op t (.string x) (.string y)).run P w= .ok u w:=by
 have ex:=ByteArray.toList_eq x;have ey:=ByteArray.toList_eq y;cases op<;>simp only[zvq]at h<;>(try(cases h;done));case add=>
  split at h
  .rename_i hl;injection h with h;subst h;refine⟨.string (x++y),?_,?_⟩
   .have:=VRel.str (C:=C) (x++y);simp_all
   .have h1:x.size=x.data.toList.length:=by rfl
    have h2:y.size=y.data.toList.length:=by rfl
    simp[binOp,Op.stringOp];omega
  .cases h
 all_goals
  injection h with h;subst h;exact⟨_,.bool _,by simp[binOp,Op.stringOp,ex,ey]⟩
theorem znv{op:BinOp}{t:TypeId}{x y:Operand}{p q:ByteArray}:(eqGuard op t x y (.string p) (.string q)).run P w= .ok () w:=by cases op<;>simp[eqGuard]
theorem zmm{op:BinOp}{t:TypeId}{x y:Operand}{p q:Bool}:(eqGuard op t x y (.bool p) (.bool q)).run P w= .ok () w:=by cases op<;>simp[eqGuard]
theorem zcx{op:BinOp}{t:TypeId}{x y:Operand}{p q:Option Addr}:(eqGuard op t x y (.pointer p) (.pointer q)).run P w= .ok () w:=by cases op<;>simp[eqGuard]
theorem zbQ{op:BinOp}{b:Bool}{v:PV}{t:TypeId}{x y:Value}(h:peq op b=some v)(he:(Op.equal t x y).run P w= .ok b w)
  (hop:∀ o:BinOp,(o= .eql\/o= .neq)->binOp o t x y=(match o with| .eql=>do pure (.bool (<-Op.equal t x y))|_=>do pure (.bool (!(<-Op.equal t x y))))):
  ∃ u,VRel C v u/\(binOp op t x y).run P w= .ok u w:=by
 cases op<;>simp only[peq]at h<;>(try(cases h;done))<;>(injection h with h;subst h)
 .exact⟨_,.bool _,by rw[hop .eql (.inl rfl)];simp[he]⟩
 .exact⟨_,.bool _,by rw[hop .neq (.inr rfl)];simp[he]⟩
theorem zqy{t:TypeId}(h:zhu P t=true):P.underlying t=some .bool:=by grind[zhu]
theorem zeq{t:TypeId}(h:zer P t=true):∃ e,P.underlying t=some (.pointer e):=by grind[zer]
theorem zkW(d:Nat){t e:TypeId}(hu:P.underlying t=some (.pointer e))(p:Option Addr):(Op.equalIn (d+1) t (.pointer none) (.pointer p)).run P w= .ok p.isNone w:=by simp[Op.equalIn,run_underlying hu]
theorem zje(d:Nat){t e:TypeId}(hu:P.underlying t=some (.pointer e))(p:Addr):(Op.equalIn (d+1) t (.pointer (some p)) (.pointer none)).run P w= .ok false w:=by simp[Op.equalIn,run_underlying hu]
theorem zfl{t e:TypeId}(hu:P.underlying t=some (.pointer e))(p:Option Addr):(Op.equal t (.pointer none) (.pointer p)).run P w= .ok p.isNone w:=zkW 9999 hu p
theorem zg2{t e:TypeId}(hu:P.underlying t=some (.pointer e))(p:Addr):(Op.equal t (.pointer (some p)) (.pointer none)).run P w= .ok false w:=zje 9999 hu p
theorem znL{op:BinOp}{t:TypeId}{x y:PV}{p q:Value}{v:PV}(X Y:Operand)(hw:WRel C H w)(hx:VRel C x p)(hy:VRel C y q)(h:zmn P H op t x y=some v):
  ∃ u,VRel C v u/\(do eqGuard op t X Y p q;binOp op t p q:Sem Value).run P w= .ok u w:=by
 unfold zmn at h;split at h
 .obtain rfl:=zL hx;obtain rfl:=zL hy;obtain⟨u,hu,hr⟩:=znG (P:=P) (C:=C) (w:=w) t h;exact⟨u,hu,by rw[Sem.run_bind,znH,Result.andThen_ok,hr]⟩
 .obtain⟨s,rfl,rfl⟩:=zbB hx;obtain⟨s',rfl,rfl⟩:=zbB hy;obtain⟨u,hu,hr⟩:=znu (P:=P) (C:=C) (w:=w) t h;exact⟨u,hu,by rw[Sem.run_bind,znv,Result.andThen_ok,hr]⟩
 .obtain rfl:=zar hx;obtain rfl:=zar hy;split at h
  .rename_i hb;obtain⟨u,hu,hr⟩:=zbQ (P:=P) (C:=C) (w:=w) h (run_equal_bool w t _ _ (zqy hb)) (λo ho=>by rcases ho with rfl|rfl<;>rfl);exact⟨u,hu,by rw[Sem.run_bind,zmm,Result.andThen_ok,hr]⟩
  .cases h
 .obtain rfl:=zdj hx;obtain rfl:=zdj hy;split at h
  .rename_i hb;obtain⟨e,he⟩:=zeq hb;obtain⟨u,hu,hr⟩:=zbQ (P:=P) (C:=C) (w:=w) h (zfl he none) (λo ho=>by rcases ho with rfl|rfl<;>rfl);exact⟨u,hu,by rw[Sem.run_bind,zcx,Result.andThen_ok,hr]⟩
  .cases h
 .split at h
  .rename_i hb;simp only[gB]at hb;obtain⟨e,he⟩:=zeq hb.1;obtain⟨b,_,rfl⟩:=zbW hw hx (zbV hw hb.2).1;obtain rfl:=zdj hy;obtain⟨u,hu,hr⟩:=zbQ (P:=P) (C:=C) (w:=w) h (zg2 he _) (λo ho=>by rcases ho with rfl|rfl<;>rfl);exact⟨u,hu,by rw[Sem.run_bind,zcx,Result.andThen_ok,hr]⟩
  .cases h
 .split at h
  .rename_i hb;simp only[gB]at hb;obtain⟨e,he⟩:=zeq hb.1;obtain⟨b,_,rfl⟩:=zbW hw hy (zbV hw hb.2).1;obtain rfl:=zdj hx;obtain⟨u,hu,hr⟩:=zbQ (P:=P) (C:=C) (w:=w) h (show(Op.equal t (.pointer none) (.pointer (some _))).run P w= .ok false w from zfl he (some _)) (λo ho=>by rcases ho with rfl|rfl<;>rfl);exact⟨u,hu,by rw[Sem.run_bind,zcx,Result.andThen_ok,hr]⟩
  .cases h
 .split at h
  .rename_i hb;obtain⟨e,he⟩:=zeq hb;obtain rfl:=zdj hy;cases hx;obtain⟨u,hu,hr⟩:=zbQ (P:=P) (C:=C) (w:=w) h (zg2 he _) (λo ho=>by rcases ho with rfl|rfl<;>rfl);exact⟨u,hu,by rw[Sem.run_bind,zcx,Result.andThen_ok,hr]⟩
  .cases h
 .split at h
  .rename_i hb;obtain⟨e,he⟩:=zeq hb;obtain rfl:=zdj hx;cases hy;obtain⟨u,hu,hr⟩:=zbQ (P:=P) (C:=C) (w:=w) h (show(Op.equal t (.pointer none) (.pointer (some _))).run P w= .ok false w from zfl he (some _)) (λo ho=>by rcases ho with rfl|rfl<;>rfl);exact⟨u,hu,by rw[Sem.run_bind,zcx,Result.andThen_ok,hr]⟩
  .cases h
 .cases h
theorem zqj{op:UnOp}{x v:PV}{p:Value}(hx:VRel C x p)(h:pun op x=some v):∃ u,VRel C v u/\(Op.unary op p).run P w= .ok u w:=by
 unfold pun at h;split at h
 .obtain rfl:=zL hx;injection h with h;subst h;exact⟨_,.int _ _,by simp[Op.unary,Op.intArith]⟩
 .obtain rfl:=zL hx;injection h with h;subst h;exact⟨_,.int _ _,by simp[Op.unary,Op.intBits]⟩
 .obtain rfl:=zar hx;injection h with h;subst h;exact⟨_,.bool _,by simp[Op.unary]⟩
 .cases h
end Go.Proofs.YtleejngibkbjnaaGreatDoor.Pm
namespace Go.Proofs.YtleejngibkbjnaaGreatDoor.Pm
open Go.RowKit
variable {P:Program} {C:Ctx} {H:za} {w:World} {F:Nat->PV} {a:Act} {N:Nat}
def Rel(C:Ctx)(xs:List PV)(us:List Value):Prop:=∀(j:Nat) (x:PV) (u:Value),xs[j]? =some x->us[j]? =some u->VRel C x u
def At(w:World)(b o:Nat)(us:List Value):Prop:=∀(j:Nat) (u:Value),us[j]? =some u->w.cell? ⟨b,o+j,none⟩=some u
theorem Rel.drop{xs:List PV}{us:List Value}(h:Rel C xs us)(n:Nat):Rel C (xs.drop n) (us.drop n):=λj x u hx hu=>by rw[wI]at hx hu;exact h _ x u hx hu
theorem Rel.take{xs:List PV}{us:List Value}(h:Rel C xs us)(n:Nat):Rel C (xs.take n) (us.take n):=λj x u hx hu=>by
 rw[vZ]at hx hu;split at hx
 .rename_i hj;rw[gD hj]at hu;exact h _ x u hx hu
 .cases hx
theorem At.drop{b o:Nat}{us:List Value}(h:At w b o us)(n:Nat):At w b (o+n) (us.drop n):=λj u hu=>by rw[wI]at hu;have:=h _ u hu;grind
theorem At.take{b o:Nat}{us:List Value}(h:At w b o us)(n:Nat):At w b o (us.take n):=λj u hu=>by
 rw[vZ]at hu;split at hu
 .exact h _ u hu
 .cases hu
theorem Rel.append{xs ys:List PV}{us ws:List Value}(hl:us.length=xs.length)(h:Rel C xs us)(h':Rel C ys ws):Rel C (xs++ys) (us++ws):=λj x u hx hu=>by
 by_cases hj:j<xs.length
 .rw[gK hj]at hx;rw[gK om]at hu;exact h j x u hx hu
 .rw[gN om]at hx;rw[gN om,hl]at hu;exact h' _ x u hx hu
theorem Rel.one{x:PV}{u:Value}(h:VRel C x u):Rel C [x] [u]:=λj y v hy hv=>by grind
theorem Rel.mono{C':Ctx}(hle:CLe C C'){xs:List PV}{us:List Value}(h:Rel C xs us):Rel C' xs us:=λj x u hx hu=>(h j x u hx hu).mono hle
theorem Rel.oneCell{xs:List PV}{us:List Value}(h:Rel C xs us)(hl:us.length=xs.length)(hc:∀ x∈xs,x.cell=true):∀ u∈us,u.oneCell'=true:=by intro u hu;obtain⟨j,hj,rfl⟩:=dI hu;have hjx:j<xs.length:=om;exact(h j xs[j] us[j] (gG hjx) (gG hj)).oneCell (hc _ (uY hjx))
theorem At.load{b o:Nat}{us:List Value}(h:At w b o us):(loadCells ⟨b,o,none⟩ us.length).run P w= .ok us.toArray w:=run_loadCells_list w ⟨b,o,none⟩ us (λj v hv=>by rw[Addr.add_lit];exact h j v hv)
theorem WRel.at_imm(hw:WRel C H w){b o:Nat}{us:List Value}(h:∀(j:Nat) (u:Value),us[j]? =some u->C.M b (o+j)=some u):At w b o us:=λj u hu=>hw.imm _ _ _ (h j u hu)
theorem zur{b:Nat}{cur:Array Value}{e:TypeId}{fr:Nat×Nat}(hb:w.heap[b]? =some (.cells cur e fr)):At w b 0 cur.toList:=λj u hu=>by simp only[World.cell?,hb,wF];simp_all
theorem WRel.blk(hw:WRel C H w){id:Nat}{k:Blk}{b:Nat}(hk:H[id]? =some k)(hm:C.mu[id]? =some (some b)):∃ cur,C.cp[id]? =some cur.size/\w.heap[b]? =some (.cells cur k.e (0,0))/\
  (∀ x∈k.cells,x.cell=true)/\k.cells.length<=cur.size/\At w b 0 (cur.toList.take k.cells.length)/\Rel C k.cells (cur.toList.take k.cells.length)/\(cur.toList.take k.cells.length).length=k.cells.length:=by
 obtain⟨cur,q3,_,q5,q6,q7,q8⟩:=hw.own id k b hk hm;refine⟨cur,q3,q5,q6,q7,(zur q5).take _,λj x u hx hu=> ?_,by simp;omega⟩;rw[vZ]at hu;split at hu
 .exact q8 j x u hx (by simpa using hu)
 .cases hu
theorem zdp{t:TypeId}{b:Bool}(h:zd1 P t=some b):(isAgg t).run P w= .ok b w:=by
 unfold zd1 at h;unfold isAgg;split at h
 .rename_i hu;injection h with h;subst h;simp[run_underlying hu]
 .rename_i hu;injection h with h;subst h;simp[run_underlying hu]
 .rename_i d h1 h2 hu;injection h with h;subst h;simp only[Sem.run_bind,run_underlying hu,Result.andThen_ok];rfl
 .cases h
theorem zZ{t:TypeId}{n:Nat}(h:szT P t=some n):(sizeOf t).run P w= .ok n w:=by
 unfold szT at h;cases hi:P.info? t with
 | none=>simp[hi]at h
 | some i=>simp[hi]at h;simp[sizeOf,typeInfo,hi,h]
theorem zba{t:TypeId}{n:Nat}(h:szT P t=some n):∃ i,P.info? t=some i/\i.size=n:=by simp_all[szT,none]
theorem zie{t:TypeId}{b o off:Nat}{xs:List PV}{us:List Value}{v:PV}(hl:us.length=xs.length)(hat:At w b o us)(hc:∀ x∈xs,x.cell=true)(hR:Rel C xs us)
  (h:rd P t xs off=some v):∃ u,VRel C v u/\(loadVar t ⟨b,o+off,none⟩).run P w= .ok u w:=by
 unfold rd at h;split at h
 .rename_i ha;split at h
  .rename_i n hn;split at h
   .rename_i hle;injection h with h;subst h;have hlen:((us.drop off).take n).length=n:=by simp;omega
    refine⟨.agg ((us.drop off).take n).toArray,.agg (by simp;omega) (λx hx=>hc x (wL (vI hx))) ((hR.drop off).take n),?_⟩;have hld:=((hat.drop off).take n).load (P:=P);rw[hlen]at hld;simp[loadVar,zdp ha,zZ hn,hld]
   .cases h
  .cases h
 .rename_i ha;have hlt:off<us.length:=by grind
  refine⟨us[off],hR off v us[off] h (gG hlt),?_⟩;have hcell:=hat off us[off] (gG hlt);simp[loadVar,zdp ha,hcell]
 .cases h
theorem zbR{t:TypeId}{off:Nat}{xs:List PV}{us:List Value}{v:PV}(hl:us.length=xs.length)(hc:∀ x∈xs,x.cell=true)(hR:Rel C xs us)
  (h:rd P t xs off=some v):∃ u,VRel C v u/\(part t us.toArray off).run P w= .ok u w:=by
 unfold rd at h;split at h
 .rename_i ha;split at h
  .rename_i n hn;split at h
   .rename_i hle;injection h with h;subst h;refine⟨.agg ((us.drop off).take n).toArray,.agg (by simp;omega) (λx hx=>hc x (wL (vI hx))) ((hR.drop off).take n),?_⟩;simp only[part,Sem.run_bind,zdp ha,zZ hn,Result.andThen_ok,wN,Sem.run_pure];congr 2;apply sT;simp[mP]
   .cases h
  .cases h
 .rename_i ha;have hlt:off<us.length:=by grind
  refine⟨us[off],hR off v us[off] h (gG hlt),?_⟩;simp[part,zdp ha,gG hlt]
 .cases h
theorem zgX{t:TypeId}{x v:PV}{p:Value}(hw:WRel C H w)(hx:VRel C x p)(h:zim P H t x=some v):∃ u,VRel C v u/\(Instr.loadAt t p).run P w= .ok u w:=by
 unfold zim at h;split at h
 .unfold zxe at h;split at h
  .rename_i g;split at h
   .rename_i l hg;have hp:VRel C (.ip (l.map λx=>.int x.1 x.2) 0) (.pointer (some ⟨g,0+0,none⟩)):=.ip (us:=l.map λx=>.int x.1 x.2) sp (λj u hu=>by
     rw[vD]at hu;obtain⟨y,hy,rfl⟩:=gO.1 hu;rw[wF];exact hw.gl g l hg j y hy) (λx hx=>by
     obtain⟨y,_,rfl⟩:=vW.1 hx;rfl) (λj x u hx hu=>by
     rw[vD]at hx hu;obtain⟨y,hy,rfl⟩:=gO.1 hx;rw[hy]at hu;injection hu with hu;rw[<-hu];exact .int _ _)
    cases hx;cases hp with
    | ip hl hM hc hR=>obtain⟨u,hu,hr⟩:=zie (P:=P) (t:=t) hl (hw.at_imm hM) hc hR h;exact⟨u,hu,by simp[Instr.loadAt,Instr.sureAddr,nlV]at hr |-;simpa using hr⟩
   .cases h
  .cases h
 .cases hx with
  | ip hl hM hc hR=>obtain⟨u,hu,hr⟩:=zie (P:=P) (t:=t) hl (hw.at_imm hM) hc hR h;exact⟨u,hu,by simp[Instr.loadAt,Instr.sureAddr,hr]⟩
 .split at h
  .rename_i k hk;split at h
   .rename_i hver;subst hver;obtain⟨b,q1,rfl⟩:=zbW hw hx (hw.ver _ k hk);obtain⟨cur,q3,q5,q6,q7,q8,q9,q10⟩:=hw.blk hk q1;obtain⟨u,hu,hr⟩:=zie (P:=P) (t:=t) q10 q8 q6 q9 h;rw[wF]at hr;exact⟨u,hu,by simp[Instr.loadAt,Instr.sureAddr,hr]⟩
   .cases h
  .cases h
 .cases h
theorem zi7(xs:List PV)(off:Nat)(v:PV)(h:off<xs.length):xs.set off v=zM xs off [v]:=by simp_all[zM,List.set_eq_take_append_cons_drop]
theorem ze9(xs ys:List PV)(off:Nat)(h:off+ys.length<=xs.length):(zM xs off ys).length=xs.length:=by simp[zM];omega
theorem zh5{xs ys:List PV}{cur us:List Value}{off:Nat}(hl:us.length=ys.length)(hx:Rel C xs cur)(hy:Rel C ys us)(hoff:off+ys.length<=xs.length)(hxl:xs.length<=cur.length):
  Rel C (zM xs off ys) (cur.take off++us++cur.drop (off+us.length)):=by
 unfold zM;refine Rel.append (by simp;omega) (Rel.append (by simp;omega) (hx.take off) hy) ?_;rw[hl];exact hx.drop _
theorem zgV{xs ys:List PV}{off:Nat}(hx:∀ x∈xs,x.cell=true)(hy:∀ x∈ys,x.cell=true):∀ x∈zM xs off ys,x.cell=true:=by grind[zM,qH,qI]
theorem WRel.store(hw:WRel C H w){id b off:Nat}{k:Blk}{cur:Array Value}(hk:H[id]? =some k)(hm:C.mu[id]? =some (some b))(hb:w.heap[b]? =some (.cells cur k.e (0,0)))
  (ys:List PV) (us:List Value) (hl:us.length=ys.length) (hc:∀ x∈ys,x.cell=true) (hy:Rel C ys us) (hoff:off+ys.length<=k.cells.length):
  ∃ C' w',CLe C C'/\WRel C' (H.set id ⟨k.e,k.ver,zM k.cells off ys⟩) w'/\Below C.B w w'/\(storeCells ⟨b,off,none⟩ us).run P w= .ok () w':=by
 obtain⟨cur',p3,p5,p6,p7,p8,p9,p10⟩:=hw.blk hk hm;rw[hb]at p5;injection p5 with p5;injection p5 with p5;subst p5;have hrel:Rel C k.cells cur.toList:=by obtain⟨cur2,_,_,r5,_,_,r8⟩:=hw.own id k b hk hm;rw[hb]at r5;injection r5 with r5;injection r5 with r5;subst r5;exact λj x u hx hu=>r8 j x u hx (by simpa using hu)
 have hst:=run_storeCells_at P b off k.e us 0 cur w hb om (hy.oneCell hl hc);rw[vQ]at hst;have hsp:=zh5 (off:=off) hl hrel hy hoff (by simpa using p7);have hsize:(cur.toList.take off++us++cur.toList.drop (off+us.length)).toArray.size=cur.size:=by simp;omega
 obtain⟨c1,c2,c3⟩:=hw.write hk hm hb k.ver (gV _) (zM k.cells off ys) (cur.toList.take off++us++cur.toList.drop (off+us.length)).toArray hsize (zgV p6 hc)
  (by rw[hsize,ze9 _ _ _ hoff];exact p7) (λj x u hx hu=>hsp j x u hx (by simpa using hu))
 exact⟨_,_,c1,c2,c3,hst⟩
theorem zkr{t:TypeId}{x v:PV}{p q:Value}{H':za}(hw:WRel C H w)(hx:VRel C x p)(hv:VRel C v q)(h:zef P H t x v=some H'):
  ∃ C' w',CLe C C'/\WRel C' H' w'/\Below C.B w w'/\(Instr.storeAt t p q).run P w= .ok () w':=by
 unfold zef at h;split at h
 .rename_i id0 ver0 off0;split at h
  .rename_i k hk;split at h
   .rename_i hver;subst hver;simp only[gO]at h;obtain⟨c,hc,rfl⟩:=h;obtain⟨b,q1,rfl⟩:=zbW hw hx (hw.ver _ k hk);obtain⟨cur,q3,q5,q6,q7,q8,q9,q10⟩:=hw.blk hk q1;unfold wr at hc;split at hc
    .rename_i cs;split at hc
     .rename_i hh;injection hc with hc;subst hc;cases hv with
      | agg hl hcc hR=>obtain⟨C',w',c1,c2,c3,c4⟩:=hw.store (P:=P) hk q1 q5 cs _ hl hcc hR hh.2;refine⟨C',w',c1,c2,c3,?_⟩;simp[Instr.storeAt,Instr.sureAddr,storeVar,zZ hh.1,Value.cells,hl,c4]
     .cases hc
    .rename_i hna;split at hc
     .rename_i hh;injection hc with hc;subst hc;rw[zi7 _ _ _ hh.2.2];obtain⟨C',w',c1,c2,c3,c4⟩:=hw.store (P:=P) (off:=off0) hk q1 q5 [v] [q] rfl (by simpa using hh.2.1) (.one hv) (by have:=hh.2.2;simp;omega);refine⟨C',w',c1,c2,c3,?_⟩;have hcells:q.cells= #[q]:=by have:=hv.oneCell hh.2.1;cases q<;>first|rfl|(simp[Value.oneCell']at this)
      simp[Instr.storeAt,Instr.sureAddr,storeVar,zZ hh.1,hcells,c4]
     .cases hc
   .cases h
  .cases h
 .cases h
end Go.Proofs.YtleejngibkbjnaaGreatDoor.Pm
namespace Go.Proofs.YtleejngibkbjnaaGreatDoor.Pm
open Go.RowKit
variable {P:Program} {C:Ctx} {H:za} {w:World} {F:Nat->PV} {a:Act} {N:Nat}
theorem zgx{s:TypeId}{x v:PV}{p:Value}{f:Nat}(hw:WRel C H w)(hx:VRel C x p)(h:zcA P H s x f=some v):∃ u,VRel C v u/\(Instr.fieldAt s p f).run P w= .ok u w:=by
 unfold zcA at h;split at h
 .rename_i fs hu;split at h
  .rename_i fd hfd;split at h
   .rename_i n hn;split at h;case isFalse=>cases h
    rename_i hpos;obtain⟨n,rfl⟩:=Nat.exists_eq_succ_of_ne_zero (Nat.pos_iff_ne_zero.1 hpos);split at h
    .rename_i xs off;injection h with h;subst h;cases hx with
     | @ip _ _ b o us hl hM hc hR=>refine⟨.pointer (some ⟨b,o+(off+fd.offset),none⟩),.ip hl hM hc hR,?_⟩;simp[Instr.fieldAt,run_underlying hu,hfd,Instr.sureAddr,fieldPlace,zZ hn,Addr.add_lit,vT]
    .rename_i id ver off;split at h
     .rename_i hlv;injection h with h;subst h;have hv:=(zbV hw hlv).1;obtain⟨b,hb,rfl⟩:=zbW hw hx hv;refine⟨.pointer (some ⟨b,off+fd.offset,none⟩),.ptr hb hv,?_⟩;simp[Instr.fieldAt,run_underlying hu,hfd,Instr.sureAddr,fieldPlace,zZ hn,Addr.add_lit]
     .cases h
    .cases h
   .cases h
  .cases h
 .cases h
theorem zky{s:TypeId}{x v:PV}{p:Value}{f:Nat}(hx:VRel C x p)(h:zkz P s x f=some v):∃ u,VRel C v u/\(Instr.field s p f).run P w= .ok u w:=by
 unfold zkz at h;split at h
 .rename_i fs hu;split at h
  .rename_i fd hfd;split at h
   .rename_i cs;cases hx with
    | agg hl hc hR=>obtain⟨u,hv,hr⟩:=zbR (P:=P) (w:=w) hl hc hR h;exact⟨u,hv,by simp[Instr.field,run_underlying hu,hfd,asAgg,hr]⟩
   .cases h
  .cases h
 .cases h
theorem zgw{t:TypeId}{x i v:PV}{p q:Value}(hw:WRel C H w)(hx:VRel C x p)(hi:VRel C i q)(h:zcy P H t x i=some v):
  ∃ u,VRel C v u/\(Instr.indexAt t p q).run P w= .ok u w:=by
 unfold zcy at h;split at h
 .rename_i e xs len full k i hu;obtain rfl:=zL hi;split at h
  .rename_i n hn;split at h
   .rename_i hh;injection h with h;subst h;cases hx with
    | @slice _ _ cap b o _ us hl hM hc hR hcap hmax hf=>
     refine⟨.pointer (some ⟨b,o+i.toNat * n,none⟩),.ip hl hM hc hR,?_⟩;simp[Instr.indexAt,asIntOf,run_underlying hu,zZ hn,hh.1,hh.2.1,Addr.add_lit]
    | sliceN=>omega
   .cases h
  .cases h
 .rename_i e id ver off len sz g k i hu;obtain rfl:=zL hi;split at h
  .rename_i n hn hlv;split at h
   .rename_i hh;injection h with h;subst h;have hv:=(zbV hw hlv).1;obtain⟨b,cap,off',hb,rfl,hc1,hc2,ho,_⟩|⟨ad,_,h0,_⟩:=zbC hw hx hv;rotate_left
    .omega
    obtain rfl:=ho om;refine⟨.pointer (some ⟨b,off'+i.toNat * n,none⟩),.ptr hb hv,?_⟩;simp[Instr.indexAt,asIntOf,run_underlying hu,zZ hn,hh.1,hh.2,Addr.add_lit]
   .cases h
  .cases h
 .rename_i len e id ver off k i hu;obtain rfl:=zL hi;split at h
  .rename_i n hn hlv;split at h
   .rename_i hh;injection h with h;subst h;have hv:=(zbV hw hlv).1;obtain⟨b,hb,rfl⟩:=zbW hw hx hv;refine⟨.pointer (some ⟨b,off+i.toNat * n,none⟩),.ptr hb hv,?_⟩;simp[Instr.indexAt,asIntOf,run_underlying hu,zZ hn,hh.1,hh.2,Addr.add_lit,Instr.sureAddr]
   .cases h
  .cases h
 .rename_i len e xs off k i hu;obtain rfl:=zL hi;split at h
  .rename_i n hn;split at h
   .rename_i hh;injection h with h;subst h;cases hx with
    | @ip _ _ b o us hl hM hc hR=>refine⟨.pointer (some ⟨b,o+(off+i.toNat * n),none⟩),.ip hl hM hc hR,?_⟩;simp[Instr.indexAt,asIntOf,run_underlying hu,zZ hn,hh.1,hh.2,Addr.add_lit,Instr.sureAddr,vT]
   .cases h
  .cases h
 .cases h
theorem zkv{t:TypeId}{x i v:PV}{p q:Value}(hx:VRel C x p)(hi:VRel C i q)(h:zkw P t x i=some v):∃ u,VRel C v u/\(Instr.index t p q).run P w= .ok u w:=by
 unfold zkw at h;split at h
 .rename_i len e cs k i hu;obtain rfl:=zL hi;split at h
  .rename_i n hn;split at h
   .rename_i hh;cases hx with
    | agg hl hc hR=>obtain⟨u,hv,hr⟩:=zbR (P:=P) (w:=w) hl hc hR h;exact⟨u,hv,by simp[Instr.index,asIntOf,run_underlying hu,zZ hn,hh.1,hh.2,hr]⟩
   .cases h
  .cases h
 .rename_i s k i hu;obtain rfl:=zL hi;split at h
  .rename_i hh;injection h with h;subst h;obtain⟨s',rfl,rfl⟩:=zbB hx;have hsz:s'.size=s'.data.toList.length:=by rfl
   have hlt:i.toNat<s'.size:=om;refine⟨_,.int _ _,?_⟩;have hg:s'[i.toNat]? =some s'[i.toNat]:=ByteArray.getElem?_lt' s' _ hlt;have hb:s'.data.toList.getD i.toNat 0=s'[i.toNat]:=by rw[uH,gG om,rK,Array.getElem_toList];rfl
   simp only[Instr.index,asIntOf,Sem.run_bind,Sem.run_pure,Result.andThen_ok,run_underlying hu,hh.1,wN,hg,hb]
  .cases h
 .cases h
def zoq(C:Ctx)(x:Option PV)(v:Option Value):Prop:=match x,v with|none,none=>True|some x,some v=>VRel C x v|_,_=>False
theorem za3{x:PV}{v:Value}{d n y:Nat}{code:BoundsCode}(hx:VRel C x v)(h:zaA d (some x)=some n)(hy:n<=y):(Instr.sliceBound v y code).run P w= .ok n w:=by
 unfold zaA at h;split at h
 .simp_all
 .rename_i k i hx';injection hx' with hx';subst hx';obtain rfl:=zL hx;split at h
  .injection h with h;subst h;have:i<=(y:Int):=om;simp[Instr.sliceBound,asIntOf, *]
  .cases h
 .cases h
theorem zaY{isSlice:Bool}{len cap l h m:Nat}{lo hi mx:Option PV}{lo' hi' mx':Option Value}(rlo:zoq C lo lo')(rhi:zoq C hi hi')(rmx:zoq C mx mx')
  (h1:zaA 0 lo=some l) (h2:zaA len hi=some h) (h3:(mx=none/\m=cap/\h<=cap)\/(zaA len mx=some m/\mx≠none/\hi≠none/\h<=m/\m<=cap)) (hlh:l<=h):
  (Instr.sliceBounds isSlice len cap lo' hi' mx').run P w= .ok (l,h,m) w:=by
 rcases h3 with⟨rfl,rfl,h4⟩|⟨h3,hm,hh,h4,h5⟩
 .cases mx' with
  | some _=>exact rmx.elim
  | none=>
   cases hi with
   | none=>
    cases hi' with
    | some _=>exact rhi.elim
    | none=>
     simp only[zaA,qA.injEq]at h2;subst h2;cases lo with
     | none=>
      cases lo' with
      | some _=>exact rlo.elim
      | none=>simp only[zaA,qA.injEq]at h1;subst h1;simp[Instr.sliceBounds]
     | some x=>
      cases lo' with
      | none=>exact rlo.elim
      | some v=>simp[Instr.sliceBounds,za3 (P:=P) (w:=w) rlo h1 hlh]
   | some y=>
    cases hi' with
    | none=>exact rhi.elim
    | some v'=>
     cases lo with
     | none=>
      cases lo' with
      | some _=>exact rlo.elim
      | none=>simp only[zaA,qA.injEq]at h1;subst h1;simp[Instr.sliceBounds,za3 (P:=P) (w:=w) rhi h2 h4]
     | some x=>
      cases lo' with
      | none=>exact rlo.elim
      | some v=>simp[Instr.sliceBounds,za3 (P:=P) (w:=w) rhi h2 h4,za3 (P:=P) (w:=w) rlo h1 hlh]
 .cases mx with
  | none=>exact absurd rfl hm
  | some z=>
   cases mx' with
   | none=>exact rmx.elim
   | some vz=>
    cases hi with
    | none=>exact absurd rfl hh
    | some y=>
     cases hi' with
     | none=>exact rhi.elim
     | some v'=>
      cases lo with
      | none=>
       cases lo' with
       | some _=>exact rlo.elim
       | none=>simp only[zaA,qA.injEq]at h1;subst h1;simp[Instr.sliceBounds,za3 (P:=P) (w:=w) rmx h3 h5,za3 (P:=P) (w:=w) rhi h2 h4]
      | some x=>
       cases lo' with
       | none=>exact rlo.elim
       | some v=>simp[Instr.sliceBounds,za3 (P:=P) (w:=w) rmx h3 h5,za3 (P:=P) (w:=w) rhi h2 h4,za3 (P:=P) (w:=w) rlo h1 hlh]
theorem zhJ{xs:List PV}{len cap b o l h m n:Nat}{full:Bool}{us:List Value}(hl:us.length=xs.length)(hM:∀(j:Nat) (u:Value),us[j]? =some u->C.M b (o+j)=some u)
  (hc:∀ x∈xs,x.cell=true) (hR:Rel C xs us) (hxs:xs.length=len * n) (h1:l<=h) (h2:h<=m) (h3:m<=cap) (h4:h<=len) (hmax:cap<=maxLen) (hf:full=true->m=h):
  VRel C (.slice ((xs.drop (l * n)).take ((h - l) * n)) (h - l) full) (.slice (if m=l then some ⟨b,o,none⟩else some ⟨b,o+l * n,none⟩) (h - l) (m - l)):=by
 have hln:(h - l) * n+l * n=h * n:=by rw[<-vE];congr 1;omega
 have hhn:h * n<=len * n:=gT n h4;have hlen:((us.drop (l * n)).take ((h - l) * n)).length=((xs.drop (l * n)).take ((h - l) * n)).length:=by simp[hl]
 split
 .have:h=l:=om;subst this;refine .slice (us:=[]) sp (λj u hu=>by simp at hu) (λx hx=>by simp at hx) (λj x u hx=>by simp at hx) om om (λhft=>by have:=hf hft;omega)
 .refine .slice hlen (λj u hu=> ?_) (λx hx=>hc x (wL (vI hx))) ((hR.drop _).take _) om om (λhft=>by have:=hf hft;omega);rw[vZ]at hu;split at hu
  .rw[wI]at hu;have:=hM _ u hu;rwa[<-vT]at this
  .cases hu
theorem zkt{t:TypeId}{x v:PV}{p:Value}{lo hi mx:Option PV}{lo' hi' mx':Option Value}(hw:WRel C H w)(hx:VRel C x p)(rlo:zoq C lo lo')(rhi:zoq C hi hi')(rmx:zoq C mx mx')
  (h:zii P H t x lo hi mx=some v):∃ u,VRel C v u/\(Instr.sliceAt t p lo' hi' mx').run P w= .ok u w:=by
 unfold zii at h;split at h
 .rename_i e xs len full hu;split at h
  .rename_i n l hh hn hl hhi;split at h
   .split at h
    .rename_i hq;injection h with h;subst h;cases hx with
     | @slice _ _ cap b o _ us hll hM hc hR hcap hmax hf=>
      have hb:=zaY (P:=P) (w:=w) (isSlice:=true) (cap:=cap) (m:=cap) rlo rhi rmx hl hhi (.inl ⟨rfl,rfl,om⟩) hq.1;refine⟨_,zhJ hll hM hc hR hq.2.2 hq.1 (by omega:hh<=cap) (gV _) hq.2.1 hmax (λhft=>by simp at hft;have:=hf hft.1;omega),?_⟩;simp[Instr.sliceAt,Instr.slice,run_underlying hu,hb,zZ hn,Addr.add_lit]
     | sliceN ad=>have hb:=zaY (P:=P) (w:=w) (isSlice:=true) (cap:=0) (m:=0) rlo rhi rmx hl hhi (.inl ⟨rfl,rfl,om⟩) hq.1;have e1:hh=0:=om;have e2:l=0:=om;subst e1 e2;refine⟨.slice ad 0 0,by simpa using VRel.sliceN (C:=C) ad _,?_⟩;cases ad<;>simp[Instr.sliceAt,Instr.slice,run_underlying hu,hb,zZ hn,Addr.add]
    .cases h
   .rename_i z;split at h
    .rename_i m y hm;split at h
     .rename_i hq;injection h with h;subst h;cases hx with
      | @slice _ _ cap b o _ us hll hM hc hR hcap hmax hf=>
       have hb:=zaY (P:=P) (w:=w) (isSlice:=true) (cap:=cap) (m:=m) rlo rhi rmx hl hhi (.inr ⟨hm,by simp,by simp,hq.2.1,om⟩) hq.1;refine⟨_,zhJ hll hM hc hR hq.2.2.2 hq.1 hq.2.1 (by omega:m<=cap) om hmax (λhft=>by simpa using hft),?_⟩;simp[Instr.sliceAt,Instr.slice,run_underlying hu,hb,zZ hn,Addr.add_lit]
      | sliceN ad=>have hb:=zaY (P:=P) (w:=w) (isSlice:=true) (cap:=0) (m:=m) rlo rhi rmx hl hhi (.inr ⟨hm,by simp,by simp,hq.2.1,om⟩) hq.1;have e3:m=0:=om;have e1:hh=0:=om;have e2:l=0:=om;subst e1 e2 e3;refine⟨.slice ad 0 0,by simpa using VRel.sliceN (C:=C) ad _,?_⟩;cases ad<;>simp[Instr.sliceAt,Instr.slice,run_underlying hu,hb,zZ hn,Addr.add]
     .cases h
    .cases h
  .cases h
 .rename_i e id ver off len sz g hu;split at h
  .rename_i n l hh hn hl hhi hlv;split at h
   .rename_i hq;injection h with h;subst h;have hv:=(zbV hw hlv).1;obtain⟨b,cap,off',hb',rfl,hc1,hc2,ho,hg⟩|⟨ad,hgh,h0,rfl⟩:=zbC hw hx hv;rotate_left
    .have e1:hh=0:=om;have e2:l=0:=om;subst e1 e2 h0;have hb:=zaY (P:=P) (w:=w) (isSlice:=true) (cap:=0) (m:=0) rlo rhi rmx hl hhi (.inl ⟨rfl,rfl,om⟩) hq.1;refine⟨.slice ad 0 0,.mslG ad hgh hv,?_⟩;cases ad<;>simp[Instr.sliceAt,Instr.slice,run_underlying hu,hb,zZ hn,Addr.add]
    have hb:=zaY (P:=P) (w:=w) (isSlice:=true) (cap:=cap) (m:=cap) rlo rhi rmx hl hhi (.inl ⟨rfl,rfl,om⟩) hq.1;have hrun:(Instr.sliceAt t (.slice (some ⟨b,off',none⟩) len cap) lo' hi' mx').run P w= .ok (.slice (if cap=l then some ⟨b,off',none⟩else some ⟨b,off'+l * n,none⟩) (hh - l) (cap - l)) w:=by simp[Instr.sliceAt,Instr.slice,run_underlying hu,hb,zZ hn,Addr.add_lit]
    refine⟨_,?_,hrun⟩;cases lo with
    | none=>
     simp only[zaA,qA.injEq]at hl;subst hl;simp only[vV,vQ,dM,ite_self];cases g with
     | true=>
      obtain⟨g1,g2,g3⟩:=hg rfl;subst g1 g2;exact .msl hb' hv om hc2 (λ_=>⟨rfl,g3⟩)
     | false=>
      rcases vS hh with h0|h0
      .subst h0;exact .mslE hb' hv hc2
      .obtain rfl:=ho om;exact .msl hb' hv om hc2 (λhf=>by cases hf)
    | some y=>
     show VRel C (.msl id ver (off+l * n) (hh - l) sz false) _;rcases vS (hh - l)with h0|h0
     .rw[h0];by_cases hcl:cap=l
      .rw[gD hcl];exact .mslE hb' hv om
      .rw[gC hcl];exact .mslE hb' hv om
     .obtain rfl:=ho om;rw[gC om];exact .msl hb' hv om om (λhf=>by cases hf)
   .cases h
  .cases h
 .rename_i len e id ver off hu;split at h
  .rename_i n l hh hn hl hhi hlv;split at h
   .rename_i hq;injection h with h;subst h;have hv:=(zbV hw hlv).1;obtain⟨b,hb',rfl⟩:=zbW hw hx hv;have hb:=zaY (P:=P) (w:=w) (isSlice:=false) (cap:=len) (m:=len) rlo rhi rmx hl hhi (.inl ⟨rfl,rfl,om⟩) hq.1;have hrun:(Instr.sliceAt t (.pointer (some ⟨b,off,none⟩)) lo' hi' mx').run P w= .ok (.slice (some (if len=l then⟨b,off,none⟩else⟨b,off+l * n,none⟩)) (hh - l) (len - l)) w:=by simp[Instr.sliceAt,run_underlying hu,hb,zZ hn,Addr.add_lit,Instr.sureAddr]
    refine⟨_,?_,hrun⟩;have hmx:len<=maxLen:=by simp only[maxLen];omega
    rcases vS (hh - l)with h0|h0
    .rw[h0];split
     .exact .mslE hb' hv om
     .exact .mslE hb' hv om
    .rw[gC om];exact .msl hb' hv om om (λhf=>by cases hf)
   .cases h
  .cases h
 .rename_i s hu;split at h
  .rename_i l hh hl hhi;split at h
   .rename_i hq;injection h with h;subst h;obtain⟨s',rfl,rfl⟩:=zbB hx;have hsz:s'.size=s'.data.toList.length:=by rfl
    cases mx' with
    | some _=>exact rmx.elim
    | none=>
     rw[<-hsz]at hhi;have hb:=zaY (P:=P) (w:=w) (isSlice:=false) (cap:=s'.size) (m:=s'.size) rlo rhi rmx hl hhi (.inl ⟨rfl,rfl,om⟩) hq.1;refine⟨.string (s'.extract l hh),?_,?_⟩
     .have:=VRel.str (C:=C) (s'.extract l hh);rw[ByteArray.data_extract,Array.toList_extract,mP]at this;exact this
     .simp[Instr.sliceAt,Instr.slice,run_underlying hu,hb]
   .cases h
  .cases h
 .cases h
end Go.Proofs.YtleejngibkbjnaaGreatDoor.Pm
