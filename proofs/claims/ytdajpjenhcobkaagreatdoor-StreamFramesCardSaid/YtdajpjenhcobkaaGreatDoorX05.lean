/-
  Parts of the proof. No condition.
-/
import Derived.Test.YtdajpjenhcobkaaGreatDoorX04
import Derived.Test.YtdajpjenhcobkaaGreatDoorProg
import Derived.KernelRfl
open Array renaming toList → jB
open Bool renaming eq_iff_iff → qA, false_eq_true → qL, and_eq_true → qN, false_and → qY
open Int renaming tmod_eq_emod_of_nonneg → qZ
open List renaming replicate → qD, length_append → qF, take_of_length_le → qH, set_append_right → qI, getElem?_append_right → qK, drop_of_length_le → qO, nil_append → qP, mem_of_getElem? → qQ, replicate_succ → qS, drop → qV, range → qW, mapM_cons → qX, mem_cons → jA, mem_map → jC, replicate_zero → jG
open Nat renaming beq → qE, strongRecOn → qG, mul_le_mul_right → qJ, mul_le_mul → qM, add_mul → qR, gcd_comm → qT, succ_mul → jE, gcd → jF
open Option renaming bind_eq_bind → jD
open Go.Proofs.Tryz renaming prog → qB, underlying5 → qU
set_option linter.all false
set_option maxRecDepth 100000
set_option maxHeartbeats 32000000
namespace Go.Proofs.YtdajpjenhcobkaaGreatDoor
namespace Pm
open Go.RowKit
variable {P:Program} {H:za} {F:Fr}
theorem zl0(ds:List (Option Nat))(o:Oper):stp P ds o F H=match zam ds F o with
  | none=>none
  | some b=>cond b (match pop P o.op (slot F) H with|some (v,H')=>some (put F o.dst v,H')|none=>none) (some (put F o.dst (.tup []),H)):=by
 unfold stp;cases zam ds F o with
 | none=>rfl
 | some b=>cases b<;>rfl
theorem zg{ds:List (Option Nat)}{l:List Oper}{K:Fr->za->Prop}{x:Bool}{A B:Option (Fr×za)}(h1:x=true->VO P ds l A K)(h2:x=false->VO P ds l B K):VO P ds l (cond x A B) K:=by
 cases x with
 | true=>exact h1 rfl
 | false=>exact h2 rfl
theorem zB{ds:List (Option Nat)}{l:List Oper}{K:Fr->za->Prop}{x:Bool}{A B:Option (Fr×za)}(h1:x=true->VOd P ds l A K)(h2:x=false->VOd P ds l B K):VOd P ds l (cond x A B) K:=by
 cases x with
 | true=>exact h1 rfl
 | false=>exact h2 rfl
theorem zal{ds:List (Option Nat)}{l:List Oper}{K:Fr->za->Prop}{x:Bool}{A B:Option (Fr×za)}(h1:x=true->VOg P ds l A K)(h2:x=false->VOg P ds l B K):VOg P ds l (cond x A B) K:=by
 cases x with
 | true=>exact h1 rfl
 | false=>exact h2 rfl
theorem VC.guard{ds:List (Option Nat)}{o:Oper}{K:Fr->za->Prop}{x:Bool}(ha:zam ds F o=some x)(h1:x=true->VC P ds { o with guard:=none } F H K)(h2:x=false->K (put F o.dst (.tup [])) H):VC P ds o F H K:=by
 cases x with
 | true=>
  have:=h1 rfl;unfold VC at this |-;rw[ha];exact this
 | false=>unfold VC;rw[ha];exact h2 rfl
theorem VCd.guard{ds:List (Option Nat)}{o:Oper}{K:Fr->za->Prop}{x:Bool}(ha:zam ds F o=some x)(h1:x=true->VCd P ds { o with guard:=none } F H K)(h2:x=false->K (put F o.dst (.tup [])) H):VCd P ds o F H K:=by
 cases x with
 | true=>
  have:=h1 rfl;unfold VCd at this |-;rw[ha];exact this
 | false=>unfold VCd;rw[ha];exact h2 rfl
def VCx(P:Program)(o:Oper)(F:Fr)(H:za)(K:Fr->za->Prop):Prop:=
 match zn o.op (slot F)with
 | some (g,args)=>∃ R,CallEx P g args H R/\∀ v H',R v H'->K (put F o.dst v) H'
 | none=>False
def VCy(P:Program)(o:Oper)(F:Fr)(H:za)(K:Fr->za->Prop):Prop:=
 match zn o.op (slot F)with
 | some (g,args)=>∃ v,(CallOk P g args H v H/\(zaD o.op=true->∀ K,CallOk P g args K v K))/\K (put F o.dst v) H
 | none=>False
theorem zxY(ds:List (Option Nat))(o:Oper)(K:Fr->za->Prop):VC P ds o F H K=match zam ds F o with
  | none=>False
  | some b=>(b=true->VCx P o F H K)/\(b=false->K (put F o.dst (.tup [])) H):=by
 unfold VC VCx;cases zam ds F o with
 | none=>rfl
 | some b=>cases b<;>simp<;>exact Iff.rfl
theorem zwO(ds:List (Option Nat))(o:Oper)(K:Fr->za->Prop):VCd P ds o F H K=match zam ds F o with
  | none=>False
  | some b=>(b=true->VCy P o F H K)/\(b=false->K (put F o.dst (.tup [])) H):=by
 unfold VCd VCy;cases zam ds F o with
 | none=>rfl
 | some b=>cases b<;>simp<;>exact Iff.rfl
def VCz(P:Program)(o:Oper)(F:Fr)(H:za)(K:Fr->za->Prop):Prop:=
 match zn o.op (slot F)with
 | some (g,args)=>∃ v,((∀ L,CallOk P g args (H++L) v (H++L))/\(zaD o.op=true->∀ K,CallOk P g args K v K))/\K (put F o.dst v) H
 | none=>False
theorem zwN(ds:List (Option Nat))(o:Oper)(K:Fr->za->Prop):VCg P ds o F H K=match zam ds F o with
  | none=>False
  | some b=>(b=true->VCz P o F H K)/\(b=false->K (put F o.dst (.tup [])) H):=by
 unfold VCg VCz;cases zam ds F o with
 | none=>rfl
 | some b=>cases b<;>simp<;>exact Iff.rfl
theorem VCz.call{o:Oper}{K:Fr->za->Prop}{g:FuncId}{args:List PV}{v:PV}(h:∀ L,CallOk P g args (H++L) v (H++L))(hc:zn o.op (slot F)=some (g,args))(hk:K (put F o.dst v) H)(hp:zaD o.op=false:=by rfl):VCz P o F H K:=by unfold VCz;simp only[hc];exact⟨v,⟨h,λe=>by rw[hp]at e;cases e⟩,hk⟩
theorem VCx.call{o:Oper}{K:Fr->za->Prop}{g:FuncId}{args:List PV}{v:PV}{H':za}(h:CallOk P g args H v H')(hc:zn o.op (slot F)=some (g,args))(hk:K (put F o.dst v) H'):VCx P o F H K:=by unfold VCx;simp only[hc];exact⟨_,h.toEx,λv' H'' e=>by rw[e.1,e.2];exact hk⟩
theorem VCx.callR{o:Oper}{K:Fr->za->Prop}{g:FuncId}{args:List PV}{R:PV->za->Prop}(h:CallEx P g args H R)(hc:zn o.op (slot F)=some (g,args))(hk:∀ v H',R v H'->K (put F o.dst v) H'):VCx P o F H K:=by unfold VCx;simp only[hc];exact⟨R,h,hk⟩
theorem VCy.call{o:Oper}{K:Fr->za->Prop}{g:FuncId}{args:List PV}{v:PV}(h:CallOk P g args H v H)(hc:zn o.op (slot F)=some (g,args))(hk:K (put F o.dst v) H)(hp:zaD o.op=false:=by rfl):VCy P o F H K:=by unfold VCy;simp only[hc];exact⟨v,⟨h,λe=>by rw[hp]at e;cases e⟩,hk⟩
theorem VCy.callP{o:Oper}{K:Fr->za->Prop}{g:FuncId}{args:List PV}{v:PV}(h:∀ K,CallOk P g args K v K)(hc:zn o.op (slot F)=some (g,args))(hk:K (put F o.dst v) H):VCy P o F H K:=by unfold VCy;simp only[hc];exact⟨v,⟨h H,λ_=>h⟩,hk⟩
theorem zqU(k k':IntKind)(a b:Int):zbb .add k a k' b=if k=k' then some (.int k (k.wrap (a+b)))else none:=rfl
theorem zqK(k k':IntKind)(a b:Int):zbb .sub k a k' b=if k=k' then some (.int k (k.wrap (a - b)))else none:=rfl
theorem zqO(k k':IntKind)(a b:Int):zbb .mul k a k' b=if k=k' then some (.int k (k.wrap (a * b)))else none:=rfl
theorem zqT(k k':IntKind)(a b:Int):zbb .eql k a k' b=if k=k' then some (.bool (a==b))else none:=rfl
theorem zqN(k k':IntKind)(a b:Int):zbb .neq k a k' b=if k=k' then some (.bool (a !=b))else none:=rfl
theorem zqP(k k':IntKind)(a b:Int):zbb .lss k a k' b=if k=k' then some (.bool (decide (a<b)))else none:=rfl
theorem zqQ(k k':IntKind)(a b:Int):zbb .leq k a k' b=if k=k' then some (.bool (decide (a<=b)))else none:=rfl
theorem zqR(k k':IntKind)(a b:Int):zbb .gtr k a k' b=if k=k' then some (.bool (decide (b<a)))else none:=rfl
theorem zqS(k k':IntKind)(a b:Int):zbb .geq k a k' b=if k=k' then some (.bool (decide (b<=a)))else none:=rfl
theorem zqM(k k':IntKind)(a b:Int):zbb .quo k a k' b=if k=k' then(if b=0 then none else some (.int k (k.wrap (a.tdiv b))))else none:=rfl
theorem zqL(k k':IntKind)(a b:Int):zbb .rem k a k' b=if k=k' then(if b=0 then none else some (.int k (a.tmod b)))else none:=rfl
theorem hp4(H K:za)(a b c d e:Blk):(H++a::b::c::d::e::K)[H.length+4]? =some e:=by rw[qK om];simp
theorem hp5(H K:za)(a b c d e f:Blk):(H++a::b::c::d::e::f::K)[H.length+5]? =some f:=by rw[qK om];simp
theorem hp6(H K:za)(a b c d e f g:Blk):(H++a::b::c::d::e::f::g::K)[H.length+6]? =some g:=by rw[qK om];simp
theorem hs3(H K:za)(a b c d x:Blk):(H++a::b::c::d::K).set (H.length+3) x=H++a::b::c::x::K:=by rw[qI _ _ om];simp
theorem hs4(H K:za)(a b c d e x:Blk):(H++a::b::c::d::e::K).set (H.length+4) x=H++a::b::c::d::x::K:=by rw[qI _ _ om];simp
theorem hs5(H K:za)(a b c d e f x:Blk):(H++a::b::c::d::e::f::K).set (H.length+5) x=H++a::b::c::d::e::x::K:=by rw[qI _ _ om];simp
theorem hs6(H K:za)(a b c d e f g x:Blk):(H++a::b::c::d::e::f::g::K).set (H.length+6) x=H++a::b::c::d::e::f::x::K:=by rw[qI _ _ om];simp
theorem hl4(H:za)(a b c d:Blk):(H++[a,b,c,d]).length=H.length+4:=by simp
theorem hl5(H:za)(a b c d e:Blk):(H++[a,b,c,d,e]).length=H.length+5:=by simp
theorem hl6(H:za)(a b c d e f:Blk):(H++[a,b,c,d,e,f]).length=H.length+6:=by simp
attribute [go_sem] hp4 hp5 hp6 hs3 hs4 hs5 hs6 hl4 hl5 hl6 zqU zqK zqO zqT zqN zqP zqQ zqR zqS zqM zqL zxY zwO zwN VRg zul zlM   VCh stpH zlD zjB zmu zhA rsv zbT zoq znx zeD zM zaP eff zpa zaZ zt3 zr6 zo9 Op.operands true_implies Bool.true_eq_false qL VR zwM zun VRd zum zcA zJ zl0 zam zn pop zds zmH zbO zdE zdD zaL ev pvc pv1 slot put qE zfZ ztj peq zcX zdZ ze9 zeM zir zcB zew qW qW.loop pun Option.map Option.bind zbK zaT zeC rd zdF wr zdl zav zjH zau zjE zaF zcQ zdG zb8 zk5 zbx zgn zto zoH ze6 zx ziq zcF zd3 zgV PV.cells PV.cell zdo zcI za2 Option.isSome_some Option.isSome_none kp hp0 hp1 hp2 hp3 hs0 hs1 hs2 hl1 hl2 hl3 List.append_assoc Nat.beq_refl List.length_cons List.length_nil List.all_cons List.all_nil zW zb8 qS jG List.flatten_cons List.flatten_nil List.take_succ_cons List.take_zero List.take_nil List.drop_succ_cons List.drop_zero List.drop_nil Nat.zero_mul Nat.sub_self true_implies false_implies and_true true_and false_and and_false and_self not_true_eq_false not_false_eq_true qL qY Bool.and_false Bool.true_or Bool.or_true Bool.false_or Bool.or_false if_true if_false ite_true ite_false forall_const List.map_cons List.map_nil List.cons_append qP List.append_nil jB Nat.zero_add Nat.add_zero Nat.mul_one Nat.one_mul beq_self_eq_true Bool.true_and Bool.and_true List.getElem?_cons_succ List.getElem?_cons_zero List.getElem?_toArray List.set_cons_zero List.set_cons_succ beq_true beq_false Bool.not_true Bool.not_false decide_true decide_false cond_true cond_false zwd zwe w64 w8 w32 zxO zxP zxV zxW zxR zxS Int.toNat_natCast IntWalk.toNatUp
class Ld(P:Program)(E:Env)(c:Code)(Q:Exit->Fr->za->Prop)(r:outParam Code)(R:outParam (Exit->Fr->za->Prop)):Prop where
 h:∀ F H,PW P E r F H R->PW P E c F H Q
instance ld0{P:Program}{E:Env}{Q:Exit->Fr->za->Prop}{id:Nat}{ops:Array Oper}{b:Bool}:Ld P E (.region id ops b) Q (.region id ops b) Q:=⟨λ_ _ h=>h⟩
instance ld1{P:Program}{E:Env}{Q R:Exit->Fr->za->Prop}{x y r:Code}[k:Ld P E x (ziA (λF' H'=>PW P E y F' H' Q) Q) r R]:Ld P E (.seq x y) Q r R:=⟨λF H h=>PW.seq (k.h F H h)⟩
theorem PW.e{P:Program}{E:Env}{F:Fr}{H:za}{Q R:Exit->Fr->za->Prop}{c:Code}{id:Nat}{ops:Array Oper}{F':Fr}{H':za}[k:Ld P E c Q (.region id ops false) R](hq:R .normal F' H')(hd:ops.toList.all (zU E.N)=true:=by rfl)(h:∀ K:Fr->za->Prop,K F' H'->VO P (ops.toList.map (·.dst)) ops.toList (some (F,H)) K:=by(intro K k;simp(maxSteps:=3000000) (disch:=omega) only[go_sem];exact k)):PW P E c F H Q:=k.h _ _ (PW.rg hd λK hK=>h K (hK _ _ hq))
theorem PW.f{P:Program}{E:Env}{F:Fr}{H:za}{Q R:Exit->Fr->za->Prop}{c:Code}{id:Nat}{ops:Array Oper}{F':Fr}{H':za}[k:Ld P E c Q (.region id ops false) R](h:∀ K:Fr->za->Prop,K F' H'->VO P (ops.toList.map (·.dst)) ops.toList (some (F,H)) K)(hq:R .normal F' H')(hd:ops.toList.all (zU E.N)=true:=by rfl):PW P E c F H Q:=k.h _ _ (PW.rg hd λK hK=>h K (hK _ _ hq))
instance ld2{P:Program}{E:Env}{Q:Exit->Fr->za->Prop}{o:Operand}{a b:Code}:Ld P E (.cond o a b) Q (.cond o a b) Q:=⟨λ_ _ h=>h⟩
theorem PW.t{P:Program}{E:Env}{F:Fr}{H:za}{Q R:Exit->Fr->za->Prop}{c:Code}{o:Operand}{a b:Code}[k:Ld P E c Q (.cond o a b) R](h:PW P E a F H R)(e:ev (slot F) o= .bool true:=by rfl):PW P E c F H Q:=k.h _ _ (PW.cond e (λ_=>h) (λh=>by cases h))
theorem PW.u{P:Program}{E:Env}{F:Fr}{H:za}{Q R:Exit->Fr->za->Prop}{c:Code}{o:Operand}{a b:Code}[k:Ld P E c Q (.cond o a b) R](h:PW P E b F H R)(e:ev (slot F) o= .bool false:=by rfl):PW P E c F H Q:=k.h _ _ (PW.cond e (λh=>by cases h) (λ_=>h))
theorem PW.us{P:Program}{E:Env}{F:Fr}{H:za}{Q R:Exit->Fr->za->Prop}{c:Code}{o:Operand}{a:Code}[k:Ld P E c Q (.cond o a .skip) R](h:R .normal F H)(e:ev (slot F) o= .bool false:=by rfl):PW P E c F H Q:=PW.u (k:=k) (PW.skip h) e
theorem PW.g{P:Program}{E:Env}{F:Fr}{H:za}{Q R:Exit->Fr->za->Prop}{c:Code}{id:Nat}{ops:Array Oper}{F':Fr}{H':za}[k:Ld P E c Q (.region id ops false) R]{p:Prop}(x:p)(hq:R .normal F' H')(hd:ops.toList.all (zU E.N)=true:=by rfl)(h:∀ K:Fr->za->Prop,K F' H'->p->VO P (ops.toList.map (·.dst)) ops.toList (some (F,H)) K:=by(intro K k x;simp(maxSteps:=3000000) (disch:=omega) only[go_sem,x];exact k)):PW P E c F H Q:=k.h _ _ (PW.rg hd λK hK=>h K (hK _ _ hq) x)
theorem PW.k{P:Program}{E:Env}{F:Fr}{H:za}{Q R:Exit->Fr->za->Prop}{c:Code}{id:Nat}{ops:Array Oper}{F':Fr}{H':za}[k:Ld P E c Q (.region id ops false) R]{p:Prop}(x:p)(hq:R .normal F' H')(hd:ops.toList.all (zU E.N)=true:=by rfl)(h:∀ K:Fr->za->Prop,K F' H'->p->VO P (ops.toList.map (·.dst)) ops.toList (some (F,H)) K:=by(intro K k x;simp(maxSteps:=3000000) (disch:=omega) only[go_sem];refine VCx.call (x _) rfl ?_;simp(maxSteps:=3000000) (disch:=omega) only[go_sem];exact k)):PW P E c F H Q:=k.h _ _ (PW.rg hd λK hK=>h K (hK _ _ hq) x)
theorem PW.m{P:Program}{E:Env}{F:Fr}{H:za}{Q R:Exit->Fr->za->Prop}{c:Code}{id:Nat}{ops:Array Oper}{F':Fr}{H':za}[k:Ld P E c Q (.region id ops false) R]{p q:Prop}(y:q)(x:p)(hq:R .normal F' H')(hd:ops.toList.all (zU E.N)=true:=by rfl)(h:∀ K:Fr->za->Prop,K F' H'->q->p->VO P (ops.toList.map (·.dst)) ops.toList (some (F,H)) K:=by(intro K k y x;simp(maxSteps:=3000000) (disch:=omega) only[go_sem,y];refine VCx.call (x _) rfl ?_;simp(maxSteps:=3000000) (disch:=omega) only[go_sem,y];exact k)):PW P E c F H Q:=k.h _ _ (PW.rg hd λK hK=>h K (hK _ _ hq) y x)
theorem PW.m2{P:Program}{E:Env}{F:Fr}{H:za}{Q R:Exit->Fr->za->Prop}{c:Code}{id:Nat}{ops:Array Oper}{F':Fr}{H':za}[k:Ld P E c Q (.region id ops false) R]{p q r:Prop}(y:q)(x:p)(z:r)(hq:R .normal F' H')(hd:ops.toList.all (zU E.N)=true:=by rfl)(h:∀ K:Fr->za->Prop,K F' H'->q->p->r->VO P (ops.toList.map (·.dst)) ops.toList (some (F,H)) K:=by(intro K k y x z;simp(maxSteps:=3000000) (disch:=omega) only[go_sem,y];refine VCx.call (x _) rfl ?_;simp(maxSteps:=3000000) (disch:=omega) only[go_sem,y];refine VCx.call (z _) rfl ?_;simp(maxSteps:=3000000) (disch:=omega) only[go_sem,y];exact k)):PW P E c F H Q:=k.h _ _ (PW.rg hd λK hK=>h K (hK _ _ hq) y x z)
theorem CallOk.go{P:Program}{H:za}{N:Nat}{f:FuncId}{fn:Func}{c:Code}{rs:Array ResultVar}{F0:Fr}{args:List PV}{v:PV}{Hout:za}(hf:P.funcs[f]? =some fn)(hN:fn.ntmps=N)(hrs:fn.results=rs)(h:PW P ⟨N,H⟩ c F0 H (zta P rs.toList (Fin H v Hout)))(hF:zcy args 0=F0:=by(simp only[zcy,Nat.reduceAdd];rfl))(hb:fn.body=some c:=by rfl)(hcall:zaR P f=true:=by kernel_rfl)(hn:Nat.ble args.length N=true:=by rfl):CallOk P f args H v Hout:=CallOk.body hf hb hN hrs hF hcall hn h
theorem nq2{p q:Prop}(a:p)(b:q):p/\q:=⟨a,b⟩
instance ld3{P:Program}{E:Env}{Q:Exit->Fr->za->Prop}{id:Nat}{c:Code}:Ld P E (.block id c) Q (.block id c) Q:=⟨λ_ _ h=>h⟩
theorem PW.b{P:Program}{E:Env}{F:Fr}{H:za}{Q R:Exit->Fr->za->Prop}{c x:Code}{id:Nat}[k:Ld P E c Q (.block id x) R](h:PW P E x F H (zd8 id R)):PW P E c F H Q:=k.h _ _ (PW.block h)
theorem PW.l{P:Program}{E:Env}{F:Fr}{H:za}{Q R:Exit->Fr->za->Prop}{c x:Code}{id:Nat}[k:Ld P E c Q (.block id (.loop x)) R](h:PL P E x F H (zd8 id R)):PW P E c F H Q:=k.h _ _ (PW.block (PW.loop h))
theorem PW.c{P:Program}{E:Env}{F:Fr}{H:za}{Q R:Exit->Fr->za->Prop}{c:Code}{o:Operand}{a b:Code}{t:Bool}[k:Ld P E c Q (.cond o a b) R](h1:t=true->PW P E a F H R)(h2:t=false->PW P E b F H R)(e:ev (slot F) o= .bool t:=by rfl):PW P E c F H Q:=k.h _ _ (PW.cond e h1 h2)
theorem PW.v{P:Program}{E:Env}{F:Fr}{H:za}{Q:Exit->Fr->za->Prop}{rs:List ResultVar}{R:PV->Prop}(v:PV)(h:R v)(c:(∃ u,zk P rs (slot F) H=some u/\R u)=Q .ret F H:=by rfl)(e:zk P rs (slot F) H=some v:=by(simp(maxSteps:=3000000) (disch:=omega) only[go_sem,zk,zo,List.mapM_cons,List.mapM_nil,Option.pure_def,Option.bind_eq_bind,Option.bind_some,Array.toList])):PW P E .ret F H Q:=PW.ret (c▸⟨v,e,h⟩)
theorem PW.w{P:Program}{E:Env}{F:Fr}{H:za}{Q:Exit->Fr->za->Prop}{rs:List ResultVar}{R:PV->Prop}(v:PV){p:Prop}(x:p)(h:R v)(c:(∃ u,zk P rs (slot F) H=some u/\R u)=Q .ret F H:=by rfl)(e:p->zk P rs (slot F) H=some v:=by(intro x;simp(maxSteps:=3000000) (disch:=omega) only[go_sem,zk,zo,List.mapM_cons,List.mapM_nil,Option.pure_def,Option.bind_eq_bind,Option.bind_some,Array.toList,x])):PW P E .ret F H Q:=PW.ret (c▸⟨v,e x,h⟩)
attribute [go_sem] pappend.eq_1 zgx
theorem nqb:(∀ b:Bool,((!b)=true)=(b=false))/\(∀ b:Bool,((!b)=false)=(b=true))/\(∀(p:Prop) [Decidable p],(decide p=true)=p)/\(∀(p:Prop) [Decidable p],(decide p=false)=¬ p):=⟨λb=>by cases b<;>simp,λb=>by cases b<;>simp,λp _=>by simp,λp _=>by simp⟩
theorem sqz{p q:Prop}(k:q)(h:q->p:=by(intro k;simp(maxSteps:=3000000) (disch:=omega) only[go_sem];exact k)):p:=h k
theorem sqx{p q f:Prop}(x:f)(k:q)(h:f->q->p:=by(intro x k;simp(maxSteps:=3000000) (disch:=omega) only[go_sem,x];exact k)):p:=h x k
end Pm
namespace Ty
open Pm
abbrev szB(k a b:Nat):Prop:=szT qB k=some a/\byT qB k=some b
abbrev szZ(k:Nat)(l:List PV):Prop:=zaz qB k=some l
theorem sz0:szB 0 1 0/\szB 1 1 8/\szB 2 1 8/\szB 3 1 8/\szB 4 1 1/\szB 5 1 1/\szB 6 1 1/\szB 7 4 24/\szB 8 4 24/\szB 9 1 16/\szB 11 1 16/\szB 13 2 24/\szB 15 1 8/\szB 16 1 8/\szB 18 1 8/\szB 19 1 8/\szB 20 1 16/\szB 21 1 4/\szB 23 2 16/\szB 24 64 64/\szB 25 135 184/\szB 26 135 184/\szB 27 1 24/\szB 28 1 24/\szB 30 5 88/\szB 32 6 32/\szB 33 6 32/\szB 34 1 24/\szB 35 1 24/\szB 36 8 80/\szB 37 8 80/\szB 38 3 16/\szB 39 3 16/\szB 40 148 296/\szB 41 148 296/\szB 42 1 24/\szB 43 1 8/\szB 44 1 0/\szB 46 1 8/\szB 47 1 8:=by and_intros<;>kernel_rfl
theorem sz40:szB 49 1 24/\szB 50 1 8/\szB 52 11 136/\szB 53 11 136/\szB 54 2 32/\szB 55 2 32/\szB 57 15 264/\szB 58 15 264/\szB 59 1 24/\szB 60 1 0/\szB 61 1 8/\szB 62 1 8/\szB 63 1 0/\szB 64 1 8/\szB 65 1 8/\szB 67 1 0/\szB 69 1 24/\szB 71 1 8/\szB 72 1 8/\szB 73 1 24/\szB 74 1 8/\szB 75 6 48/\szB 76 6 48/\szB 77 147 264/\szB 78 147 264/\szB 79 1 8/\szB 80 1 24/\szB 81 1 8/\szB 83 1 8/\szB 84 6 48/\szB 86 6 96/\szB 87 1 8/\szB 88 1 8/\szB 89 1 8/\szB 91 1 8/\szB 92 1 8/\szB 93 1 0/\szB 95 1 24/\szB 96 1 0/\szB 97 1 8:=by and_intros<;>kernel_rfl
theorem sz80:szB 98 2 2/\szB 99 2 16/\szB 100 2 16/\szB 101 4 32/\szB 102 8 64/\szB 103 2 16/\szB 104 4 32/\szB 105 6 6/\szB 106 64 512/\szB 107 384 3072/\szB 108 408 3200/\szB 109 408 3200/\szB 110 1 8/\szB 111 4 24/\szB 112 4 24/\szB 113 1 8/\szB 114 1 8/\szB 115 1 8/\szB 116 1 24/\szB 117 1 8/\szB 118 4 32/\szB 119 4 32/\szB 120 1 8/\szB 121 1 8/\szB 122 1 8/\szB 125 4 24/\szB 127 1 8/\szB 128 1 24/\szB 129 3 56/\szB 130 3 56/\szB 131 1 0/\szB 133 1 8/\szB 139 1 8/\szB 140 3 40/\szB 145 2 16/\szB 146 2 16/\szB 148 1 8/\szB 149 1 8/\szB 150 6 64/\szB 155 145 248:=by and_intros<;>kernel_rfl
theorem zxb:szB 158 145 296/\szB 159 145 296/\szB 160 1 8/\szB 161 1 8/\szB 164 1 8/\szB 165 1 0/\szB 166 1 8/\szB 167 1 0/\szB 169 1 4/\szB 170 1 0/\szB 172 3 24/\szB 174 8 64/\szB 175 1 8/\szB 176 1 0/\szB 177 1 8/\szB 183 1 8/\szB 184 1 8/\szB 185 1 8/\szB 187 1 0/\szB 188 1 8/\szB 193 1 0/\szB 196 1 8/\szB 198 1 0/\szB 206 1 8/\szB 216 1 0/\szB 220 1 8/\szB 230 3 40/\szB 231 3 40/\szB 235 15 112/\szB 236 1 8/\szB 238 1 8/\szB 239 1 24/\szB 247 1 8/\szB 250 1 8/\szB 251 1 0/\szB 253 8 64/\szB 254 1 0/\szB 259 1 8/\szB 269 1 8/\szB 274 1 8:=by and_intros<;>kernel_rfl
theorem zxa:szB 285 1 8/\szB 289 1 8/\szB 293 1 0/\szB 296 1 0/\szB 298 1 0/\szB 302 1 8/\szB 304 1 8/\szB 308 8 64/\szB 309 64 512/\szB 312 64 512/\szB 314 10 176/\szB 316 4 32/\szB 320 2 32/\szB 324 1 8/\szB 332 1 8/\szB 343 1 8/\szB 345 1 8/\szB 346 1 0/\szB 349 1 8/\szB 356 1 8/\szB 363 1 8/\szB 372 4 40/\szB 373 4 40/\szB 376 0 0/\szB 380 1 8:=by and_intros<;>kernel_rfl
theorem zc0:szZ 2 [.int .i64 0]/\szZ 3 [.int .i64 0]/\szZ 4 [.bool false]/\szZ 5 [.int .u8 0]/\szZ 6 [.int .u8 0]/\szZ 7 [.int .i64 0,.int .i64 0,.bool false,.int .u8 0]/\szZ 8 [.int .i64 0,.int .i64 0,.bool false,.int .u8 0]/\szZ 9 [.str []]/\szZ 11 [.str []]/\szZ 13 [.str [],.int .u64 0]/\szZ 15 [.nilp]/\szZ 16 [.nilp]/\szZ 18 [.nilp]/\szZ 19 [.nilp]/\szZ 21 [.int .i32 0]/\szZ 23 [.int .i64 0,.int .i64 0]/\szZ 24 (qD 64 (PV.int .u8 0):List PV)/\szZ 25 (([.int .i64 0,.int .i64 0,.int .i64 0,.int .i64 0,.bool false,.int .i64 0,.int .i64 0]:List PV)++(qD 128 (PV.int .u8 0):List PV))/\szZ 26 (([.int .i64 0,.int .i64 0,.int .i64 0,.int .i64 0,.bool false,.int .i64 0,.int .i64 0]:List PV)++(qD 128 (PV.int .u8 0):List PV))/\szZ 27 [.slice [] 0 true]/\szZ 28 [.slice [] 0 true]/\szZ 30 [.int .i64 0,.int .i64 0,.slice [] 0 true,.slice [] 0 true,.slice [] 0 true]/\szZ 32 [.int .i64 0,.int .i64 0,.int .i64 0,.bool false,.bool false,.bool false]/\szZ 33 [.int .i64 0,.int .i64 0,.int .i64 0,.bool false,.bool false,.bool false]/\szZ 34 [.slice [] 0 true]/\szZ 35 [.slice [] 0 true]/\szZ 36 [.int .i64 0,.int .i64 0,.int .i64 0,.bool false,.bool false,.bool false,.slice [] 0 true,.slice [] 0 true]/\szZ 37 [.int .i64 0,.int .i64 0,.int .i64 0,.bool false,.bool false,.bool false,.slice [] 0 true,.slice [] 0 true]/\szZ 38 [.bool false,.bool false,.int .i64 0]/\szZ 39 [.bool false,.bool false,.int .i64 0]/\szZ 40 (([.int .i64 0,.int .i64 0,.int .i64 0,.int .i64 0,.int .i64 0,.bool false,.int .i64 0,.int .i64 0]:List PV)++(qD 128 (PV.int .u8 0):List PV)++([.bool false,.bool false,.int .i64 0,.int .i64 0,.int .i64 0,.int .i64 0,.bool false,.bool false,.bool false,.slice [] 0 true,.slice [] 0 true,.int .i64 0]:List PV))/\szZ 41 (([.int .i64 0,.int .i64 0,.int .i64 0,.int .i64 0,.int .i64 0,.bool false,.int .i64 0,.int .i64 0]:List PV)++(qD 128 (PV.int .u8 0):List PV)++([.bool false,.bool false,.int .i64 0,.int .i64 0,.int .i64 0,.int .i64 0,.bool false,.bool false,.bool false,.slice [] 0 true,.slice [] 0 true,.int .i64 0]:List PV))/\szZ 42 [.slice [] 0 true]/\szZ 43 [.int .i64 0]/\szZ 49 [.slice [] 0 true]/\szZ 52 [.int .i64 0,.int .i64 0,.slice [] 0 true,.slice [] 0 true,.slice [] 0 true,.int .i64 0,.int .i64 0,.int .i64 0,.bool false,.int .i64 0,.bool false]/\szZ 53 [.int .i64 0,.int .i64 0,.slice [] 0 true,.slice [] 0 true,.slice [] 0 true,.int .i64 0,.int .i64 0,.int .i64 0,.bool false,.int .i64 0,.bool false]/\szZ 54 [.int .i64 0,.slice [] 0 true]/\szZ 55 [.int .i64 0,.slice [] 0 true]/\szZ 57 [.int .i64 0,.int .i64 0,.slice [] 0 true,.slice [] 0 true,.slice [] 0 true,.int .i64 0,.int .i64 0,.slice [] 0 true,.slice [] 0 true,.slice [] 0 true,.int .i64 0,.int .i64 0,.slice [] 0 true,.slice [] 0 true,.slice [] 0 true]:=by and_intros<;>(show _=_;kernel_rfl)
theorem zc40:szZ 58 [.int .i64 0,.int .i64 0,.slice [] 0 true,.slice [] 0 true,.slice [] 0 true,.int .i64 0,.int .i64 0,.slice [] 0 true,.slice [] 0 true,.slice [] 0 true,.int .i64 0,.int .i64 0,.slice [] 0 true,.slice [] 0 true,.slice [] 0 true]/\szZ 59 [.slice [] 0 true]/\szZ 69 [.slice [] 0 true]/\szZ 73 [.slice [] 0 true]/\szZ 75 [.int .i64 0,.int .i64 0,.int .i64 0,.int .i64 0,.int .i64 0,.int .i64 0]/\szZ 76 [.int .i64 0,.int .i64 0,.int .i64 0,.int .i64 0,.int .i64 0,.int .i64 0]/\szZ 77 (([.int .i64 0,.int .i64 0,.int .i64 0,.int .i64 0,.int .i64 0,.int .i64 0,.int .i64 0,.int .i64 0,.int .i64 0,.int .i64 0,.bool false,.int .i64 0,.int .i64 0]:List PV)++(qD 128 (PV.int .u8 0):List PV)++([.int .i64 0,.int .i64 0,.int .i64 0,.bool false,.bool false,.bool false]:List PV))/\szZ 78 (([.int .i64 0,.int .i64 0,.int .i64 0,.int .i64 0,.int .i64 0,.int .i64 0,.int .i64 0,.int .i64 0,.int .i64 0,.int .i64 0,.bool false,.int .i64 0,.int .i64 0]:List PV)++(qD 128 (PV.int .u8 0):List PV)++([.int .i64 0,.int .i64 0,.int .i64 0,.bool false,.bool false,.bool false]:List PV))/\szZ 80 [.slice [] 0 true]/\szZ 84 [.int .i64 0,.int .i64 0,.int .i64 0,.int .i64 0,.int .i64 0,.int .i64 0]/\szZ 86 [.int .i64 0,.int .i64 0,.slice [] 0 true,.slice [] 0 true,.slice [] 0 true,.bool false]/\szZ 95 [.slice [] 0 true]/\szZ 98 [.bool false,.bool false]/\szZ 99 [.int .i64 0,.int .i64 0]/\szZ 100 [.int .i64 0,.int .i64 0]/\szZ 101 [.int .i64 0,.int .i64 0,.int .i64 0,.int .i64 0]/\szZ 102 [.int .i64 0,.int .i64 0,.int .i64 0,.int .i64 0,.int .i64 0,.int .i64 0,.int .i64 0,.int .i64 0]/\szZ 103 [.int .i64 0,.int .i64 0]/\szZ 104 [.int .i64 0,.int .i64 0,.int .i64 0,.int .i64 0]/\szZ 105 [.bool false,.bool false,.bool false,.bool false,.bool false,.bool false]/\szZ 106 (qD 64 (PV.int .i64 0):List PV)/\szZ 107 (qD 384 (PV.int .i64 0):List PV)/\szZ 108 (([.int .i64 0,.bool false,.bool false,.bool false,.bool false]:List PV)++(qD 13 (PV.int .i64 0):List PV)++([.bool false,.bool false,.bool false,.bool false,.bool false,.bool false]:List PV)++(qD 384 (PV.int .i64 0):List PV))/\szZ 109 (([.int .i64 0,.bool false,.bool false,.bool false,.bool false]:List PV)++(qD 13 (PV.int .i64 0):List PV)++([.bool false,.bool false,.bool false,.bool false,.bool false,.bool false]:List PV)++(qD 384 (PV.int .i64 0):List PV))/\szZ 111 [.int .i64 0,.int .i64 0,.bool false,.bool false]/\szZ 112 [.int .i64 0,.int .i64 0,.bool false,.bool false]/\szZ 116 [.slice [] 0 true]/\szZ 118 [.int .i64 0,.int .i64 0,.int .i64 0,.int .i64 0]/\szZ 119 [.int .i64 0,.int .i64 0,.int .i64 0,.int .i64 0]/\szZ 125 [.int .i64 0,.int .i64 0,.bool false,.bool false]/\szZ 128 [.slice [] 0 true]/\szZ 129 [.int .i64 0,.slice [] 0 true,.slice [] 0 true]/\szZ 130 [.int .i64 0,.slice [] 0 true,.slice [] 0 true]/\szZ 140 [.slice [] 0 true,.int .i64 0,.bool false]/\szZ 145 [.int .i64 0,.int .i64 0]/\szZ 146 [.int .i64 0,.int .i64 0]/\szZ 150 [.slice [] 0 true,.int .i64 0,.int .i64 0,.bool false,.int .i64 0,.int .i64 0]/\szZ 155 (([.int .i64 0,.int .i64 0,.int .i64 0,.int .i64 0,.int .i64 0,.int .i64 0,.bool false,.int .i64 0,.int .i64 0]:List PV)++(qD 128 (PV.int .u8 0):List PV)++([.int .i64 0,.int .i64 0,.int .i64 0,.bool false,.bool false,.bool false,.bool false,.int .i64 0]:List PV))/\szZ 158 (([.slice [] 0 true,.bool false,.int .i64 0,.int .i64 0,.int .i64 0,.int .i64 0,.bool false,.int .i64 0,.int .i64 0]:List PV)++(qD 128 (PV.int .u8 0):List PV)++([.int .i64 0,.int .i64 0,.bool false,.int .i64 0,.int .i64 0,.int .i64 0,.slice [] 0 true,.bool false]:List PV))/\szZ 159 (([.slice [] 0 true,.bool false,.int .i64 0,.int .i64 0,.int .i64 0,.int .i64 0,.bool false,.int .i64 0,.int .i64 0]:List PV)++(qD 128 (PV.int .u8 0):List PV)++([.int .i64 0,.int .i64 0,.bool false,.int .i64 0,.int .i64 0,.int .i64 0,.slice [] 0 true,.bool false]:List PV)):=by and_intros<;>(show _=_;kernel_rfl)
theorem zc80:szZ 166 [.nilp]/\szZ 169 [.int .u32 0]/\szZ 172 [.int .i64 0,.int .i64 0,.int .i64 0]/\szZ 174 [.int .i64 0,.int .i64 0,.int .i64 0,.int .i64 0,.int .i64 0,.int .i64 0,.int .i64 0,.int .i64 0]/\szZ 183 [.nilp]/\szZ 220 [.int .u64 0]/\szZ 230 [.slice [] 0 true,.int .i64 0,.int .i64 0]/\szZ 231 [.slice [] 0 true,.int .i64 0,.int .i64 0]/\szZ 235 [.int .i64 0,.int .i64 0,.int .i64 0,.int .i64 0,.int .i64 0,.int .i64 0,.int .i64 0,.int .i64 0,.nilp,.int .i64 0,.int .i64 0,.bool false,.bool false,.nilp,.bool false]/\szZ 238 [.nilp]/\szZ 239 [.slice [] 0 true]/\szZ 247 [.int .u64 0]/\szZ 250 [.nilp]/\szZ 253 [.int .i64 0,.int .i64 0,.int .i64 0,.int .i64 0,.int .i64 0,.int .i64 0,.int .i64 0,.int .i64 0]/\szZ 302 [.nilp]/\szZ 304 [.nilp]/\szZ 308 [.int .i64 0,.int .i64 0,.int .i64 0,.int .i64 0,.int .i64 0,.int .i64 0,.int .i64 0,.int .i64 0]/\szZ 309 (qD 64 (PV.int .i64 0):List PV)/\szZ 312 (qD 64 (PV.int .i64 0):List PV)/\szZ 314 [.int .i64 0,.int .i64 0,.slice [] 0 true,.slice [] 0 true,.slice [] 0 true,.int .i64 0,.int .i64 0,.slice [] 0 true,.slice [] 0 true,.slice [] 0 true]/\szZ 316 [.int .i64 0,.int .i64 0,.int .i64 0,.int .i64 0]/\szZ 320 [.slice [] 0 true,.int .i64 0]/\szZ 324 [.nilp]/\szZ 332 [.int .u64 0]/\szZ 343 [.nilp]/\szZ 345 [.int .i64 0]/\szZ 356 [.nilp]/\szZ 372 [.nilp,.nilp,.nilp,.str []]/\szZ 373 [.nilp,.nilp,.nilp,.str []]/\szZ 376 []/\szZ 380 [.nilp]:=by and_intros<;>(show _=_;kernel_rfl)
theorem mix:qB.follows .mixedOrders=true:=by kernel_rfl
attribute [go_sem] sz0 sz40 sz80 zxb zxa zc0 zc40 zc80 Tryz.underlying0 Tryz.underlying1 Tryz.underlying2 Tryz.underlying3 Tryz.underlying4 qU Tryz.underlying6 Tryz.underlying7 Tryz.underlying8 Tryz.underlying9 Tryz.underlying11 Tryz.underlying13 Tryz.underlying15 Tryz.underlying16 Tryz.underlying18 Tryz.underlying19 Tryz.underlying20 Tryz.underlying21 Tryz.underlying23 Tryz.underlying24 Tryz.underlying25 Tryz.underlying26 Tryz.underlying27 Tryz.underlying28 Tryz.underlying30 Tryz.underlying32 Tryz.underlying33 Tryz.underlying34 Tryz.underlying35 Tryz.underlying36 Tryz.underlying37 Tryz.underlying38
attribute [go_sem] Tryz.underlying39 Tryz.underlying40 Tryz.underlying41 Tryz.underlying42 Tryz.underlying43 Tryz.underlying44 Tryz.underlying46 Tryz.underlying47 Tryz.underlying49 Tryz.underlying50 Tryz.underlying52 Tryz.underlying53 Tryz.underlying54 Tryz.underlying55 Tryz.underlying57 Tryz.underlying58 Tryz.underlying59 Tryz.underlying60 Tryz.underlying61 Tryz.underlying62 Tryz.underlying63 Tryz.underlying64 Tryz.underlying65 Tryz.underlying67 Tryz.underlying69 Tryz.underlying71 Tryz.underlying72 Tryz.underlying73 Tryz.underlying74 Tryz.underlying75 Tryz.underlying76 Tryz.underlying77 Tryz.underlying78 Tryz.underlying79 Tryz.underlying80 Tryz.underlying81 Tryz.underlying83 Tryz.underlying84 Tryz.underlying86 Tryz.underlying87
attribute [go_sem] Tryz.underlying88 Tryz.underlying89 Tryz.underlying91 Tryz.underlying92 Tryz.underlying93 Tryz.underlying95 Tryz.underlying96 Tryz.underlying97 Tryz.underlying98 Tryz.underlying99 Tryz.underlying100 Tryz.underlying101 Tryz.underlying102 Tryz.underlying103 Tryz.underlying104 Tryz.underlying105 Tryz.underlying106 Tryz.underlying107 Tryz.underlying108 Tryz.underlying109 Tryz.underlying110 Tryz.underlying111 Tryz.underlying112 Tryz.underlying113 Tryz.underlying114 Tryz.underlying115 Tryz.underlying116 Tryz.underlying117 Tryz.underlying118 Tryz.underlying119 Tryz.underlying120 Tryz.underlying121 Tryz.underlying122 Tryz.underlying125 Tryz.underlying127 Tryz.underlying128 Tryz.underlying129 Tryz.underlying130 Tryz.underlying131 Tryz.underlying133
attribute [go_sem] Tryz.underlying139 Tryz.underlying140 Tryz.underlying145 Tryz.underlying146 Tryz.underlying148 Tryz.underlying149 Tryz.underlying150 Tryz.underlying155 Tryz.underlying158 Tryz.underlying159 Tryz.underlying160 Tryz.underlying161 Tryz.underlying164 Tryz.underlying165 Tryz.underlying166 Tryz.underlying167 Tryz.underlying169 Tryz.underlying170 Tryz.underlying172 Tryz.underlying174 Tryz.underlying175 Tryz.underlying176 Tryz.underlying177 Tryz.underlying183 Tryz.underlying184 Tryz.underlying185 Tryz.underlying187 Tryz.underlying188 Tryz.underlying193 Tryz.underlying196 Tryz.underlying198 Tryz.underlying206 Tryz.underlying216 Tryz.underlying220 Tryz.underlying230 Tryz.underlying231 Tryz.underlying235 Tryz.underlying236 Tryz.underlying238 Tryz.underlying239
attribute [go_sem] Tryz.underlying247 Tryz.underlying250 Tryz.underlying251 Tryz.underlying253 Tryz.underlying254 Tryz.underlying259 Tryz.underlying269 Tryz.underlying274 Tryz.underlying285 Tryz.underlying289 Tryz.underlying293 Tryz.underlying296 Tryz.underlying298 Tryz.underlying302 Tryz.underlying304 Tryz.underlying308 Tryz.underlying309 Tryz.underlying312 Tryz.underlying314 Tryz.underlying316 Tryz.underlying320 Tryz.underlying324 Tryz.underlying332 Tryz.underlying343 Tryz.underlying345 Tryz.underlying346 Tryz.underlying349 Tryz.underlying356 Tryz.underlying363 Tryz.underlying372 Tryz.underlying373 Tryz.underlying376 Tryz.underlying380 Tryz.eqGuardType24 Tryz.eqGuardType98 Tryz.eqGuardType101 Tryz.eqGuardType102 Tryz.eqGuardType103 Tryz.eqGuardType104 Tryz.eqGuardType105
attribute [go_sem] Tryz.eqGuardType106 Tryz.eqGuardType107 Tryz.eqGuardType172 Tryz.eqGuardType308 Tryz.eqGuardType309 Tryz.eqGuardType312 Tryz.eqGuardType314
end Ty
namespace Sc
open Pm Ty Go.RowKit
def bs(p:List UInt8):List PV:=p.map λb=>.int .u8 (b.toNat:Int)
theorem zd(p:List UInt8):(bs p).length=p.length:=by simp[bs]
def byt(p:List UInt8)(k:Nat):Int:=((p.getD k 0).toNat:Int)
theorem zK(p:List UInt8)(k:Nat):0<=byt p k/\byt p k<=255:=by unfold byt;have:=(p.getD k 0).toNat_lt;omega
theorem zaf(p:List UInt8)(k:Nat)(h:k<p.length):(bs p)[k]? =some (.int .u8 (byt p k)):=by simp[bs,byt,h]
theorem zoQ(p:List UInt8):zfY (bs p)=some p:=by
 unfold zfY bs;induction p with
 | nil=>rfl
 | cons b p ih=>simp[qX,Pm.byteOf,ih]
theorem zR(p q:List UInt8):bs (p++q)=bs p++bs q:=by simp[bs]
theorem zsn(b:UInt8):bs [b]=[.int .u8 (b.toNat:Int)]:=rfl
theorem zwE(n:Nat):bs (qD n 0)=qD n (.int .u8 0):=by simp[bs]
theorem zh(n:Nat)(p:List UInt8):∀ x∈bs p,Scoped n x:=λx hx=>by obtain⟨b,_,rfl⟩:=jC.1 hx;exact .int _ _
theorem zr{n k:Nat}{xs:List PV}{f:Bool}(h:∀ x∈xs,Scoped n x):Scoped n (.slice xs k f):=.slice λj x hx=>h x (qQ hx)
theorem zq{n:Nat}{xs:List PV}(h:∀ x∈xs,Scoped n x):Scoped n (.agg xs):=.agg λj x hx=>h x (qQ hx)
theorem _root_.Go.Proofs.YtdajpjenhcobkaaGreatDoor.Pm.Fz.id'{n:Nat}{H:za}{x y:PV}(e:x=y)(h:Scoped n y):Fz n H x y:=e▸.id (e▸h)
theorem zie(b:List UInt8)(i:Nat)(v:UInt8):(bs b).set i (.int .u8 (v.toNat:Int))=bs (b.set i v):=by simp[bs,List.map_set]
theorem zbV(p:List UInt8)(k:Nat):(bs p).drop k=bs (p.drop k):=by simp[bs]
theorem zbm(p:List UInt8)(k:Nat):(bs p).take k=bs (p.take k):=by simp[bs]
theorem zhl(a b:Int): -(a.natAbs:Int)<=a.tdiv b/\a.tdiv b<=(a.natAbs:Int):=by
 have h:(a.tdiv b).natAbs<=a.natAbs:=by rw[Int.natAbs_tdiv];exact Nat.div_le_self _ _
 omega
theorem zi4(a b:Int)(h: -9223372036854775807<=a/\a<=9223372036854775807):IntKind.i64.wrap (a.tdiv b)=a.tdiv b:=by have:=zhl a b;exact w64 _ om
theorem zkx(x y:Nat):(x:Int).tmod (y:Int)=((x%y:Nat):Int):=by rw[qZ om];rfl
theorem zne(a b:Nat):(a:Int).tdiv (b:Int)=((a / b:Nat):Int):=rfl
theorem zE(a b:Int)(h:0<=a):a.tdiv b=a / b:=Int.tdiv_eq_ediv_of_nonneg h
theorem zad(a b:Int)(h:0<=a):a.tmod b=a%b:=qZ h
theorem zij(n:Int)(h:0<=n/\n<=18446744073709551615):IntKind.u64.wrap n=n:=by simp only[IntKind.wrap,IntKind.bits,IntKind.signed,qY,qL,if_false];omega
theorem zwW(n:Int)(h: -18446744073709551616<=n/\n<0):IntKind.u64.wrap n=n+18446744073709551616:=by simp only[IntKind.wrap,IntKind.bits,IntKind.signed,qY,qL,if_false];omega
def is(l:List Int):List PV:=l.map λn=>.int .i64 n
theorem zj(l:List Int):(is l).length=l.length:=by simp[is]
def ze(l:List Int)(k:Nat):Int:=l.getD k 0
theorem zQ(l:List Int)(i:Nat)(h:i<l.length):(is l)[i]? =some (.int .i64 (ze l i)):=by simp[is,ze,h]
theorem zoW(p q:List Int):is (p++q)=is p++is q:=by simp[is]
theorem zZ(n:Nat)(p:List Int):∀ x∈is p,Scoped n x:=λx hx=>by obtain⟨b,_,rfl⟩:=jC.1 hx;exact .int _ _
theorem zaG(b:List Int)(i:Nat)(v:Int):(is b).set i (.int .i64 v)=is (b.set i v):=by simp[is,List.map_set]
theorem zek(p:List Int)(k:Nat):(is p).drop k=is (p.drop k):=by simp[is]
theorem zdr(p:List Int)(k:Nat):(is p).take k=is (p.take k):=by simp[is]
theorem ze8(k:IntKind):∀(p q:List Int),p.length=q.length->ze9 (.int k) (is p) (is q)=some (p==q)
 | [],[],_=>rfl
 | a::p,b::q,h=>by
  have ih:=ze8 k p q (by simpa using h);show(match zdZ (.int k) (.int .i64 a) (.int .i64 b)with|some c=>(ze9 (.int k) (is p) (is q)).map λr=>c&&r|none=>none)=_;rw[ih];simp only[zdZ,if_true,Option.map_some];rfl
 | [],_::_,h=>by simp at h
 | _::_,[],h=>by simp at h
def fs(l:List Bool):List PV:=l.map λb=>.bool b
theorem zwp(l:List Bool):(fs l).length=l.length:=by simp[fs]
def zN(l:List Bool)(k:Nat):Bool:=l.getD k false
theorem zmM(l:List Bool)(i:Nat)(h:i<l.length):(fs l)[i]? =some (.bool (zN l i)):=by simp[fs,zN,h]
theorem ziQ(n:Nat)(p:List Bool):∀ x∈fs p,Scoped n x:=λx hx=>by obtain⟨b,_,rfl⟩:=jC.1 hx;exact .bool _
theorem zu0(a b:Nat):(a:Int).fdiv (b:Int)=((a / b:Nat):Int):=by rw[Int.fdiv_eq_ediv_of_nonneg _ om];rfl
theorem zqy(k':IntKind)(V s:Nat)(h:s<=32):zbb .shr .u32 (V:Int) k' (s:Int)=some (.int .u32 ((V / 2^s:Nat):Int)):=by simp only[zbb,IntKind.bits];rw[if_neg om,show min (s:Int).toNat 32=s from om,show((2:Int)^s)=((2^s:Nat):Int) by simp,zu0]
theorem ztk(k':IntKind)(V s:Nat)(h:s<=8):zbb .shr .u8 (V:Int) k' (s:Int)=some (.int .u8 ((V / 2^s:Nat):Int)):=by simp only[zbb,IntKind.bits];rw[if_neg om,show min (s:Int).toNat 8=s from om,show((2:Int)^s)=((2^s:Nat):Int) by simp,zu0]
theorem zoR(V:Nat):zbb .and .u32 (V:Int) .u32 1=some (.int .u32 ((V%2:Nat):Int)):=by
 have h0:(BitVec.ofInt 32 (V:Int)&&& BitVec.ofInt 32 1).toNat=V%2:=by rw[BitVec.ofInt_natCast,BitVec.toNat_and,BitVec.toNat_ofNat,show(BitVec.ofInt 32 1).toNat=1 by decide,Nat.and_one_is_mod];omega
 have:(BitVec.ofInt IntKind.u32.bits (V:Int)&&& BitVec.ofInt IntKind.u32.bits 1).toNat=V%2:=h0;simp only[zbb,this,if_true];rw[w32 _ om]
theorem zqZ(V:Nat):zbb .and .u8 (V:Int) .u8 1=some (.int .u8 ((V%2:Nat):Int)):=by
 have h0:(BitVec.ofInt 8 (V:Int)&&& BitVec.ofInt 8 1).toNat=V%2:=by rw[BitVec.ofInt_natCast,BitVec.toNat_and,BitVec.toNat_ofNat,show(BitVec.ofInt 8 1).toNat=1 by decide,Nat.and_one_is_mod];omega
 have:(BitVec.ofInt IntKind.u8.bits (V:Int)&&& BitVec.ofInt IntKind.u8.bits 1).toNat=V%2:=h0;simp only[zbb,this,if_true];rw[w8 _ om]
theorem cnt{R:Nat->Prop}(n:Nat)(hs:∀ j,j<n->R (j+1)->R j)(hl:R n):∀ j,j<=n->R j:=λj hj=>by
 induction hd:n - j using qG generalizing j with
 | _ d ih=>grind
theorem zc4{j n:Nat}(h:j<n):decide ((j:Int)<(n:Int))=true:=decide_eq_true om
theorem zdK(n:Nat):decide ((n:Int)<(n:Int))=false:=decide_eq_false om
def mbs(n most:Int):Bool:=decide (16<=n)&&decide (n<=most)&&(n.tmod 16==0)
theorem zvW(n most:Int)(H:za):CallOk qB 130 [.int .i64 n,.int .i64 most] H (.bool (mbs n most)) H:=by
 refine .go Tryz.func130 Tryz.ntmps130 Tryz.results130 ?_;refine .e ?_;(repeat refine .seq ?_);refine .rg rfl λK hK=> ?_;simp(disch:=omega) only[go_sem];(repeat'((refine zg ?_ ?_)<;>intro h<;>(try simp only[nqb]at h)<;>simp(disch:=omega) only[go_sem,h]));all_goals(refine hK _ _ ?_;clear hK K)
 all_goals(refine .ret ⟨_,rfl,.inl ⟨?_,rfl⟩⟩;simp_all[mbs,slot,qE];try omega)
theorem zwo(x y:Nat)(H:za):CallOk qB 214 [.int .u64 (x:Int),.int .u64 (y:Int)] H (.int .u64 (jF x y:Int)) H:=by
 generalize hr:jF x y=r;refine .go Tryz.func214 Tryz.ntmps214 Tryz.results214 ?_;refine .e ?_;refine .l ?_;refine .at [0,1] (?_:PL _ _ _ [(0,.int .u64 (x:Int)),(1,.int .u64 (y:Int))] H _) rfl rfl;induction hm:y using qG generalizing x y with
 | _ n ih=>
  subst hm;refine .round ?_;refine .e ?_;refine .c (λh=> ?_) (λh=> ?_)
  .have hy:y≠0:=by simp_all
   refine .skip ?_;refine .b ?_;(repeat refine .seq ?_);refine .draw mix kr λK hK=> ?_;simp(disch:=omega) only[go_sem,zkx];refine hK _ _ ?_;clear hK K;exact .at [0,1] (ih (x%y) (Nat.mod_lt _ om) y (x%y) (by rw[<-hr,qT x y,Nat.gcd_rec y x,qT]) rfl) rfl rfl
  .have hy:y=0:=by simpa using h
   subst hy;refine .exit ?_;refine .e ?_;exact .ret ⟨_,rfl,.inl ⟨by rw[<-hr,Nat.gcd_zero_right];rfl,rfl⟩⟩
theorem ztR(x y:Nat)(H:za):CallOk qB 162 [.int .u64 (x:Int),.int .u64 (y:Int)] H (.int .u64 (jF x y:Int)) H:=by
 generalize hr:jF x y=r;refine .go Tryz.func162 Tryz.ntmps162 Tryz.results162 ?_;refine .e ?_;refine .l ?_;refine .at [0,1] (?_:PL _ _ _ [(0,.int .u64 (x:Int)),(1,.int .u64 (y:Int))] H _) rfl rfl;induction hm:y using qG generalizing x y with
 | _ n ih=>
  subst hm;refine .round ?_;refine .e ?_;refine .c (λh=> ?_) (λh=> ?_)
  .have hy:y≠0:=by simp_all
   refine .skip ?_;refine .b ?_;(repeat refine .seq ?_);refine .draw mix kr λK hK=> ?_;simp(disch:=omega) only[go_sem,zkx];refine hK _ _ ?_;clear hK K;exact .at [0,1] (ih (x%y) (Nat.mod_lt _ om) y (x%y) (by rw[<-hr,qT x y,Nat.gcd_rec y x,qT]) rfl) rfl rfl
  .have hy:y=0:=by simpa using h
   subst hy;refine .exit ?_;refine .e ?_;exact .ret ⟨_,rfl,.inl ⟨by rw[<-hr,Nat.gcd_zero_right];rfl,rfl⟩⟩
theorem ztF(n:Int)(H:za)(hn: -9223372036854775808<=n/\n<=9223372036854775807):CallOk qB 215 [.int .i64 n] H (.int .u64 (n.natAbs:Int)) H:=by
 refine .go Tryz.func215 Tryz.ntmps215 Tryz.results215 ?_;refine .e ?_;refine .e ?_;refine .c (λh=> ?_) (λh=> ?_)
 .have h1:=of_decide_eq_true h;refine .f (λK k=>by simp(disch:=omega) only[go_sem,zwW];exact k) ?_;refine .ret ⟨_,rfl,.inl ⟨?_,rfl⟩⟩;have e:(n.natAbs:Int)=0 - (n+18446744073709551616)+18446744073709551616:=om;rw[e];rfl
 .have h1:=of_decide_eq_false h;refine .skip ?_;refine .f (λK k=>by simp(disch:=omega) only[go_sem,zij];exact k) ?_;refine .ret ⟨_,rfl,.inl ⟨?_,rfl⟩⟩;have e:(n.natAbs:Int)=n:=om;rw[e];rfl
theorem zrq(n:Int)(H:za)(hn: -9223372036854775808<=n/\n<=9223372036854775807):CallOk qB 163 [.int .i64 n] H (.int .u64 (n.natAbs:Int)) H:=by
 refine .go Tryz.func163 Tryz.ntmps163 Tryz.results163 ?_;refine .e ?_;refine .e ?_;refine .c (λh=> ?_) (λh=> ?_)
 .have h1:=of_decide_eq_true h;refine .f (λK k=>by simp(disch:=omega) only[go_sem,zij];exact k) ?_;refine .ret ⟨_,rfl,.inl ⟨?_,rfl⟩⟩;have e:(n.natAbs:Int)=0 - (n+1)+1:=om;rw[e];rfl
 .have h1:=of_decide_eq_false h;refine .skip ?_;refine .f (λK k=>by simp(disch:=omega) only[go_sem,zij];exact k) ?_;refine .ret ⟨_,rfl,.inl ⟨?_,rfl⟩⟩;have e:(n.natAbs:Int)=n:=om;rw[e];rfl
def zdC(num den:Int):Bool:=decide (1<=den)&&decide (-9223372036854775808<num)&&(jF num.natAbs den.natAbs==1)
theorem zvN(num den:Int)(H:za)(hn: -9223372036854775808<=num/\num<=9223372036854775807)(hd: -9223372036854775808<=den/\den<=9223372036854775807):
  CallOk qB 131 [.agg [.int .i64 num,.int .i64 den]] H (.bool (zdC num den)) H:=by
 generalize hr:zdC num den=r;refine .go Tryz.func131 Tryz.ntmps131 Tryz.results131 ?_;refine .e ?_;(repeat refine .seq ?_);refine .draw mix kr λK hK=> ?_;simp(disch:=omega) only[go_sem,zij];(repeat'((refine zB ?_ ?_)<;>intro h<;>(try simp only[nqb]at h)<;>simp(disch:=omega) only[go_sem,zij,h]))
 .rename_i h1;have e:den=((den.natAbs:Nat):Int):=om;have hg:=zwo num.natAbs den.natAbs (H++[⟨23,0,[.int .i64 num,.int .i64 den]⟩]);rw[<-e]at hg;refine VCy.call (ztF _ _ hn) rfl ?_;simp(disch:=omega) only[go_sem,zij];refine VCy.call (hg) rfl ?_;simp(disch:=omega) only[go_sem];refine hK _ _ ?_;clear hK K;refine .ret ⟨_,rfl,Fin.base (.id' ?_ (.bool _))⟩;rw[<-hr];simp[zdC,slot,qE,h,h1];rw[qA];simp;omega
 all_goals(refine hK _ _ ?_;clear hK K)
 all_goals(refine .ret ⟨_,rfl,Fin.base (.id' ?_ (.bool _))⟩;rw[<-hr];simp_all[zdC,slot,qE];try omega)
theorem ze1(num den:Int)(H:za)(hn: -9223372036854775808<=num/\num<=9223372036854775807)(hd: -9223372036854775808<=den/\den<=9223372036854775807):
  CallOk qB 93 [.agg [.int .i64 num,.int .i64 den]] H (.bool (zdC num den)) H:=by
 generalize hr:zdC num den=r;refine .go Tryz.func93 Tryz.ntmps93 Tryz.results93 ?_;refine .e ?_;(repeat refine .seq ?_);refine .draw mix kr λK hK=> ?_;simp(disch:=omega) only[go_sem,zij];(repeat'((first|refine zg ?_ ?_|refine zB ?_ ?_|refine zal ?_ ?_|refine VOh_cond ?_ ?_|refine zak ?_ ?_|refine And.intro ?_ ?_)<;>intro h<;>(try simp only[nqb]at h)<;>simp(disch:=omega) only[go_sem,zij,h]))
 .rename_i h1;have e:den=((den.natAbs:Nat):Int):=om;have hg:=ztR num.natAbs den.natAbs (H++[⟨23,0,[.int .i64 num,.int .i64 den]⟩]);rw[<-e]at hg;refine VCy.call (zrq _ _ hn) rfl ?_;simp(disch:=omega) only[go_sem,zij];refine VCy.call (hg) rfl ?_;simp(disch:=omega) only[go_sem];refine hK _ _ ?_;clear hK K;refine .ret ⟨_,rfl,Fin.base (.id' ?_ (.bool _))⟩;rw[<-hr];have h2: -9223372036854775808<num:=om;simp[zdC,slot,qE,h,h1,h2];rw[qA];simp;omega
 all_goals(refine hK _ _ ?_;clear hK K)
 all_goals(refine .ret ⟨_,rfl,Fin.base (.id' ?_ (.bool _))⟩;rw[<-hr];clear hr)
 .have h2:¬ -9223372036854775808<num:=om;simp[zdC,slot,qE,h2]
 .simp_all[zdC,slot,qE];try omega
structure Sq where
 w:Int
 h:Int
 num:Int
 den:Int
 il:Bool
 br:Int
 bf:Int
 ia:List UInt8
 ie:List UInt8
def sqc(s:Sq):List PV:=.int .i64 s.w:: .int .i64 s.h:: .int .i64 s.num:: .int .i64 s.den:: .bool s.il:: .int .i64 s.br:: .int .i64 s.bf::(bs s.ia++bs s.ie)
def zex(n:Int):Prop:= -9223372036854775808<=n/\n<=9223372036854775807
structure SqOk(s:Sq):Prop where
 w: -9223372036854775808<=s.w/\s.w<=9223372036854775807
 h: -9223372036854775808<=s.h/\s.h<=9223372036854775807
 num: -9223372036854775808<=s.num/\s.num<=9223372036854775807
 den: -9223372036854775808<=s.den/\s.den<=9223372036854775807
 br: -9223372036854775808<=s.br/\s.br<=9223372036854775807
 bf: -9223372036854775808<=s.bf/\s.bf<=9223372036854775807
 ia:s.ia.length=64
 ie:s.ie.length=64
theorem zbE(n:Nat)(s:Sq):∀ x∈sqc s,Scoped n x:=λx hx=>by simp only[sqc,jA,List.mem_append]at hx;rcases hx with rfl|rfl|rfl|rfl|rfl|rfl|rfl|hx|hx;all_goals first|exact .int _ _|exact .bool _|exact zh n _ x hx
theorem zhr(p q:List UInt8)(h:p.length=64):(bs p++bs q).take 64=bs p:=by simp_all[List.take_append_of_le_length,zd,qH]
theorem zhq(p q:List UInt8)(h:p.length=64):(bs p++bs q).drop 64=bs q:=by simp_all[List.drop_append_of_le_length,zd,qO,qP]
theorem zgj(q:List UInt8)(h:q.length=64):(bs q).take 64=bs q:=qH (by rw[zd];omega)
theorem zjm(p q:List UInt8)(h:p.length=64)(h':q.length=64):(bs p++bs q).take 128=bs p++bs q:=qH (by rw[qF,zd,zd];omega)
def zaU(m:List UInt8):Bool:=m.all λb=>decide (8<=b.toNat)
theorem znz(m:List UInt8)(k:Nat)(hk:k<=m.length):(m.drop k).all (λb=>decide (8<=b.toNat))=if k<m.length then decide (8<=byt m k)&&(m.drop (k+1)).all (λb=>decide (8<=b.toNat))else true:=by grind[List.drop_eq_getElem_cons,byt,qO]
theorem zlg(m:List UInt8)(H:za)(hl:m.length=64):CallOk qB 84 [.agg (bs m)] H (.bool (zaU m)) H:=by
 refine .go Tryz.func84 Tryz.ntmps84 Tryz.results84 ?_;have hall:(bs m).all PV.cell=true:=by simp[bs,PV.cell]
 refine .g hall ?_;refine .f (λK k=>by simp(disch:=omega) only[go_sem,zd,zgj];exact k) ?_;refine .l ?_;suffices hloop:∀(k:Nat),k<=64->zaU m=(m.drop k).all (λb=>decide (8<=b.toNat))->PL qB _ _ [(5,.agg (bs m)),(6,.int .i64 (k:Int))] (H++[⟨24,0,bs m⟩]) _ by exact .at [5,6] (hloop 0 om (by simp[zaU])) rfl rfl
 intro k hk heq;induction hm:64 - k using qG generalizing k with
 | _ n ih=>
  rw[znz m k om]at heq;refine .round ?_;refine .e ?_;refine .c (λh=> ?_) (λh=> ?_)
  .have h4:k<64:=by grind
   rw[if_pos om]at heq;refine .skip ?_;refine .b ?_;refine .f (λK k=>by simp(disch:=omega) only[go_sem,zaf];exact k) ?_;refine .e ?_;refine .c (λh=> ?_) (λh=> ?_)
   .have h5:=of_decide_eq_true h;refine .e ?_;refine .ret ⟨_,rfl,Fin.base (.id' ?_ (.bool _))⟩;grind[slot,qE]
   .have h5:=of_decide_eq_false h;refine .skip ?_;refine .e ?_;refine .at [5,6] (ih (64 - (k+1)) om (k+1) om ?_ rfl) rfl rfl;simp_all
  .have h4:¬ k<64:=by grind
   rw[if_neg om]at heq;refine .exit ?_;refine .e ?_;refine .ret ⟨_,rfl,Fin.base (.id' ?_ (.bool _))⟩;rw[heq];rfl
theorem zhT(m:List UInt8)(H:za)(hl:m.length=64):CallOk qB 94 [.agg (bs m)] H (.bool (zaU m)) H:=by
 refine .go Tryz.func94 Tryz.ntmps94 Tryz.results94 ?_;have hall:(bs m).all PV.cell=true:=by simp[bs,PV.cell]
 refine .g hall ?_;refine .e ?_;refine .l ?_;suffices hloop:∀(k:Nat),k<=64->zaU m=(m.drop k).all (λb=>decide (8<=b.toNat))->PL qB _ _ [(1,.ptr H.length 0 0),(3,.int .i64 (k:Int))] (H++[⟨24,0,bs m⟩]) _ by exact .at [1,3] (hloop 0 om (by simp[zaU])) rfl rfl
 intro k hk heq;induction hm:64 - k using qG generalizing k with
 | _ n ih=>
  rw[znz m k om]at heq;refine .round ?_;refine .e ?_;refine .c (λh=> ?_) (λh=> ?_)
  .have h4:k<64:=by grind
   rw[if_pos om]at heq;refine .skip ?_;refine .b ?_;refine .f (λK k=>by simp(disch:=omega) only[go_sem,zaf];exact k) ?_;refine .c (λh=> ?_) (λh=> ?_)
   .have h5:=of_decide_eq_true h;refine .e ?_;refine .ret ⟨_,rfl,Fin.base (.id' ?_ (.bool _))⟩;grind[slot,qE]
   .have h5:=of_decide_eq_false h;refine .skip ?_;refine .e ?_;refine .at [1,3] (ih (64 - (k+1)) om (k+1) om ?_ rfl) rfl rfl;simp_all
  .have h4:¬ k<64:=by grind
   rw[if_neg om]at heq;refine .exit ?_;refine .e ?_;refine .ret ⟨_,rfl,Fin.base (.id' ?_ (.bool _))⟩;rw[heq];rfl
def vsz(s:Sq):Bool:=mbs s.w 64&&mbs s.h 64&&(!s.il||(s.h.tmod 32==0))
def vrt(s:Sq):Bool:=zdC s.num s.den&&decide (1<=s.num)&&decide (s.num<=1048576)&&decide (s.den<=65536)
def vbr(s:Sq):Bool:=decide (1<=s.br)&&decide (s.br<=16777216)&&decide (1<=s.bf)&&decide (s.bf<=8388608)
def vbu(s:Sq):Bool:=decide (3 * s.den * s.br+32 * s.num<=2 * s.num * s.bf)
def zcT(s:Sq):Bool:=vsz s&&(vrt s&&(vbr s&&(vbu s&&(zaU s.ia&&zaU s.ie))))
theorem ziH{num den:Int}(h:zdC num den=true):1<=den:=by simp[zdC]at h;exact h.1.1
theorem zgP{a b:Int}{A B:Int}(ha:0<=a)(hA:a<=A)(hb:0<=b)(hB:b<=B):0<=a * b/\a * b<=A * B:=⟨Int.mul_nonneg ha hb,Int.mul_le_mul hA hB hb (Int.le_trans ha hA)⟩
theorem zsL(s:Sq)(H:za)(hs:SqOk s):CallOk qB 70 [.agg (sqc s)] H (.bool (zcT s)) H:=by
 obtain⟨hw,hh,hnum,hden,hbr,hbf,hia,hie⟩:=hs;have hall:(bs s.ia++bs s.ie).all PV.cell=true:=by simp[bs,PV.cell]
 refine .go Tryz.func70 Tryz.ntmps70 Tryz.results70 ?_;refine .f (λK k=>by simp(disch:=omega) only[go_sem,sqc,hall];exact k) ?_;refine .seq (PW.seq (PW.rgv [1] 22 (.bool (!vsz s)) rfl ?_ ?_))
 .simp(disch:=omega) only[go_sem];(repeat'(first|((refine zg ?_ ?_)<;>intro h<;>(try simp only[nqb]at h)<;>simp(disch:=omega) only[go_sem,h])|((refine VCx.call (zvW _ _ _) rfl ?_);simp(disch:=omega) only[go_sem])));all_goals(simp_all[vsz,slot,qE]<;>first|rfl|(rw[qA];simp;done))
 refine .c (λh=> ?_) (λh=> ?_)
 .have h1:vsz s=false:=by simpa using h
  refine .e ?_;exact .ret ⟨_,rfl,Fin.base (.id' (by simp[zcT,h1,slot,qE]) (.bool _))⟩
 have h1:vsz s=true:=by simpa using h
 refine .skip (PW.seq (PW.seq (PW.rgv [1] 44 (.bool (!vrt s)) rfl ?_ ?_)))
 .simp(disch:=omega) only[go_sem];(repeat'(first|((refine zg ?_ ?_)<;>intro h<;>(try simp only[nqb]at h)<;>simp(disch:=omega) only[go_sem,h])|((refine VCx.call (zvN _ _ _ hnum hden) rfl ?_);simp(disch:=omega) only[go_sem])));all_goals(simp_all[vrt,slot,qE]<;>first|rfl|(rw[qA];simp;done))
 refine .c (λh=> ?_) (λh=> ?_)
 .have h2:vrt s=false:=by simpa using h
  refine .e ?_;exact .ret ⟨_,rfl,Fin.base (.id' (by simp[zcT,h1,h2,slot,qE]) (.bool _))⟩
 have h2:vrt s=true:=by simpa using h
 refine .skip (PW.seq (PW.seq (PW.rgv [1] 62 (.bool (!vbr s)) rfl ?_ ?_)))
 .simp(disch:=omega) only[go_sem];(repeat'((refine zg ?_ ?_)<;>intro h<;>(try simp only[nqb]at h)<;>simp(disch:=omega) only[go_sem,h]));all_goals(simp_all[vbr,slot,qE]<;>first|rfl|(rw[qA];simp;done))
 refine .c (λh=> ?_) (λh=> ?_)
 .have h3:vbr s=false:=by simpa using h
  refine .e ?_;exact .ret ⟨_,rfl,Fin.base (.id' (by simp[zcT,h1,h2,h3,slot,qE]) (.bool _))⟩
 have h3:vbr s=true:=by simpa using h
 have h2':=h2;have h3':=h3;simp only[vrt,vbr,qN,decide_eq_true_eq]at h2' h3';have hdp:=ziH h2'.1.1.1;have hb1:=zgP (a:=2 * s.num) (b:=s.bf) (A:=2097152) (B:=8388608) om om om om;have hb2:=zgP (a:=3 * s.den) (b:=s.br) (A:=196608) (B:=16777216) om om om om;refine .skip ?_;refine .e ?_;refine .c (λh=> ?_) (λh=> ?_)
 .have h4:vbu s=false:=by simp_all[vbu]
  refine .e ?_;exact .ret ⟨_,rfl,Fin.base (.id' (by simp[zcT,h1,h2,h3,h4,slot,qE]) (.bool _))⟩
 have h4:vbu s=true:=by simp_all[vbu]
 refine .skip ?_;(repeat refine .seq ?_);refine .rg rfl λK hK=> ?_;simp(disch:=omega) only[go_sem,zhr,zhq,zgj,qF,zd];(repeat'(first|((refine zg ?_ ?_)<;>intro h<;>(try simp only[nqb]at h)<;>simp(disch:=omega) only[go_sem,zhr,zhq,zgj,qF,zd,h])|((first|refine VCx.call (zlg _ _ hia) rfl ?_|refine VCx.call (zlg _ _ hie) rfl ?_);simp(disch:=omega) only[go_sem,zhr,zhq,zgj,qF,zd])));all_goals(refine hK _ _ ?_;clear hK K)
 all_goals exact .ret ⟨_,rfl,Fin.base (.id' (by simp_all[zcT,slot,qE]) (.bool _))⟩
theorem zks(s:Sq)(H:za)(hs:SqOk s):CallOk qB 43 [.agg (sqc s)] H (.bool (zcT s)) H:=by
 obtain⟨hw,hh,hnum,hden,hbr,hbf,hia,hie⟩:=hs;have hall:(bs s.ia++bs s.ie).all PV.cell=true:=by simp[bs,PV.cell]
 refine .go Tryz.func43 Tryz.ntmps43 Tryz.results43 ?_;refine .f (λK k=>by simp(disch:=omega) only[go_sem,sqc,hall];exact k) ?_;refine .seq (PW.seq (PW.rgv [1] 42 (.bool (!vsz s)) rfl ?_ ?_))
 .simp(disch:=omega) only[go_sem];(repeat'((first|refine zg ?_ ?_|refine zB ?_ ?_|refine zal ?_ ?_|refine VOh_cond ?_ ?_|refine zak ?_ ?_|refine And.intro ?_ ?_)<;>intro h<;>(try simp only[nqb]at h)<;>simp(disch:=omega) only[go_sem,h]));all_goals(simp_all[vsz,mbs,slot,qE]<;>first|rfl|omega|(rw[qA];simp;done)|(rw[qA];simp;omega))
 refine .c (λh=> ?_) (λh=> ?_)
 .have h1:vsz s=false:=by simpa using h
  refine .e ?_;exact .ret ⟨_,rfl,Fin.base (.id' (by simp[zcT,h1,slot,qE]) (.bool _))⟩
 have h1:vsz s=true:=by simpa using h
 refine .skip (PW.seq (PW.seq (PW.rgv [1] 64 (.bool (!vrt s)) rfl ?_ ?_)))
 .simp(disch:=omega) only[go_sem];(repeat'(first|((first|refine zg ?_ ?_|refine zB ?_ ?_|refine zal ?_ ?_|refine VOh_cond ?_ ?_|refine zak ?_ ?_|refine And.intro ?_ ?_)<;>intro h<;>(try simp only[nqb]at h)<;>simp(disch:=omega) only[go_sem,h])|((first|refine VCx.call (ze1 _ _ _ hnum hden) rfl ?_|refine VCy.call (ze1 _ _ _ hnum hden) rfl ?_|refine VCz.call (λ_=>ze1 _ _ _ hnum hden) rfl ?_|refine VCk.call (λ_ _=>ze1 _ _ _ hnum hden) rfl ?_|refine VCj.now (ze1 _ _ _ hnum hden) rfl ?_);simp(disch:=omega) only[go_sem])));all_goals(simp_all[vrt,slot,qE]<;>first|rfl|omega|(rw[qA];simp;done)|(rw[qA];simp;omega))
 refine .c (λh=> ?_) (λh=> ?_)
 .have h2:vrt s=false:=by simpa using h
  refine .e ?_;exact .ret ⟨_,rfl,Fin.base (.id' (by simp[zcT,h1,h2,slot,qE]) (.bool _))⟩
 have h2:vrt s=true:=by simpa using h
 refine .skip (PW.seq (PW.seq (PW.rgv [1] 82 (.bool (!vbr s)) rfl ?_ ?_)))
 .simp(disch:=omega) only[go_sem];(repeat'((first|refine zg ?_ ?_|refine zB ?_ ?_|refine zal ?_ ?_|refine VOh_cond ?_ ?_|refine zak ?_ ?_|refine And.intro ?_ ?_)<;>intro h<;>(try simp only[nqb]at h)<;>simp(disch:=omega) only[go_sem,h]));all_goals(simp_all[vbr,slot,qE]<;>first|rfl|omega|(rw[qA];simp;done)|(rw[qA];simp;omega))
 refine .c (λh=> ?_) (λh=> ?_)
 .have h3:vbr s=false:=by simpa using h
  refine .e ?_;exact .ret ⟨_,rfl,Fin.base (.id' (by simp[zcT,h1,h2,h3,slot,qE]) (.bool _))⟩
 have h3:vbr s=true:=by simpa using h
 have h2':=h2;have h3':=h3;simp only[vrt,vbr,qN,decide_eq_true_eq]at h2' h3';have hdp:=ziH h2'.1.1.1;have hb1:=zgP (a:=2 * s.num) (b:=s.bf) (A:=2097152) (B:=8388608) om om om om;have hb2:=zgP (a:=3 * s.den) (b:=s.br) (A:=196608) (B:=16777216) om om om om;refine .skip ?_;refine .e ?_;refine .c (λh=> ?_) (λh=> ?_)
 .have h4:vbu s=false:=by simp_all[vbu]
  refine .e ?_;exact .ret ⟨_,rfl,Fin.base (.id' (by simp[zcT,h1,h2,h3,h4,slot,qE]) (.bool _))⟩
 have h4:vbu s=true:=by simp_all[vbu]
 refine .skip ?_;(repeat refine .seq ?_);refine .rg rfl λK hK=> ?_;simp(disch:=omega) only[go_sem,zhr,zhq,zgj,qF,zd];(repeat'(first|((first|refine zg ?_ ?_|refine And.intro ?_ ?_)<;>intro h<;>(try simp only[nqb]at h)<;>simp(disch:=omega) only[go_sem,zhr,zhq,zgj,qF,zd,h])|((first|refine VCx.call (zhT _ _ hia) rfl ?_|refine VCx.call (zhT _ _ hie) rfl ?_);simp(disch:=omega) only[go_sem,zhr,zhq,zgj,qF,zd])));all_goals(refine hK _ _ ?_;clear hK K)
 all_goals exact .ret ⟨_,rfl,Fin.base (.id' (by simp_all[zcT,slot,qE]) (.bool _))⟩
structure Pi where
 ty:Int
 st:Int
 od:Int
 tf:Bool
 rp:Bool
 al:Bool
def pic(h:Pi):List PV:=[.int .i64 h.ty,.int .i64 h.st,.int .i64 h.od,.bool h.tf,.bool h.rp,.bool h.al]
def zpb(h:Pi):Bool:=decide (0<=h.od)&&decide (h.od<=1023)&&decide (1<=h.ty)&&decide (h.ty<=3)&&decide (1<=h.st)&&decide (h.st<=3)
theorem zt8(h:Pi)(H:za):CallOk qB 71 [.agg (pic h)] H (.bool (zpb h)) H:=by obtain⟨ty,st,od,tf,rp,al⟩:=h;refine .body (F0:=[(0,.agg (pic ⟨ty,st,od,tf,rp,al⟩))]) Tryz.func71 rfl Tryz.ntmps71 Tryz.results71 rfl kr rfl ?_;(repeat'(first|refine .seq ?_|((refine .rg rfl λK hK=> ?_);simp(disch:=omega) only[go_sem,pic])|((refine zg ?_ ?_)<;>intro h<;>(try simp only[nqb]at h)<;>simp(disch:=omega) only[go_sem,pic,h])|(refine hK _ _ ?_;clear hK K)));all_goals((refine .ret ⟨_,rfl,?_⟩;refine .base (.id' ?_ (.bool _)));(simp_all[zpb,slot,qE]<;>omega))
theorem zlB(h:Pi)(H:za):CallOk qB 44 [.agg (pic h)] H (.bool (zpb h)) H:=by obtain⟨ty,st,od,tf,rp,al⟩:=h;refine .body (F0:=[(0,.agg (pic ⟨ty,st,od,tf,rp,al⟩))]) Tryz.func44 rfl Tryz.ntmps44 Tryz.results44 rfl kr rfl ?_;(repeat'(first|refine .seq ?_|refine .skip ?_|refine .block ?_|((first|refine .rg rfl λK hK=> ?_|refine .draw mix kr λK hK=> ?_);simp(disch:=omega) only[go_sem,pic])|((first|refine zg ?_ ?_|refine zB ?_ ?_|refine And.intro ?_ ?_)<;>intro h<;>(try simp only[nqb]at h)<;>simp(disch:=omega) only[go_sem,pic,h])|(refine hK _ _ ?_;clear hK K)|(refine .cond (t:=_) rfl (λh=> ?_) (λh=> ?_)<;>(try(cases h;done))<;>(try simp only[nqb]at h))));all_goals((refine .ret ⟨_,rfl,?_⟩;first|refine .inl ⟨?_,rfl⟩|refine .base (.id' ?_ (.bool _))|refine .base (.id' ?_ (.int _ _)));(simp_all[zpb,slot,qE]<;>first|rfl|omega|(rw[qA];simp;done)|(rw[qA];simp;omega)))
def zP(s:Sq)(p:Pi):Bool:=zcT s&&zpb p&&(s.il||((p.st==3)&&p.tf&& !p.rp))
theorem zef(s:Sq)(p:Pi)(H:za)(hs:SqOk s):CallOk qB 29 [.agg (sqc s),.agg (pic p)] H (.bool (zP s p)) H:=by
 have hall:(bs s.ia++bs s.ie).all PV.cell=true:=by simp[bs,PV.cell]
 have hlen:(bs s.ia++bs s.ie).length=128:=by simp[zd,hs.ia,hs.ie]
 have htk:=zjm s.ia s.ie hs.ia hs.ie;refine .go Tryz.func29 Tryz.ntmps29 Tryz.results29 ?_;(repeat'(first|refine .seq ?_|refine .skip ?_|((refine .rg rfl λK hK=> ?_);simp(disch:=omega) only[go_sem,sqc,pic,hall,hlen,htk])|((refine zg ?_ ?_)<;>intro h<;>(try simp only[nqb]at h)<;>simp(disch:=omega) only[go_sem,sqc,pic,hall,hlen,htk,h])|((first|refine VCx.call (zsL s _ hs) rfl ?_|refine VCx.call (zt8 p _) rfl ?_);simp(disch:=omega) only[go_sem,sqc,pic,hall,hlen,htk])|(refine hK _ _ ?_;clear hK K)|(refine .cond (t:=_) rfl (λh=> ?_) (λh=> ?_)<;>(try(cases h;done))<;>(try simp only[nqb]at h))));all_goals((refine .ret ⟨_,rfl,?_⟩;refine .base (.id' ?_ (.bool _)));(simp_all[zP,slot,qE]))
theorem zbG(s:Sq)(p:Pi)(H:za)(hs:SqOk s):CallOk qB 17 [.agg (sqc s),.agg (pic p)] H (.bool (zP s p)) H:=by
 have hall:(bs s.ia++bs s.ie).all PV.cell=true:=by simp[bs,PV.cell]
 have hlen:(bs s.ia++bs s.ie).length=128:=by simp[zd,hs.ia,hs.ie]
 have htk:=zjm s.ia s.ie hs.ia hs.ie;refine .go Tryz.func17 Tryz.ntmps17 Tryz.results17 ?_;(repeat'(first|refine .seq ?_|refine .skip ?_|refine .block ?_|((first|refine .rg rfl λK hK=> ?_|refine .draw mix kr λK hK=> ?_);simp(disch:=omega) only[go_sem,sqc,pic,hall,hlen,htk])|((first|refine zg ?_ ?_|refine zB ?_ ?_|refine And.intro ?_ ?_)<;>intro h<;>(try simp only[nqb]at h)<;>simp(disch:=omega) only[go_sem,sqc,pic,hall,hlen,htk,h])|((first|refine VCx.call (zks s _ hs) rfl ?_|refine VCx.call (zlB p _) rfl ?_|refine VCy.call (zks s _ hs) rfl ?_|refine VCy.call (zlB p _) rfl ?_);simp(disch:=omega) only[go_sem,sqc,pic,hall,hlen,htk])|(refine hK _ _ ?_;clear hK K)|(refine .cond (t:=_) rfl (λh=> ?_) (λh=> ?_)<;>(try(cases h;done))<;>(try simp only[nqb]at h))));all_goals((refine .ret ⟨_,rfl,?_⟩;first|refine .inl ⟨?_,rfl⟩|refine .base (.id' ?_ (.bool _))|refine .base (.id' ?_ (.int _ _)));(simp_all[zP,slot,qE]<;>first|rfl|omega|(rw[qA];simp;done)|(rw[qA];simp;omega)))
theorem zvb{s:Sq}(h:zcT s=true):16<=s.h/\s.h<=64/\16<=s.w/\s.w<=64:=by simp[zcT,vsz,mbs]at h;omega
theorem zaC{s:Sq}{p:Pi}(hv:zP s p=true):16<=s.h/\s.h<=64/\16<=s.w/\s.w<=64:=by simp_all[zP,qN,zvb]
def hgt(s:Sq)(p:Pi):Int:=if p.st=3 then s.h else s.h.tdiv 2
theorem zrG(s:Sq)(p:Pi)(H:za)(hs:SqOk s)(hv:0<=s.h):CallOk qB 75 [.agg (sqc s),.agg (pic p)] H (.int .i64 (hgt s p)) H:=by
 have hall:(bs s.ia++bs s.ie).all PV.cell=true:=by simp[bs,PV.cell]
 have hlen:(bs s.ia++bs s.ie).length=128:=by simp[zd,hs.ia,hs.ie]
 have hh:=hs.h;refine .go Tryz.func75 Tryz.ntmps75 Tryz.results75 ?_;(repeat'(first|refine .seq ?_|refine .skip ?_|((refine .rg rfl λK hK=> ?_);simp(disch:=omega) only[go_sem,sqc,pic,hall,hlen,zi4])|(refine hK _ _ ?_;clear hK K)|(refine .cond (t:=_) rfl (λh=> ?_) (λh=> ?_)<;>(try(cases h;done))<;>(try simp only[nqb]at h))));all_goals((refine .ret ⟨_,rfl,?_⟩;refine .base (.id' ?_ (.int _ _)));(simp_all[hgt,slot,qE]))
def zaq(s:Sq)(p:Pi):Int:=if zP s p then(if p.st=3 then s.h.tdiv 16 else s.h.tdiv 32)else 0
theorem zkX(s:Sq)(p:Pi)(H:za)(hs:SqOk s):CallOk qB 34 [.agg (sqc s),.agg (pic p)] H (.int .i64 (zaq s p)) H:=by
 have hall:(bs s.ia++bs s.ie).all PV.cell=true:=by simp[bs,PV.cell]
 have hlen:(bs s.ia++bs s.ie).length=128:=by simp[zd,hs.ia,hs.ie]
 have htk:=zjm s.ia s.ie hs.ia hs.ie;refine .go Tryz.func34 Tryz.ntmps34 Tryz.results34 ?_;cases hp:zP s p with
 | false=>
  have hpv:=λH=>zef s p H hs;rw[hp]at hpv;(repeat'(first|refine .seq ?_|((refine .rg rfl λK hK=> ?_);simp(disch:=omega) only[go_sem,sqc,pic,hall,hlen,htk])|((refine VCx.call (hpv _) rfl ?_);simp(disch:=omega) only[go_sem,sqc,pic,hall,hlen,htk])|(refine hK _ _ ?_;clear hK K)|(refine .cond (t:=_) rfl (λh=> ?_) (λh=> ?_)<;>(try(cases h;done))<;>(try simp only[nqb]at h))));all_goals((refine .ret ⟨_,rfl,?_⟩;refine .base (.id' ?_ (.int _ _)));simp[zaq,hp,slot,qE])
 | true=>
  have hpv:=λH=>zef s p H hs;rw[hp]at hpv;have hh:=zaC hp;have hg:0<=hgt s p/\hgt s p<=64:=by unfold hgt;rw[zE _ _ om];split<;>omega
  (repeat'(first|refine .seq ?_|refine .skip ?_|((refine .rg rfl λK hK=> ?_);simp(disch:=omega) only[go_sem,sqc,pic,hall,hlen,htk,zi4])|((first|refine VCx.call (hpv _) rfl ?_|refine VCx.call (zrG s p _ hs om) rfl ?_);simp(disch:=omega) only[go_sem,sqc,pic,hall,hlen,htk,zi4])|(refine hK _ _ ?_;clear hK K)|(refine .cond (t:=_) rfl (λh=> ?_) (λh=> ?_)<;>(try(cases h;done))<;>(try simp only[nqb]at h))));all_goals((refine .ret ⟨_,rfl,?_⟩;refine .base (.id' ?_ (.int _ _)));simp[zaq,hp,slot,qE])
  simp only[hgt,zE _ _ (show 0<=s.h from om)];rw[zE _ _ (by split<;>omega)];split<;>omega
theorem ziK(s:Sq)(p:Pi)(H:za)(hs:SqOk s):CallOk qB 51 [.agg (sqc s),.agg (pic p)] H (.int .i64 (zaq s p)) H:=by
 have hall:(bs s.ia++bs s.ie).all PV.cell=true:=by simp[bs,PV.cell]
 have hlen:(bs s.ia++bs s.ie).length=128:=by simp[zd,hs.ia,hs.ie]
 have htk:=zjm s.ia s.ie hs.ia hs.ie;refine .go Tryz.func51 Tryz.ntmps51 Tryz.results51 ?_;cases hp:zP s p with
 | false=>
  have hpv:=λH=>zbG s p H hs;rw[hp]at hpv;(repeat'(first|refine .seq ?_|refine .skip ?_|refine .block ?_|((first|refine .rg rfl λK hK=> ?_|refine .draw mix kr λK hK=> ?_);simp(disch:=omega) only[go_sem,sqc,pic,hall,hlen,htk])|((first|refine zg ?_ ?_|refine zB ?_ ?_|refine And.intro ?_ ?_)<;>intro h<;>(try simp only[nqb]at h)<;>simp(disch:=omega) only[go_sem,sqc,pic,hall,hlen,htk,h])|((first|refine VCx.call (hpv _) rfl ?_|refine VCy.call (hpv _) rfl ?_);simp(disch:=omega) only[go_sem,sqc,pic,hall,hlen,htk])|(refine hK _ _ ?_;clear hK K)|(refine .cond (t:=_) rfl (λh=> ?_) (λh=> ?_)<;>(try(cases h;done))<;>(try simp only[nqb]at h))));all_goals((refine .ret ⟨_,rfl,?_⟩;first|refine .inl ⟨?_,rfl⟩|refine .base (.id' ?_ (.bool _))|refine .base (.id' ?_ (.int _ _)));simp[zaq,hp,slot,qE])
 | true=>have hpv:=λH=>zbG s p H hs;rw[hp]at hpv;have hh:=zaC hp;(repeat'(first|refine .seq ?_|refine .skip ?_|refine .block ?_|((first|refine .rg rfl λK hK=> ?_|refine .draw mix kr λK hK=> ?_);simp(disch:=omega) only[go_sem,sqc,pic,hall,hlen,htk,zi4])|((first|refine zg ?_ ?_|refine zB ?_ ?_|refine And.intro ?_ ?_)<;>intro h<;>(try simp only[nqb]at h)<;>simp(disch:=omega) only[go_sem,sqc,pic,hall,hlen,htk,zi4,h])|((first|refine VCx.call (hpv _) rfl ?_|refine VCy.call (hpv _) rfl ?_);simp(disch:=omega) only[go_sem,sqc,pic,hall,hlen,htk,zi4])|(refine hK _ _ ?_;clear hK K)|(refine .cond (t:=_) rfl (λh=> ?_) (λh=> ?_)<;>(try(cases h;done))<;>(try simp only[nqb]at h))));all_goals((refine .ret ⟨_,rfl,?_⟩;first|refine .inl ⟨?_,rfl⟩|refine .base (.id' ?_ (.bool _))|refine .base (.id' ?_ (.int _ _)));(simp_all[zaq,slot,qE]<;>first|rfl|omega|(rw[qA];simp;done)|(rw[qA];simp;omega)))
end Sc
namespace Lp
open Go.ChangeShapes Go.WideShapes Go.ChangeAt Go.RowKit Pm Sc
theorem own:ownKnob qB.godebug=none:=kr
theorem laidOut:laidOutB qB=true:=kr
theorem bytes_of{zs:List Int}(hw:∀ z∈zs,(Lit.int .u8 z).wf=true):∃ p:List UInt8,zs.map (PV.int .u8)=bs p/\p.length=zs.length:=by refine⟨zs.map λz=>UInt8.ofNat z.toNat,?_,by simp⟩;simp only[bs,List.map_map];refine List.map_congr_left λz hz=> ?_;have h1:=hw z hz;simp[Lit.wf,IntKind.min,IntKind.max,IntKind.signed,IntKind.bits]at h1;simp only[Function.comp,UInt8.toNat_ofNat'];congr 1;omega
theorem shp_bytes{ps:List PV}(h:Shp qB 28 ps):∃ p:List UInt8,ps=[.slice (bs p) p.length false]:=by obtain⟨zs,rfl,_,hw⟩:=h.of_ints Tryz.underlying28 qU;obtain⟨p,e,hl⟩:=bytes_of hw;exact⟨p,by rw[e,hl]⟩
theorem zp8{ps:List PV}(h:Shp qB 24 ps):∃ p:List UInt8,ps=bs p/\p.length=64:=by obtain⟨zs,rfl,hl,hw⟩:=h.arr_ints Tryz.underlying24 qU;obtain⟨p,e,hl'⟩:=bytes_of hw;exact⟨p,e,om⟩
theorem shp_int{ps:List PV}(h:Shp qB 3 ps):∃ n:Int,ps=[.int .i64 n]/\(-9223372036854775808<=n/\n<=9223372036854775807):=by obtain⟨n,rfl,hw⟩:=h.of_int Tryz.underlying3;simp[Lit.wf,IntKind.min,IntKind.max,IntKind.signed,IntKind.bits]at hw;exact⟨n,rfl,hw⟩
theorem ziC{ps:List PV}(h:Shp qB 2 ps):∃ n:Int,ps=[.int .i64 n]/\(-9223372036854775808<=n/\n<=9223372036854775807):=by obtain⟨n,rfl,hw⟩:=h.of_int Tryz.underlying2;simp[Lit.wf,IntKind.min,IntKind.max,IntKind.signed,IntKind.bits]at hw;exact⟨n,rfl,hw⟩
theorem shp_bool{ps:List PV}(h:Shp qB 4 ps):∃ b,ps=[.bool b]:=h.of_bool Tryz.underlying4
theorem zs5{ps:List PV}(h:Shp qB 23 ps):∃ a b:Int,ps=[.int .i64 a,.int .i64 b]/\(-9223372036854775808<=a/\a<=9223372036854775807)/\(-9223372036854775808<=b/\b<=9223372036854775807):=by
 obtain⟨pss,rfl,hf⟩:=h.fields Tryz.underlying23
 match pss,hf with
 | [a,b],⟨ha,hb,_⟩=>obtain⟨a,rfl,h1⟩:=ziC ha;obtain⟨b,rfl,h2⟩:=ziC hb;exact⟨a,b,rfl,h1,h2⟩
theorem zs4{ps:List PV}(h:Shp qB 26 ps):∃ s:Sq,ps=sqc s/\SqOk s:=by
 obtain⟨pss,rfl,hf⟩:=h.fields Tryz.underlying26
 match pss,hf with
 | [a,b,c,d,e,f,g,k],⟨ha,hb,hc,hd,he,hf,hg,hk,_⟩=>obtain⟨a,rfl,h1⟩:=shp_int ha;obtain⟨b,rfl,h2⟩:=shp_int hb;obtain⟨n,m,rfl,h3,h4⟩:=zs5 hc;obtain⟨d,rfl⟩:=shp_bool hd;obtain⟨e,rfl,h5⟩:=shp_int he;obtain⟨f,rfl,h6⟩:=shp_int hf;obtain⟨p,rfl,h7⟩:=zp8 hg;obtain⟨q,rfl,h8⟩:=zp8 hk;exact⟨⟨a,b,n,m,d,e,f,p,q⟩,by simp[sqc],⟨h1,h2,h3,h4,h5,h6,h7,h8⟩⟩
theorem zs6{ps:List PV}(h:Shp qB 33 ps):∃ p:Pi,ps=pic p/\(-9223372036854775808<=p.ty/\p.ty<=9223372036854775807)/\(-9223372036854775808<=p.st/\p.st<=9223372036854775807)/\(-9223372036854775808<=p.od/\p.od<=9223372036854775807):=by
 obtain⟨pss,rfl,hf⟩:=h.fields Tryz.underlying33
 match pss,hf with
 | [a,b,c,d,e,f],⟨ha,hb,hc,hd,he,hf,_⟩=>obtain⟨a,rfl,h1⟩:=shp_int ha;obtain⟨b,rfl,h2⟩:=shp_int hb;obtain⟨c,rfl,h3⟩:=shp_int hc;obtain⟨d,rfl⟩:=shp_bool hd;obtain⟨e,rfl⟩:=shp_bool he;obtain⟨f,rfl⟩:=shp_bool hf;exact⟨⟨a,b,c,d,e,f⟩,rfl,h1,h2,h3⟩
theorem zp7{ps:List PV}(h:Shp qB 55 ps):∃(t:Int) (p:List UInt8),ps=[.int .i64 t,.slice (bs p) p.length false]/\(-9223372036854775808<=t/\t<=9223372036854775807):=by
 obtain⟨pss,rfl,hf⟩:=h.fields Tryz.underlying55
 match pss,hf with
 | [a,b],⟨ha,hb,_⟩=>obtain⟨a,rfl,h1⟩:=shp_int ha;obtain⟨p,rfl⟩:=shp_bytes hb;exact⟨a,p,rfl,h1⟩
end Lp
namespace Sc
open Pm Ty Go.RowKit
def bn(l:List Bool)(k:Nat):Nat:=(l[k]?.getD false).toNat
def za8(V n:Nat):List Bool:=(qW n).map λi=>decide (V / 2^(n - 1 - i)%2=1)
theorem zbB(V n:Nat):(za8 V n).length=n:=by simp[za8]
theorem zlS(V n i:Nat)(h:i<n):(za8 V n).take (i+1)=(za8 V n).take i++[decide (V / 2^(n - 1 - i)%2=1)]:=by rw[List.take_succ_eq_append_getElem (by rw[zbB];exact h)];simp[za8]
theorem zai{H:za}{i:Nat}{A:Blk}(h:H[i]? =some A):H.set i A=H:=by
 apply List.ext_getElem?;intro j;rw[List.getElem?_set];split
 .rename_i e;subst e;split
  .exact h.symm
  .rename_i hn;exact absurd (List.getElem?_eq_some_iff.1 h).1 hn
 .rfl
theorem zw3(x:Nat):(x:Int).tmod 8=((x%8:Nat):Int):=zkx x 8
theorem zw5(x:Nat):(x:Int).tdiv 8=((x / 8:Nat):Int):=zne x 8
structure Fm where
 w:Int
 h:Int
 y:List UInt8
 u:List UInt8
 v:List UInt8
def fmc(f:Fm):List PV:=[.int .i64 f.w,.int .i64 f.h,.slice (bs f.y) f.y.length false,.slice (bs f.u) f.u.length false,.slice (bs f.v) f.v.length false]
def fsz(w h:Int):Bool:=decide (2<=w)&&(decide (w<=64)&&(decide (w%2=0)&&(decide (2<=h)&&(decide (h<=64)&&decide (h%2=0)))))
def fmd(f:Fm):Bool:=fsz f.w f.h&&(decide ((f.y.length:Int)=f.w * f.h)&&(decide ((f.u.length:Int)=f.w / 2 * (f.h / 2))&&decide ((f.v.length:Int)=f.w / 2 * (f.h / 2))))
def fvd(f:Fm):Bool:=fmd f&&(decide (f.w%16=0)&&decide (f.h%16=0))
theorem zbc{w h:Int}(e:fsz w h=true):2<=w/\w<=64/\w%2=0/\2<=h/\h<=64/\h%2=0:=by simpa[fsz]using e
theorem znB{a b:Int}(h:0<=a/\a<=64/\0<=b/\b<=64):0<=a * b/\a * b<=4096:=by
 refine⟨Int.mul_nonneg om om,?_⟩;calc a * b<=64 * 64:=Int.mul_le_mul om om om om
  _=4096:=by decide
theorem zjW(w ht:Int)(H:za):CallOk qB 92 [.int .i64 w,.int .i64 ht] H (.bool (fsz w ht)) H:=by refine .go Tryz.func92 Tryz.ntmps92 Tryz.results92 ?_;(repeat'(first|refine .seq ?_|((refine .rg rfl λK hK=> ?_);simp(disch:=omega) only[go_sem,zad])|((refine zg ?_ ?_)<;>intro h<;>(try simp only[nqb]at h)<;>simp(disch:=omega) only[go_sem,zad,h])|(refine hK _ _ ?_;clear hK K)));all_goals((refine .ret ⟨_,rfl,?_⟩;refine .inl ⟨?_,rfl⟩);(simp_all[fsz,slot,qE]<;>first|rfl|omega))
theorem za5(f:Fm)(H:za):CallOk qB 41 [.agg (fmc f)] H (.bool (fmd f)) H:=by
 obtain⟨w,ht,y,u,v⟩:=f;refine .body (F0:=[(0,.agg [.int .i64 w,.int .i64 ht,.slice (bs y) y.length false,.slice (bs u) u.length false,.slice (bs v) v.length false])]) Tryz.func41 rfl Tryz.ntmps41 Tryz.results41 rfl kr rfl ?_;refine .e ?_;cases hs:fsz w ht
 .have hc:=λH=>zjW w ht H;simp only[hs]at hc;(repeat refine .seq ?_);refine .rg rfl λK hK=> ?_;simp(disch:=omega) only[go_sem];(repeat'(((refine VCx.call (hc _) rfl ?_);simp(disch:=omega) only[go_sem])));all_goals(refine hK _ _ ?_;(refine .ret ⟨_,rfl,?_⟩;refine .base (.id' ?_ (.bool _)));simp[fmd,hs,slot,qE])
 .have hc:=λH=>zjW w ht H;simp only[hs]at hc;obtain⟨g1,g2,g3,g4,g5,g6⟩:=zbc hs;have m1:=znB (a:=w) (b:=ht) om;have m2:=znB (a:=w / 2) (b:=ht / 2) om;(repeat refine .seq ?_);refine .rg rfl λK hK=> ?_;simp(disch:=omega) only[go_sem];(repeat'(first|((refine zg ?_ ?_)<;>intro h<;>(try simp only[nqb]at h)<;>simp(disch:=omega) only[go_sem,zE,h])|((refine VCx.call (hc _) rfl ?_);simp(disch:=omega) only[go_sem,zE])));all_goals(refine hK _ _ ?_;clear hK hc;(refine .ret ⟨_,rfl,?_⟩;refine .base (.id' ?_ (.bool _)));(simp_all[fmd,slot,qE]<;>rfl))
theorem za1(f:Fm)(H:za):CallOk qB 56 [.agg (fmc f)] H (.bool (fmd f)) H:=by
 obtain⟨w,ht,y,u,v⟩:=f;refine .body (F0:=[(0,.agg [.int .i64 w,.int .i64 ht,.slice (bs y) y.length false,.slice (bs u) u.length false,.slice (bs v) v.length false])]) Tryz.func56 rfl Tryz.ntmps56 Tryz.results56 rfl kr rfl ?_;refine .e ?_;(repeat refine .seq ?_);refine .rgv (P:=qB) [1] 32 (.bool (!(fsz w ht))) ?_ ?_ ?_
 .rfl
 .simp(disch:=omega) only[go_sem];(repeat'((first|refine zg ?_ ?_|refine zB ?_ ?_|refine zal ?_ ?_|refine VOh_cond ?_ ?_|refine zak ?_ ?_|refine And.intro ?_ ?_)<;>intro h<;>(try simp only[nqb]at h)<;>simp(disch:=omega) only[go_sem,zad,h]));all_goals(simp_all[fsz,slot,qE]<;>first|rfl|omega|(rw[qA];simp;done)|(rw[qA];simp;omega))
 refine .c (λh=> ?_) (λh=> ?_)
 .have hs:fsz w ht=false:=by simpa using h
  refine .e ?_;(refine .ret ⟨_,rfl,?_⟩;first|refine .inl ⟨?_,rfl⟩|refine .base (.id' ?_ (.bool _))|refine .base (.id' ?_ (.int _ _)));simp[fmd,hs,slot,qE]
 .have hs:fsz w ht=true:=by simpa using h
  obtain⟨g1,g2,g3,g4,g5,g6⟩:=zbc hs;have m1:=znB (a:=w) (b:=ht) om;have m2:=znB (a:=w / 2) (b:=ht / 2) om;refine .skip ?_;(repeat refine .seq ?_);refine .rg rfl λK hK=> ?_;simp(disch:=omega) only[go_sem,zE];(repeat'((first|refine zg ?_ ?_|refine zB ?_ ?_|refine zal ?_ ?_|refine VOh_cond ?_ ?_|refine zak ?_ ?_|refine And.intro ?_ ?_)<;>intro h<;>(try simp only[nqb]at h)<;>simp(disch:=omega) only[go_sem,zE,h]));all_goals(refine hK _ _ ?_;clear hK;(refine .ret ⟨_,rfl,?_⟩;first|refine .inl ⟨?_,rfl⟩|refine .base (.id' ?_ (.bool _))|refine .base (.id' ?_ (.int _ _)));(simp_all[fmd,slot,qE]<;>first|rfl|omega|(rw[qA];simp;done)|(rw[qA];simp;omega)))
theorem zhf(f:Fm)(H:za):CallOk qB 160 [.agg (fmc f)] H (.bool (fvd f)) H:=by
 have hc:=λH=>za5 f H;generalize hfv:fvd f=r;obtain⟨w,ht,y,u,v⟩:=f;refine .body (F0:=[(0,.agg [.int .i64 w,.int .i64 ht,.slice (bs y) y.length false,.slice (bs u) u.length false,.slice (bs v) v.length false])]) Tryz.func160 rfl Tryz.ntmps160 Tryz.results160 rfl kr rfl ?_;refine .e ?_;cases hs:fmd ⟨w,ht,y,u,v⟩
 .simp only[hs]at hc;(repeat refine .seq ?_);refine .rg rfl λK hK=> ?_;simp(disch:=omega) only[go_sem];(repeat'(((refine VCx.call (hc _) rfl ?_);simp(disch:=omega) only[go_sem])));all_goals(refine hK _ _ ?_;clear hK hc;(refine .ret ⟨_,rfl,?_⟩;refine .base (.id' ?_ (.bool _)));simp[<-hfv,fvd,hs,slot,qE])
 .simp only[hs]at hc;have hz:fsz w ht=true:=by simp[fmd]at hs;exact hs.1
  obtain⟨g1,g2,g3,g4,g5,g6⟩:=zbc hz;(repeat refine .seq ?_);refine .rg rfl λK hK=> ?_;simp(disch:=omega) only[go_sem];(repeat'(first|((refine zg ?_ ?_)<;>intro h<;>(try simp only[nqb]at h)<;>simp(disch:=omega) only[go_sem,zad,h])|((refine VCx.call (hc _) rfl ?_);simp(disch:=omega) only[go_sem,zad])));all_goals(refine hK _ _ ?_;clear hK hc;(refine .ret ⟨_,rfl,?_⟩;refine .base (.id' ?_ (.bool _)));subst hfv;(simp_all[fvd,slot,qE]<;>rfl))
theorem ziv(f:Fm)(H:za):CallOk qB 168 [.agg (fmc f)] H (.bool (fvd f)) H:=by
 have hc:=λH=>za1 f H;generalize hfv:fvd f=r;obtain⟨w,ht,y,u,v⟩:=f;refine .body (F0:=[(0,.agg [.int .i64 w,.int .i64 ht,.slice (bs y) y.length false,.slice (bs u) u.length false,.slice (bs v) v.length false])]) Tryz.func168 rfl Tryz.ntmps168 Tryz.results168 rfl kr rfl ?_;refine .e ?_;cases hs:fmd ⟨w,ht,y,u,v⟩
 .simp only[hs]at hc;(repeat refine .seq ?_);refine .rg rfl λK hK=> ?_;simp(disch:=omega) only[go_sem];(repeat'(first|((first|refine zg ?_ ?_|refine And.intro ?_ ?_)<;>intro h<;>(try simp only[nqb]at h)<;>simp(disch:=omega) only[go_sem,h])|((refine VCx.call (hc _) rfl ?_);simp(disch:=omega) only[go_sem])));all_goals(refine hK _ _ ?_;clear hK hc;(refine .ret ⟨_,rfl,?_⟩;first|refine .inl ⟨?_,rfl⟩|refine .base (.id' ?_ (.bool _))|refine .base (.id' ?_ (.int _ _)));simp[<-hfv,fvd,hs,slot,qE])
 .simp only[hs]at hc;have hz:fsz w ht=true:=by simp[fmd]at hs;exact hs.1
  obtain⟨g1,g2,g3,g4,g5,g6⟩:=zbc hz;(repeat refine .seq ?_);refine .rg rfl λK hK=> ?_;simp(disch:=omega) only[go_sem];(repeat'(first|((first|refine zg ?_ ?_|refine And.intro ?_ ?_)<;>intro h<;>(try simp only[nqb]at h)<;>simp(disch:=omega) only[go_sem,zad,h])|((refine VCx.call (hc _) rfl ?_);simp(disch:=omega) only[go_sem,zad])));all_goals(refine hK _ _ ?_;clear hK hc;(refine .ret ⟨_,rfl,?_⟩;first|refine .inl ⟨?_,rfl⟩|refine .base (.id' ?_ (.bool _))|refine .base (.id' ?_ (.int _ _)));subst hfv;(simp_all[fvd,slot,qE]<;>first|rfl|omega|(rw[qA];simp;done)|(rw[qA];simp;omega)))
def ctl(p:List UInt8)(a s w:Nat)(r:Nat):List UInt8:=((qW r).map λk=>(p.drop (a+k * s)).take w).flatten
theorem zfu(p:List UInt8)(a s w r:Nat):ctl p a s w (r+1)=ctl p a s w r++(p.drop (a+r * s)).take w:=by simp[ctl,List.range_succ]
theorem zaa(p:List UInt8)(a s w:Nat):∀ r,(∀ k,k<r->a+k * s+w<=p.length)->(ctl p a s w r).length=r * w
 | 0,_=>by simp[ctl]
 | r+1,h=>by have:=h r om;rw[zfu,qF,zaa p a s w r (λk hk=>h k om),List.length_take,List.length_drop,jE];omega
theorem zf3(p:List UInt8)(w c n:Nat)(f:Bool)(H:za)(hw:1<=w/\w<=64)(hc:c<=1)(hn:n<=64)(hp:p.length=n * (2 * w)):
  CallOk qB 96 [.slice (bs p) p.length f,.int .i64 (w:Int),.int .i64 (c:Int)] H (.slice (bs (ctl p (c * w) (2 * w) w n)) (n * w) false) H:=by
 have hcw:c * w<=w:=by have:c=0\/c=1:=om;rcases this with rfl|rfl<;>simp
 have hfit:∀ k,k<n->c * w+k * (2 * w)+w<=p.length:=λk hk=>by have h1:(k+1) * (2 * w)<=n * (2 * w):=qJ _ om;rw[jE]at h1;omega
 have hbig:n * (2 * w)<=8192:=by have h1:n * (2 * w)<=64 * (2 * w):=qJ _ hn;omega
 have e0:(c:Int) * (w:Int)=((c * w:Nat):Int):=by simp
 have e2:(2:Int) * (w:Int)=((2 * w:Nat):Int):=by simp
 refine .go Tryz.func96 Tryz.ntmps96 Tryz.results96 ?_;refine .e ?_;refine .e ?_;refine .g e0 ?_;(repeat refine .seq ?_);refine .view (Vs.ghost 7 5 1 rfl) ?_;refine .block (PW.loop ?_);suffices hloop:∀(r at':Nat),r<=n->at'=c * w+r * (2 * w)->PL qB _ _ [(0,.slice (bs p) p.length f),(1,.int .i64 (w:Int)),(7,.msl H.length (r * w) 0 (r * w) 1 true),(8,.int .i64 (at':Int))] (H++[⟨5,r * w,bs (ctl p (c * w) (2 * w) w r)⟩]) _ by exact .at [0,1,7,8] (hloop 0 (c * w) (Nat.zero_le _) sp) (by simp[kp,slot,qE]) (by simp[ctl,bs])
 intro r at' hr hat;induction hm:n - r using qG generalizing r at' with
 | _ m ih=>
  have hcl:=zaa p (c * w) (2 * w) w r (λk hk=>hfit k om);refine .round ?_;refine .e ?_;refine .c (λh=> ?_) (λh=> ?_)
  .have h4:at'<p.length:=ot h;have h5:r<n:=by
    rcases Nat.lt_or_ge r n with h6|h6
    .exact h6
    .have:r=n:=om;subst this;omega
   have h6:=hfit r h5;have hnext:=ih (n - (r+1)) om (r+1) (at'+2 * w) om (by have:=qR r 1 (2 * w);omega) rfl;rw[zfu,zR]at hnext;have e1:(at':Int)+(w:Int)=((at'+w:Nat):Int):=om;have e3:at'+w - at'=w:=om;have hrl:r * w<=8192:=by have:r * w<=n * (2 * w):=qM om om;omega
   have htl:((p.drop at').take w).length=w:=by simp;omega
   refine .skip ?_;refine .b ?_;refine .f (λK k=>by simp(disch:=omega) only[go_sem,e1,e3,zd,hcl,zbV,zbm,htl];exact k) ?_;refine .g e2 ?_;have hc1:(bs (ctl p (c * w) (2 * w) w r)++bs ((p.drop at').take w)).length=(r+1) * w:=by rw[qF,zd,zd,hcl,htl,qR];omega
   have hlen:r * w+w=(r+1) * w:=by rw[qR];omega
   rw[<-hat]at hnext;refine .at [0,1,7,8] hnext ?_ ?_
   .refine sqz ?_;rw[hc1,hlen];rfl
   .rw[hc1]
  .have h4:¬ at'<p.length:=ofF h;have h5:r=n:=by
    rcases Nat.lt_or_ge r n with h6|h6
    .have:=hfit r h6;omega
    .omega
   subst h5;refine .exit ?_;refine .e ?_;refine .ret ⟨_,rfl,?_⟩;exact .base (Fz.mslC (e:=5) (xs:=bs (ctl p (c * w) (2 * w) w r)) (Nat.le_refl _) sp (by rw[zd,hcl];omega) (FzC.refl (zh _ _)))
theorem zbl(n:Nat):zb8 n [PV.int .u8 0]=bs (qD n 0):=by
 rw[zwE];induction n with
 | zero=>rfl
 | succ n ih=>rw[qS,<-ih];simp[zb8,qS]
theorem zj8(p:List UInt8)(a s w n:Nat)(f:Bool)(H:za)(hw:w<=64)(hn:n<=64)(hp:p.length<=8192)(hfit:∀ k,k<n->a+k * s+w<=p.length)(hs:s<=200/\a<=200):
  CallOk qB 133 [.slice (bs p) p.length f,.agg [.int .i64 (a:Int),.int .i64 (s:Int),.int .i64 (w:Int),.int .i64 (n:Int)]] H (.slice (bs (ctl p a s w n)) (n * w) false) H:=by
 have e0:(w:Int) * (n:Int)=((n * w:Nat):Int):=by rw[Nat.mul_comm];simp
 have hbig:n * w<=4096:=qM hn hw;refine .go Tryz.func133 Tryz.ntmps133 Tryz.results133 ?_;refine .e ?_;refine .g e0 ?_;refine .e ?_;refine .l ?_;suffices hloop:∀(r:Nat),r<=n->PL qB _ _ [(0,.slice (bs p) p.length f),(3,.ptr H.length 0 0),(5,.msl (H.length+1) 0 0 (n * w) 1 true),(14,.int .i64 (n:Int)),(15,.int .i64 (r:Int))] (H++[⟨119,0,[.int .i64 (a:Int),.int .i64 (s:Int),.int .i64 (w:Int),.int .i64 (n:Int)]⟩,⟨5,0,bs (ctl p a s w r++qD ((n - r) * w) 0)⟩]) _ by exact .at [0,3,5,14,15] (hloop 0 (Nat.zero_le _)) rfl (by rw[show ctl p a s w 0=[]from rfl,qP,Nat.sub_zero,<-zbl];rfl)
 intro r hr;induction hm:n - r using qG generalizing r with
 | _ m ih=>
  have hcl:=zaa p a s w r (λk hk=>hfit k om);refine .round ?_;refine .e ?_;refine .c (λh=> ?_) (λh=> ?_)
  .have h4:r<n:=ot h;have hnext:=ih (n - (r+1)) om (r+1) om rfl;have h6:=hfit r h4;have eR:(r:Int) * (w:Int)=((r * w:Nat):Int):=by simp
   have eR1:((r:Int)+1) * (w:Int)=(((r+1) * w:Nat):Int):=by simp
   have eS:(r:Int) * (s:Int)=((r * s:Nat):Int):=by simp
   have eA:(a:Int)+((r * s:Nat):Int)=((a+r * s:Nat):Int):=by simp
   have b2:(r+1) * w<=n * w:=qJ _ om;have b1:(r+1) * w=r * w+w:=by rw[qR];omega
   have e3:r * w+w - r * w=w:=om;have hbl:(ctl p a s w r++qD (m * w) 0).length=n * w:=by rw[qF,hcl,List.length_replicate,<-qR,show r+m=n from om]
   have htk:List.take (p.length - (a+r * s)) (qV (a+r * s) p)=qV (a+r * s) p:=qH sp;have hdl:(qV (a+r * s) p).length=p.length - (a+r * s):=List.length_drop;have hmin:min (p.length - (a+r * s)) w=w:=om;have hzl:(List.take w (qV (a+r * s) p)).length=w:=by simp;omega
   have htk1:List.take (r * w) (ctl p a s w r++qD (m * w) 0)=ctl p a s w r:=by rw[<-hcl];exact List.take_left
   have htk2:qV (r * w+w) (ctl p a s w r++qD (m * w) 0)=qD ((n - (r+1)) * w) 0:=by
    rw[<-hcl,List.drop_append,hcl,qO om,qP,List.drop_replicate];congr 1;have:m * w=(n - (r+1)) * w+w:=by rw[<-jE];congr 1;omega
    omega
   refine .skip ?_;refine .b ?_;refine .e ?_;rw[b1]at eR1 b2;(repeat refine .seq ?_);refine .draw mix kr λK hK=> ?_;simp(disch:=omega) only[go_sem,eR,eR1,eS,eA,e3,zd,hbl,zbV,zbm,htk,hdl,hmin,hzl,htk1,htk2];refine hK _ _ ?_;clear hK K;refine .e ?_;rw[zfu,List.append_assoc,zR,zR]at hnext;exact .at [0,3,5,14,15] hnext rfl rfl
  .have h4:r=n:=ofF h;subst h4;refine .exit ?_;refine .e ?_;refine .ret ⟨_,rfl,?_⟩;rw[show r - r=0 from Nat.sub_self r]at hm;subst hm;rw[Nat.zero_mul,jG,List.append_nil];exact .base (Fz.mslC (e:=5) (xs:=bs (ctl p a s w r)) om (hp1 _ _ _ _) (by rw[zd,hcl];omega) (FzC.refl (zh _ _)))
def fr4(V K:Nat)(y u v:List UInt8):Fm:=⟨((2 * V:Nat):Int),((4 * K:Nat):Int),y,u,v⟩
structure Fok(V K:Nat)(y u v:List UInt8):Prop where
 rv:1<=V/\V<=32
 rk:1<=K/\K<=16
 ly:y.length=2 * K * (2 * (2 * V))
 lu:u.length=K * (2 * V)
 lv:v.length=K * (2 * V)
def fld(V K P:Nat)(y u v:List UInt8):Fm:=⟨((2 * V:Nat):Int),((2 * K:Nat):Int),ctl y (P * (2 * V)) (2 * (2 * V)) (2 * V) (2 * K),ctl u (P * V) (2 * V) V K,ctl v (P * V) (2 * V) V K⟩
theorem znS{V K:Nat}{y u v:List UInt8}(h:Fok V K y u v):fmd (fr4 V K y u v)=true:=by
 obtain⟨⟨v1,v2⟩,⟨k1,k2⟩,hy,hu,hv⟩:=h;have e1:((2 * V:Nat):Int) / 2=(V:Int):=om;have e2:((4 * K:Nat):Int) / 2=((2 * K:Nat):Int):=om;have e3:2 * K * (2 * (2 * V))=2 * V * (4 * K):=by grind
 have e4:K * (2 * V)=V * (2 * K):=by grind
 have a1:fsz ((2 * V:Nat):Int) ((4 * K:Nat):Int)=true:=by simp_all[fsz,qN];omega
 simp_all[Int.natCast_mul,fmd,fr4,Bool.and_self]
theorem zaj(n w P:Nat)(hP:P<=1)(p:List UInt8)(hp:p.length=n * (2 * w)):∀ k,k<n->P * w+k * (2 * w)+w<=p.length:=λk hk=>by
 have h0:P * w<=w:=by have:P=0\/P=1:=om;grind
 have h1:(k+1) * (2 * w)<=n * (2 * w):=qJ _ om;grind
theorem zC(n:Nat)(a b:Int)(y u v:List UInt8)(i j k:Nat)(e:Int):Scoped n (.tup [.agg [.int .i64 a,.int .i64 b,.slice (bs y) i false,.slice (bs u) j false,.slice (bs v) k false],.int .i64 e]):=.tup λp x hx=>by
 have hm:=qQ hx;simp only[jA,List.not_mem_nil,or_false]at hm;rcases hm with rfl|rfl
 .refine zq λx hx=> ?_;simp only[jA,List.not_mem_nil,or_false]at hx;rcases hx with rfl|rfl|rfl|rfl|rfl
  .exact .int _ _
  .exact .int _ _
  all_goals grind[zr,zh]
 .exact .int _ _
theorem zh4(V K P:Nat)(y u v:List UInt8)(H:za)(hf:Fok V K y u v)(hP:P<=1):
  CallOk qB 76 [.agg (fmc (fr4 V K y u v)),.int .i64 (P:Int)] H (.tup [.agg (fmc (fld V K P y u v)),.int .i64 0]) H:=by
 have hfd:=λH=>za5 (fr4 V K y u v) H;rw[znS hf]at hfd;obtain⟨⟨v1,v2⟩,⟨k1,k2⟩,hy,hu,hv⟩:=hf;have ly:=zaa y (P * (2 * V)) (2 * (2 * V)) (2 * V) (2 * K) (zaj _ _ _ hP _ hy);have lu:=zaa u (P * V) (2 * V) V K (zaj _ _ _ hP _ hu);have lv:=zaa v (P * V) (2 * V) V K (zaj _ _ _ hP _ hv);have hPV:P * V<=32/\P * (2 * V)<=64:=by have:P=0\/P=1:=om;grind
 have by1:y.length<=8192:=by have:2 * K * (2 * (2 * V))<=32 * 128:=qM om om;omega
 have bu1:u.length<=8192:=by have:K * (2 * V)<=16 * 64:=qM om om;omega
 have bv1:v.length<=8192:=by have:K * (2 * V)<=16 * 64:=qM om om;omega
 have c1:=λH=>zj8 y (P * (2 * V)) (2 * (2 * V)) (2 * V) (2 * K) false H om om by1 (zaj _ _ _ hP _ hy) om;have c2:=λH=>zj8 u (P * V) (2 * V) V K false H om om bu1 (zaj _ _ _ hP _ hu) om;have c3:=λH=>zj8 v (P * V) (2 * V) V K false H om om bv1 (zaj _ _ _ hP _ hv) om;generalize hr:fmc (fld V K P y u v)=r;simp only[fmc,fld,ly,lu,lv]at hr;simp only[fmc,fr4]at hfd |-;have m4:((4 * K:Nat):Int).tmod 4=0:=by simp_all
 have d2:((4 * K:Nat):Int).tdiv 2=((2 * K:Nat):Int):=by grind
 have d3:((2 * K:Nat):Int).tdiv 2=(K:Int):=by simp_all
 have d4:((2 * V:Nat):Int).tdiv 2=(V:Int):=by simp_all
 have x1:(P:Int) * ((2 * V:Nat):Int)=((P * (2 * V):Nat):Int):=by simp
 have x2:(2:Int) * ((2 * V:Nat):Int)=((2 * (2 * V):Nat):Int):=by simp
 have x3:((P * (2 * V):Nat):Int).tdiv 2=((P * V:Nat):Int):=by grind
 refine .body (F0:=[(0,.agg [.int .i64 ((2 * V:Nat):Int),.int .i64 ((4 * K:Nat):Int),.slice (bs y) y.length false,.slice (bs u) u.length false,.slice (bs v) v.length false]),(1,.int .i64 (P:Int))]) Tryz.func76 rfl Tryz.ntmps76 Tryz.results76 rfl kr rfl ?_;refine .e ?_;(repeat refine .seq ?_);refine .rgv (P:=qB) [1,2,4] 24 (.bool false) ?_ ?_ ?_
 .rfl
 .simp(disch:=omega) only[go_sem];(repeat'(first|((refine zg ?_ ?_)<;>intro h<;>(try simp only[nqb]at h)<;>simp(disch:=omega) only[go_sem,m4,h])|((refine VCx.call (hfd _) rfl ?_);simp(disch:=omega) only[go_sem,m4])));all_goals(simp_all[slot,qE]<;>omega)
 refine .us ?_;(repeat refine .seq ?_);refine .draw mix kr λK hK=> ?_;simp(disch:=omega) only[go_sem,d2];refine hK _ _ ?_;clear hK K;(repeat refine .seq ?_);refine .draw mix kr λK hK=> ?_;simp(disch:=omega) only[go_sem,x1,x2,x3,d3,d4];(repeat'(((first|refine VCy.call (c1 _) rfl ?_|refine VCy.call (c2 _) rfl ?_|refine VCy.call (c3 _) rfl ?_);simp(disch:=omega) only[go_sem,x1,x2,x3,d3,d4])));refine hK _ _ ?_;clear hK K;refine .v (.tup [.agg [.int .i64 ((2 * V:Nat):Int),.int .i64 ((2 * K:Nat):Int),.slice (bs (ctl y (P * (2 * V)) (2 * (2 * V)) (2 * V) (2 * K))) (2 * K * (2 * V)) false,.slice (bs (ctl u (P * V) (2 * V) V K)) (K * V) false,.slice (bs (ctl v (P * V) (2 * V) V K)) (K * V) false],.int .i64 0]) ?_;rw[<-hr];exact .base (.id (zC _ _ _ _ _ _ _ _ _ _))
theorem ziR(V K P:Nat)(y u v:List UInt8)(H:za)(hf:Fok V K y u v)(hP:P<=1):
  CallOk qB 47 [.agg (fmc (fr4 V K y u v)),.int .i64 (P:Int)] H (.tup [.agg (fmc (fld V K P y u v)),.int .i64 0]) H:=by
 have hfd:=λH=>za1 (fr4 V K y u v) H;rw[znS hf]at hfd;obtain⟨⟨v1,v2⟩,⟨k1,k2⟩,hy,hu,hv⟩:=hf;have ly:=zaa y (P * (2 * V)) (2 * (2 * V)) (2 * V) (2 * K) (zaj _ _ _ hP _ hy);have lu:=zaa u (P * V) (2 * V) V K (zaj _ _ _ hP _ hu);have lv:=zaa v (P * V) (2 * V) V K (zaj _ _ _ hP _ hv);have c1:=λH=>zf3 y (2 * V) P (2 * K) false H om hP om hy;have c2:=λH=>zf3 u V P K false H om hP om hu;have c3:=λH=>zf3 v V P K false H om hP om hv;generalize hr:fmc (fld V K P y u v)=r;simp only[fmc,fld,ly,lu,lv]at hr;simp only[fmc,fr4]at hfd |-;have m4:((4 * K:Nat):Int).tmod 4=0:=by simp_all
 have d2:((4 * K:Nat):Int).tdiv 2=((2 * K:Nat):Int):=by grind
 have d4:((2 * V:Nat):Int).tdiv 2=(V:Int):=by simp_all
 refine .body (F0:=[(0,.agg [.int .i64 ((2 * V:Nat):Int),.int .i64 ((4 * K:Nat):Int),.slice (bs y) y.length false,.slice (bs u) u.length false,.slice (bs v) v.length false]),(1,.int .i64 (P:Int))]) Tryz.func47 rfl Tryz.ntmps47 Tryz.results47 rfl kr rfl ?_;refine .e ?_;(repeat refine .seq ?_);refine .rgv (P:=qB) [1,2,4] 22 (.bool false) ?_ ?_ ?_
 .rfl
 .simp(disch:=omega) only[go_sem];(repeat'(first|((first|refine zg ?_ ?_|refine And.intro ?_ ?_)<;>intro h<;>(try simp only[nqb]at h)<;>simp(disch:=omega) only[go_sem,m4,h])|((refine VCx.call (hfd _) rfl ?_);simp(disch:=omega) only[go_sem,m4])));all_goals(simp_all[slot,qE]<;>first|rfl|omega|(rw[qA];simp;done)|(rw[qA];simp;omega))
 refine .us ?_;(repeat refine .seq ?_);refine .draw mix kr λK hK=> ?_;simp(disch:=omega) only[go_sem,d2,d4];(repeat'(first|((first|refine zB ?_ ?_|refine And.intro ?_ ?_)<;>intro h<;>(try simp only[nqb]at h)<;>simp(disch:=omega) only[go_sem,d2,d4,h])|((first|refine VCy.call (c1 _) rfl ?_|refine VCy.call (c2 _) rfl ?_|refine VCy.call (c3 _) rfl ?_);simp(disch:=omega) only[go_sem,d2,d4])));refine hK _ _ ?_;clear hK K;refine .v (.tup [.agg [.int .i64 ((2 * V:Nat):Int),.int .i64 ((2 * K:Nat):Int),.slice (bs (ctl y (P * (2 * V)) (2 * (2 * V)) (2 * V) (2 * K))) (2 * K * (2 * V)) false,.slice (bs (ctl u (P * V) (2 * V) V K)) (K * V) false,.slice (bs (ctl v (P * V) (2 * V) V K)) (K * V) false],.int .i64 0]) ?_;rw[<-hr];exact .base (.id (zC _ _ _ _ _ _ _ _ _ _))
theorem zib(p:List UInt8)(f:Bool)(H:za)(hp:1<=p.length/\p.length<=100000):CallOk qB 77 [.slice (bs p) p.length f] H (.slice (bs p) p.length false) H:=by refine .go Tryz.func77 Tryz.ntmps77 Tryz.results77 ?_;refine .e ?_;refine .e ?_;refine .us ?_;refine .f (λK k=>by simp(disch:=omega) only[go_sem,zd];exact k) ?_;refine .ret ⟨_,rfl,?_⟩;exact .base (Fz.mslC (e:=5) (xs:=bs p) (Nat.le_refl _) (by simp[zd]) (by rw[zd];omega) (FzC.refl (zh _ _)))
theorem zjp(p q:List UInt8)(f g:Bool)(H:za):CallOk qB 24 [.slice (bs p) p.length f,.slice (bs q) q.length g] H (.bool (p==q)) H:=by refine .go Tryz.func24 Tryz.ntmps24 Tryz.results24 ?_;refine .e ?_;refine .f (λK k=>by simp(disch:=omega) only[go_sem,zd,zoQ];exact k) ?_;exact .ret ⟨_,rfl,.inl ⟨rfl,rfl⟩⟩
theorem zo8(f:Fm)(H:za):CallOk qB 9 [.agg (fmc f),.agg (fmc f)] H (.bool true) H:=by obtain⟨w,ht,y,u,v⟩:=f;have s1:=λH=>zjp y y false false H;have s2:=λH=>zjp u u false false H;have s3:=λH=>zjp v v false false H;simp only[beq_self_eq_true]at s1 s2 s3;refine .body (F0:=[(0,.agg (fmc ⟨w,ht,y,u,v⟩)),(1,.agg (fmc ⟨w,ht,y,u,v⟩))]) Tryz.func9 rfl Tryz.ntmps9 Tryz.results9 rfl kr rfl ?_;(repeat'(first|refine .seq ?_|refine .skip ?_|refine .block ?_|((first|refine .rg rfl λK hK=> ?_|refine .draw mix kr λK hK=> ?_);simp(disch:=omega) only[go_sem,fmc])|((first|refine zg ?_ ?_|refine zB ?_ ?_|refine And.intro ?_ ?_)<;>intro h<;>(try simp only[nqb]at h)<;>simp(disch:=omega) only[go_sem,fmc,h])|((first|refine VCx.call (s1 _) rfl ?_|refine VCx.call (s2 _) rfl ?_|refine VCx.call (s3 _) rfl ?_|refine VCy.call (s1 _) rfl ?_|refine VCy.call (s2 _) rfl ?_|refine VCy.call (s3 _) rfl ?_);simp(disch:=omega) only[go_sem,fmc])|(refine hK _ _ ?_;clear hK K)|(refine .cond (t:=_) rfl (λh=> ?_) (λh=> ?_)<;>(try(cases h;done))<;>(try simp only[nqb]at h))));all_goals((refine .ret ⟨_,rfl,?_⟩;first|refine .inl ⟨?_,rfl⟩|refine .base (.id' ?_ (.bool _))|refine .base (.id' ?_ (.int _ _)));(simp_all[slot,qE]<;>first|rfl|omega|(rw[qA];simp;done)|(rw[qA];simp;omega)))
structure Cx where
 t:Int
 s:Int
 i:Bool
 n:Bool
def cxc(c:Cx):List PV:=[.int .i64 c.t,.int .i64 c.s,.bool c.i,.bool c.n]
def vcx(c:Cx):Bool:=decide (1<=c.t)&&(decide (c.t<=3)&&(decide (1<=c.s)&&(decide (c.s<=3)&&(if c.s=3 then !c.n else c.i))))
def fcx(c:Cx):Bool:=decide (c.s≠3)
def bcx(c:Cx):Bool:=c.i&&decide (c.s=3)
structure Mb where
 k:Int
 ua:Bool
 ub:Bool
 fp:Bool
 fd:Bool
 va:Int
 vb:Int
 vc:Int
 vd:Int
 ve:Int
 vf:Int
 vg:Int
 vh:Int
 sa:Int
 sb:Int
 sc:Int
 sd:Int
 dl:Int
 ca:Bool
 cb:Bool
 cc:Bool
 cd:Bool
 ce:Bool
 cf:Bool
 lv:List Int
def mbc(m:Mb):List PV:=.int .i64 m.k:: .bool m.ua:: .bool m.ub:: .bool m.fp:: .bool m.fd:: .int .i64 m.va:: .int .i64 m.vb:: .int .i64 m.vc:: .int .i64 m.vd:: .int .i64 m.ve:: .int .i64 m.vf:: .int .i64 m.vg:: .int .i64 m.vh:: .int .i64 m.sa:: .int .i64 m.sb:: .int .i64 m.sc:: .int .i64 m.sd:: .int .i64 m.dl:: .bool m.ca:: .bool m.cb:: .bool m.cc:: .bool m.cd:: .bool m.ce:: .bool m.cf::is m.lv
def mB(m:Mb):Blk:=⟨109,0,mbc m⟩
def zgA(m:Mb):Bool:=m.ca||(m.cb||(m.cc||(m.cd||(m.ce||m.cf))))
def hlM(m:Mb):Bool:=decide (m.k=1)||zgA m
def win(x n:Int):Bool:=decide (-n<=x)&&decide (x<=n)
def fch(c:Cx)(m:Mb):Bool:=if hlM m then(bcx c|| !m.fd)&&win m.dl 30 else !m.fd&&decide (m.dl=0)
theorem zlR(c:Cx)(H:za):CallOk qB 135 [.agg (cxc c)] H (.bool (vcx c)) H:=by obtain⟨t,s,i,n⟩:=c;refine .body (F0:=[(0,.agg [.int .i64 t,.int .i64 s,.bool i,.bool n])]) Tryz.func135 rfl Tryz.ntmps135 Tryz.results135 rfl kr rfl ?_;(repeat'(first|refine .seq ?_|refine .skip ?_|refine .block ?_|((refine .rg rfl λK hK=> ?_);simp(disch:=omega) only[go_sem])|((refine zg ?_ ?_)<;>intro h<;>(try simp only[nqb]at h)<;>simp(disch:=omega) only[go_sem,h])|(refine hK _ _ ?_;clear hK K)|(refine .cond (t:=_) rfl (λh=> ?_) (λh=> ?_)<;>(try(cases h;done))<;>(try simp only[nqb]at h))));all_goals((refine .ret ⟨_,rfl,?_⟩;refine .base (.id' ?_ (.bool _)));(simp_all[vcx,slot,qE]<;>omega))
theorem zja(c:Cx)(H:za):CallOk qB 170 [.agg (cxc c)] H (.bool (vcx c)) H:=by obtain⟨t,s,i,n⟩:=c;refine .body (F0:=[(0,.agg [.int .i64 t,.int .i64 s,.bool i,.bool n])]) Tryz.func170 rfl Tryz.ntmps170 Tryz.results170 rfl kr rfl ?_;(repeat'(first|refine .seq ?_|refine .skip ?_|refine .block ?_|((first|refine .rg rfl λK hK=> ?_|refine .draw mix kr λK hK=> ?_);simp(disch:=omega) only[go_sem])|((first|refine zg ?_ ?_|refine zB ?_ ?_|refine And.intro ?_ ?_)<;>intro h<;>(try simp only[nqb]at h)<;>simp(disch:=omega) only[go_sem,h])|(refine hK _ _ ?_;clear hK K)|(refine .cond (t:=_) rfl (λh=> ?_) (λh=> ?_)<;>(try(cases h;done))<;>(try simp only[nqb]at h))));all_goals((refine .ret ⟨_,rfl,?_⟩;first|refine .inl ⟨?_,rfl⟩|refine .base (.id' ?_ (.bool _))|refine .base (.id' ?_ (.int _ _)));cases i<;>cases n<;>(simp_all[vcx,slot,qE]<;>first|rfl|omega|(rw[qA];simp;done)|(rw[qA];simp;omega)))
theorem zmP(c:Cx)(H:za):CallOk qB 153 [.agg (cxc c)] H (.bool (fcx c)) H:=by obtain⟨t,s,i,n⟩:=c;refine .body (F0:=[(0,.agg [.int .i64 t,.int .i64 s,.bool i,.bool n])]) Tryz.func153 rfl Tryz.ntmps153 Tryz.results153 rfl kr rfl ?_;(repeat'(first|refine .seq ?_|((refine .rg rfl λK hK=> ?_);simp(disch:=omega) only[go_sem])|(refine hK _ _ ?_;clear hK K)));all_goals((refine .ret ⟨_,rfl,?_⟩;refine .base (.id' ?_ (.bool _)));(simp_all[fcx,slot,qE]<;>rfl))
theorem zgY(c:Cx)(H:za):CallOk qB 250 [.agg (cxc c)] H (.bool (fcx c)) H:=by obtain⟨t,s,i,n⟩:=c;refine .body (F0:=[(0,.agg [.int .i64 t,.int .i64 s,.bool i,.bool n])]) Tryz.func250 rfl Tryz.ntmps250 Tryz.results250 rfl kr rfl ?_;(repeat'(first|refine .seq ?_|refine .skip ?_|refine .block ?_|((first|refine .rg rfl λK hK=> ?_|refine .draw mix kr λK hK=> ?_);simp(disch:=omega) only[go_sem])|((first|refine zg ?_ ?_|refine zB ?_ ?_|refine And.intro ?_ ?_)<;>intro h<;>(try simp only[nqb]at h)<;>simp(disch:=omega) only[go_sem,h])|(refine hK _ _ ?_;clear hK K)|(refine .cond (t:=_) rfl (λh=> ?_) (λh=> ?_)<;>(try(cases h;done))<;>(try simp only[nqb]at h))));all_goals((refine .ret ⟨_,rfl,?_⟩;first|refine .inl ⟨?_,rfl⟩|refine .base (.id' ?_ (.bool _))|refine .base (.id' ?_ (.int _ _)));(simp_all[fcx,slot,qE]<;>first|rfl|omega|(rw[qA];simp;done)|(rw[qA];simp;omega)))
theorem zkg(c:Cx)(H:za):CallOk qB 221 [.agg (cxc c)] H (.bool (bcx c)) H:=by obtain⟨t,s,i,n⟩:=c;refine .body (F0:=[(0,.agg [.int .i64 t,.int .i64 s,.bool i,.bool n])]) Tryz.func221 rfl Tryz.ntmps221 Tryz.results221 rfl kr rfl ?_;(repeat'(first|refine .seq ?_|((refine .rg rfl λK hK=> ?_);simp(disch:=omega) only[go_sem])|((refine zg ?_ ?_)<;>intro h<;>(try simp only[nqb]at h)<;>simp(disch:=omega) only[go_sem,h])|(refine hK _ _ ?_;clear hK K)));all_goals((refine .ret ⟨_,rfl,?_⟩;refine .base (.id' ?_ (.bool _)));(simp_all[bcx,slot,qE]<;>rfl))
theorem zg7(c:Cx)(H:za):CallOk qB 171 [.agg (cxc c)] H (.bool (bcx c)) H:=by obtain⟨t,s,i,n⟩:=c;refine .body (F0:=[(0,.agg [.int .i64 t,.int .i64 s,.bool i,.bool n])]) Tryz.func171 rfl Tryz.ntmps171 Tryz.results171 rfl kr rfl ?_;(repeat'(first|refine .seq ?_|refine .skip ?_|refine .block ?_|((first|refine .rg rfl λK hK=> ?_|refine .draw mix kr λK hK=> ?_);simp(disch:=omega) only[go_sem])|((first|refine zg ?_ ?_|refine zB ?_ ?_|refine And.intro ?_ ?_)<;>intro h<;>(try simp only[nqb]at h)<;>simp(disch:=omega) only[go_sem,h])|(refine hK _ _ ?_;clear hK K)|(refine .cond (t:=_) rfl (λh=> ?_) (λh=> ?_)<;>(try(cases h;done))<;>(try simp only[nqb]at h))));all_goals((refine .ret ⟨_,rfl,?_⟩;first|refine .inl ⟨?_,rfl⟩|refine .base (.id' ?_ (.bool _))|refine .base (.id' ?_ (.int _ _)));(simp_all[bcx,slot,qE]<;>first|rfl|omega|(rw[qA];simp;done)|(rw[qA];simp;omega)))
theorem zfD(x n:Int)(H:za)(hn:0<=n/\n<=10000):CallOk qB 217 [.int .i64 x,.int .i64 n] H (.bool (win x n)) H:=by refine .go Tryz.func217 Tryz.ntmps217 Tryz.results217 ?_;(repeat'(first|refine .seq ?_|((refine .rg rfl λK hK=> ?_);simp(disch:=omega) only[go_sem])|((refine zg ?_ ?_)<;>intro h<;>(try simp only[nqb]at h)<;>simp(disch:=omega) only[go_sem,h])|(refine hK _ _ ?_;clear hK K)));all_goals((refine .ret ⟨_,rfl,?_⟩;refine .inl ⟨?_,rfl⟩);(simp_all[win,slot,qE]<;>omega))
theorem zgC(x:Int)(H:za):CallOk qB 247 [.int .i64 x] H (.bool (win x 4095)) H:=by refine .go Tryz.func247 Tryz.ntmps247 Tryz.results247 ?_;(repeat'(first|refine .seq ?_|refine .skip ?_|refine .block ?_|((first|refine .rg rfl λK hK=> ?_|refine .draw mix kr λK hK=> ?_);simp(disch:=omega) only[go_sem])|((first|refine zg ?_ ?_|refine zB ?_ ?_|refine And.intro ?_ ?_)<;>intro h<;>(try simp only[nqb]at h)<;>simp(disch:=omega) only[go_sem,h])|(refine hK _ _ ?_;clear hK K)|(refine .cond (t:=_) rfl (λh=> ?_) (λh=> ?_)<;>(try(cases h;done))<;>(try simp only[nqb]at h))));all_goals((refine .ret ⟨_,rfl,?_⟩;first|refine .inl ⟨?_,rfl⟩|refine .base (.id' ?_ (.bool _))|refine .base (.id' ?_ (.int _ _)));(simp_all[win,slot,qE]<;>first|rfl|omega|(rw[qA];simp;done)|(rw[qA];simp;omega)))
def vrg(x y:Int):Bool:=win x 63&&win y 63
def tw(H:za)(i j:Nat)(A B:Blk):za:=(H.set i A).set j B
end Sc
end Go.Proofs.YtdajpjenhcobkaaGreatDoor
