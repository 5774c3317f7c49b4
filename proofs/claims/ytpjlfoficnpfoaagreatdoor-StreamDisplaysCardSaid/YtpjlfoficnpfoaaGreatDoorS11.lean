/-
  Parts of the proof, put together in one text. No condition.
-/
import Derived.Test.YtpjlfoficnpfoaaGreatDoorS10
import Derived.Defers
import Derived.Recover
open Array renaming replicate → qE
open Bool renaming eq_iff_iff → qF
open List renaming length_set → qA, getElem?_append_right → qB, set_append_right → qC, take → qG, drop → qH, getElem?_eq_some_iff → qI, set_append_left → qK, getElem?_eq_getElem → qL, take_of_length_le → qM, set_set → qN, drop_of_length_le → qO, mem_of_getElem? → qQ
open Nat renaming reduceAdd → qD, reduceLeDiff → qJ
open Option renaming bind_eq_bind → qP
namespace Go.Proofs.YtpjlfoficnpfoaaGreatDoor.Pm
set_option linter.all false
open Go.RowKit
variable {P:Program} {C:Ctx} {H:za} {w:World} {F:Fr} {a:Act} {N:Nat}
theorem zl2{all:Array Oper}{o:Oper}{rest:List Oper}{v:PV}{H':za}{Q:Exit→Act→World→Prop}(hw:WRel C H w)(hf:FRel C N (slot F) a)(hd:zQ N o=true)(hg:o.guard=none)(hp:zq o.op (slot F)=none)(he:pop P o.op (slot F) H=some (v,H'))
  (hn:∀ C' u w',CLe C C'→WRel C' H' w'→Below C.B w w'→FRel C' N (slot (put F o.dst v)) (a.put o.dst u)→wpList P all Q rest (a.put o.dst u) w'):wpList P all Q (o::rest) a w:=by
 unfold wpList;rw[if_pos (by simp[Region.wanted,hg])];left;refine zb0 hd hw hf (R:=fun v' H''=>v'=v∧H''=H') (by unfold zcG;rw[hp];exact⟨v,H',he,rfl,rfl⟩) _ _ fun C' u w' v' H'' q0 q1 q2 q3 q4=> ?_;obtain⟨rfl,rfl⟩:=q0;rw[←zad]at q4;exact hn C' u w' q1 q2 q3 q4
theorem zi3{all:Array Oper}{o:Oper}{rest:List Oper}{u:Value}{Q:Exit→Act→World→Prop}(hg:o.guard=none)(he:(execOp a.eval o).run P w= .ok (.value u) w)(hn:wpList P all Q rest (a.put o.dst u) w):wpList P all Q (o::rest) a w:=by unfold wpList;rw[if_pos (by simp[Region.wanted,hg])];left;unfold Oper.wp;rw[he,Oper.upon_value];exact hn
theorem zpD{args:List PV}{us:List Value}(hargs:VRels C args us)(hn:args.length≤N):FRel C N (slot (zb2 args 0)) { tmps:=us.toArray++qE (N - us.toArray.size) Go.undef,defers:=[] }:=by
 refine⟨by simp[hargs.1];omega,fun t=> ?_⟩;rw[zcX];simp only[Nat.zero_le,if_true,Nat.sub_zero];by_cases ht:t<args.length
 ·have htu:t<us.length:=by rw[hargs.1];exact ht
  have e1:args.getD t .undef=args[t]:=by simp[List.getD,ht]
  have e2:(us.toArray++qE (N - us.toArray.size) Go.undef).getD t Go.undef=us[t]:=by rw[Array.getD_eq_getD_getElem?,Array.getElem?_append_left (by simpa using htu)];simp[htu]
  rw[e1,e2];exact hargs.2 t _ _ (qL ht) (qL htu)
 ·have e1:args.getD t .undef= .undef:=by simp[List.getD,List.getElem?_eq_none (by omega:args.length≤t)]
  rw[e1];exact .undef _
theorem WRel.drop{A K:za}{C0:Ctx}{w0:World}(h0:WRel C0 H w0)(hl:H.length=A.length)(hA:HSc A)(hle:CLe C0 C)(hw:WRel C (A++K) w):∃ C',CLe C0 C'∧WRel C' A w:=by obtain⟨g1,g2⟩:=hw.cutN (CutH.base hA);exact⟨_,((hle.toN _).trans (g1.less (m:=H.length) om)).full h0.lenv,g2⟩
theorem zo0{all:Array Oper}{o:Oper}{rest:List Oper}{d:Deferred}{Q:Exit→Act→World→Prop}(hg:o.guard=none)(he:(execOp a.eval o).run P w= .ok (.defer d) w)(hn:wpList P all Q rest ({ a with defers:=d::a.defers }.put o.dst Go.undef) w):wpList P all Q (o::rest) a w:=by unfold wpList;rw[if_pos (by simp[Region.wanted,hg])];left;unfold Oper.wp;rw[he,Oper.upon_defer];exact hn
theorem PW.hand{c:Code}{F1:Fr}{H1:za}{Q:Exit→Act→World→Prop}(ks:List Nat)(h:PW P ⟨N,H⟩ c F H (fun x F' H'=>x= .normal∧kp ks F'=F1∧H'=H1))(hd:a.defers=[])(hw:WRel C H w)(hf:FRel C N (slot F) a)
  (hn:∀ C' a' w',CLe C C'→a'.defers=[]→WRel C' H1 w'→Below C.B w w'→FRel C' N (slot F1) a'→Q .normal a' w'):c.wp P Q a w:=by
 refine wp_mono (h hw.hsc C a w hd hw hf) ?_;rintro x a' w' ⟨C',F',H',y1,y2,y3,y4,y5,rfl,rfl,rfl⟩;exact hn C' a' w' (y1.full hw.lenv) y2 y3 y4 (y5.keep ks)
theorem zec{id:Nat}{ops:Array Oper}{K:Fr→za→Prop}{Q:Exit→Act→World→Prop}(n:Nat)(hd:(ops.toList.take n).all (zQ N)=true)(h:VO P (ops.toList.map (·.dst)) (ops.toList.take n) (some (F,H)) K){D:List Deferred}(hD:a.defers=D)(hw:WRel C H w)(hf:FRel C N (slot F) a)
  (hn:∀ C' F' H' a' w',CLe C C'→a'.defers=D→WRel C' H' w'→Below C.B w w'→FRel C' N (slot F') a'→K F' H'→wpList P ops Q (ops.toList.drop n) a' w'):(Code.region id ops false).wp P Q a w:=by
 refine wp_region_list ?_;have:=zcN (P:=P) (all:=ops.toList) (rest:=ops.toList.drop n) (ops.toList.take n) F H hd (zao _ _ _ h) C a w hD hw hf Q (fun C' F' H' a' w' p1 p2 p3 p4 p5 p6=>by
  simpa using hn C' F' H' a' w' p1 p2 p3 p4 p5 p6)
 rw[List.take_append_drop]at this;simpa using this
theorem WRel.dropV{A K:za}{C0:Ctx}{w0:World}{v:PV}{u:Value}(h0:WRel C0 H w0)(hl:H.length=A.length)(hA:HSc A)(hle:CLe C0 C)(hw:WRel C (A++K) w)(hv:VRel C v u)(hs:Scoped A.length v):∃ C',CLe C0 C'∧WRel C' A w∧VRel C' v u:=by obtain⟨g1,g2⟩:=hw.cutN (CutH.base hA);exact⟨_,((hle.toN _).trans (g1.less (m:=H.length) om)).full h0.lenv,g2,(Fz.id hs).sound hw hv⟩
end Go.Proofs.YtpjlfoficnpfoaaGreatDoor.Pm
namespace Go.Proofs.YtpjlfoficnpfoaaGreatDoor.Sc
set_option linter.all false
open Pm Ty Go.RowKit
theorem znd(x y:Value)(w:World):CallsD Tryz.prog 301 #[x,y] .returning w fun e u' w'=>e= .returned (.tuple #[])∧u'= .returning∧w'=w:=by refine callsD_of_wpS Tryz.func301 rfl fun c₀ cs hu=> ?_;apply wpS_seq;apply wpS_region;simp[wpOpsS,go_sem,recoverD,hu,Tryz.ntmps301,Exit.thenS];apply wpS_seq;apply wpS_region;simp[wpOpsS,go_sem,Exit.thenS];refine wpS_cond (t:=false) (by simp[Act.eval,qE]) ?_;simp only[Bool.false_eq_true,if_false];refine wpS_of_wp (wp_skip ?_);cases c₀;simp_all[bodyPostS,results,Tryz.results301]
def zvA(C:Ctx)(H':za)(w:World)(e:Nat):Ending→FrameMode→World→Prop:=fun x u' w'=>x= .returned (.tuple #[])∧u'= .panicking [{ v:=.iface 362 (.agg #[.int .i64 ((e:Int)+1)]),recovered:=true }]∧∃ C',CLe C C'∧WRel C' H' w'∧Below C.B w w'
set_option maxHeartbeats 1000000 in
theorem zpL(i4 i5 e:Nat)(l:List Int)(z:Int)(H:za)(C:Ctx)(x y:Value)(w:World)(h4:H[i4]? =some ⟨146,0,is l⟩)(h5:H[i5]? =some ⟨44,0,[.int .i64 z]⟩)(hl:l.length=64)(hne:i4≠i5)
  (hw:WRel C H w) (hx:VRel C (.ptr i4 0 0) x) (hy:VRel C (.ptr i5 0 0) y):
  CallsD Tryz.prog 301 #[x,y] (.panicking (bpn e)) w (zvA C ((H.set i4 ⟨146,0,is z64⟩).set i5 ⟨44,0,[.int .i64 ((e:Int)+1)]⟩) w e):=by
 refine callsD_of_wpS Tryz.func301 rfl fun c₀ cs hu=> ?_;unfold bpn pnc at hu;apply wpS_seq;apply wpS_region;simp[wpOpsS,go_sem,recoverD,hu,Tryz.ntmps301,Exit.thenS];apply wpS_seq;apply wpS_region;simp[wpOpsS,go_sem,Exit.thenS];refine wpS_cond (t:=true) (by simp[Act.eval,qE]) ?_;simp only[if_true];refine wpS_of_wp ?_;have hp4:i4<H.length:=(qI.1 h4).1;have hp5:i5<H.length:=(qI.1 h5).1;have hfr:FRel C 17 (slot [(0,.ptr i4 0 0),(1,.ptr i5 0 0)]) { tmps:= #[x,y]++((((qE 15 undef).setIfInBounds 3 (Value.iface 362 (.agg #[.int .i64 ((e:Int)+1)]))).setIfInBounds 0 (Value.iface 362 (.agg #[.int .i64 ((e:Int)+1)]))).setIfInBounds 4 (Value.iface 362 (.agg #[.int .i64 ((e:Int)+1)]))).setIfInBounds 5 (Value.bool true),defers:=[] }:=by
  refine⟨by simp,fun t=> ?_⟩
  match t with
  | 0=>exact hx
  | 1=>exact hy
  | t+2=>exact .undef _
 have hil:(is l).length=64:=by rw[zr,hl]
 have hz:(is z64).length=64:=by rw[zr];simp[z64]
 have hzc:(is z64).all PV.cell=true:=zX z64;have hdl:qH 64 (is l)=[]:=qO om;have hbz:∀ Q:List PV→Prop,Q (is z64)→Q (List.replicate 64 (.int .i64 0)):=fun Q h=>by simpa[is,z64]using h
 have h5':(H.set i4 ⟨146,0,is z64⟩)[i5]? =some ⟨44,0,[.int .i64 z]⟩:=by rw[List.getElem?_set_ne hne];exact h5
 generalize hPQ:bodyPostS Tryz.prog _ c₀ cs _=PQ;refine wp_seq (wp_region_list ?_);refine zl2 (v:=.agg (is z64)) (H':=H) hw hfr rfl rfl rfl kr fun C1 u1 w1 p1 p2 p3 p4=> ?_;refine zl2 (v:=.tup []) (H':=H.set i4 ⟨146,0,is z64⟩) p2 p4 rfl rfl rfl (by simp(disch:=omega) only[go_sem,↓reduceIte,reduceCtorEq,h4,hz,hil,hdl]) fun C2 u2 w2 r1 r2 r3 r4=> ?_;refine zl2 (v:=.tup []) (H':=(H.set i4 ⟨146,0,is z64⟩).set i5 ⟨44,0,[.int .i64 3]⟩) r2 r4 rfl rfl rfl (by simp(disch:=omega) only[go_sem,↓reduceIte,reduceCtorEq,h5']) fun C3 u3 w3 s1 s2 s3 s4=> ?_;refine wp_seq (wp_region_list ?_);refine zi3 (u:=.iface 362 (.agg #[.int .i64 ((e:Int)+1)])) rfl kr ?_;have t1:=s4.put (some 10) (fun t ht=>by injection ht with ht;omega) (VRel.undef (C:=C3) (Value.iface 362 (.agg #[.int .i64 ((e:Int)+1)])));refine zi3 (u:=.tuple #[.agg #[.int .i64 ((e:Int)+1)],.bool true]) rfl kr ?_;have hvt:VRel C3 (.tup [.agg [.int .i64 ((e:Int)+1)],.bool true]) (.tuple #[.agg #[.int .i64 ((e:Int)+1)],.bool true]):=by
  refine .tup (us:=[.agg #[.int .i64 ((e:Int)+1)],.bool true]) rfl fun j x u hx hu=> ?_
  match j with
  | 0=>
   injection hx with hx;injection hu with hu;subst hx hu;refine .agg (us:=[.int .i64 ((e:Int)+1)]) rfl (by simp[PV.cell]) fun j x u hx hu=> ?_
   match j with
   | 0=>injection hx with hx;injection hu with hu;subst hx hu;exact .int _ _
   | j+1=>cases hx
  | 1=>injection hx with hx;injection hu with hu;subst hx hu;exact .bool _
  | j+2=>cases hx
 have t2:=t1.put (some 11) (fun t ht=>by injection ht with ht;omega) hvt;rw[←zad,←zad]at t2;have hl2:((H.set i4 ⟨146,0,is z64⟩).set i5 ⟨44,0,[.int .i64 3]⟩).length=H.length:=by simp
 have g5:((H.set i4 ⟨146,0,is z64⟩).set i5 ⟨44,0,[.int .i64 3]⟩)[i5]? =some ⟨44,0,[.int .i64 3]⟩:=by simp[hp5]
 have hss:((H.set i4 ⟨146,0,is z64⟩).set i5 ⟨44,0,[.int .i64 3]⟩).set i5 ⟨44,0,[.int .i64 ((e:Int)+1)]⟩=(H.set i4 ⟨146,0,is z64⟩).set i5 ⟨44,0,[.int .i64 ((e:Int)+1)]⟩:=qN ..;have hscF:HSc H→HSc ((H.set i4 ⟨146,0,is z64⟩).set i5 ⟨44,0,[.int .i64 ((e:Int)+1)]⟩):=fun h=>HSc.set (HSc.set h (zaz _ _)) fun x hx=>by simp only[List.mem_cons,List.not_mem_nil,or_false]at hx;subst hx;exact .int _ _
 have hlF:H.length=((H.set i4 ⟨146,0,is z64⟩).set i5 ⟨44,0,[.int .i64 ((e:Int)+1)]⟩).length:=by simp
 generalize (H.set i4 ⟨146,0,is z64⟩).set i5 ⟨44,0,[.int .i64 3]⟩=H2 at *;generalize (H.set i4 ⟨146,0,is z64⟩).set i5 ⟨44,0,[.int .i64 ((e:Int)+1)]⟩=H3 at *;refine zbG (N:=17) _ _ _ rfl (K:=fun F' H'=>kp [1,3,4] F'=[(1,.ptr i5 0 0),(3,.ptr H2.length 0 0),(4,.bool true)]∧H'=H2++[⟨362,0,[.int .i64 ((e:Int)+1)]⟩]) (zao _ _ _ ?_) C3 _ w3 rfl s2 t2 _ ?_
 ·simp(disch:=omega) only[go_sem,↓reduceIte,reduceCtorEq]
 intro C4 F4 H4 a4 w4 k1 k2 k3 k4 k5 ⟨k6,k7⟩;subst k7;have k5':=k5.keep [1,3,4];rw[k6]at k5';have g5x:=zae (K:=[(⟨362,0,[.int .i64 ((e:Int)+1)]⟩:Blk)]) g5;have hsx:∀ B:Blk,(H2++[(⟨362,0,[.int .i64 ((e:Int)+1)]⟩:Blk)]).set i5 B=H2.set i5 B++[⟨362,0,[.int .i64 ((e:Int)+1)]⟩]:=fun B=>by exact qK _ _ om
 have gF:=hp0 H2 [] ⟨362,0,[.int .i64 ((e:Int)+1)]⟩;have pw:∀{c:Code} {Q:Exit→Act→World→Prop},PW Tryz.prog ⟨17,H2++[⟨362,0,[.int .i64 ((e:Int)+1)]⟩]⟩ c [(1,.ptr i5 0 0),(3,.ptr H2.length 0 0),(4,.bool true)] (H2++[⟨362,0,[.int .i64 ((e:Int)+1)]⟩]) (fun x _ H'=>x= .normal∧H'=H3++[⟨362,0,[.int .i64 ((e:Int)+1)]⟩])→
   (∀ C' a' w',CLe C4 C'→a'.defers=[]→WRel C' (H3++[⟨362,0,[.int .i64 ((e:Int)+1)]⟩]) w'→Below C4.B w4 w'→a'.tmps.size=17→Q .normal a' w')→c.wp Tryz.prog Q a4 w4:=fun h hQ=>by
  refine wp_mono (h k3.hsc C4 a4 w4 k2 k3 k5') ?_;rintro x a' w' ⟨C',F',H',y1,y2,y3,y4,y5,rfl,rfl⟩;exact hQ C' a' w' (y1.full k3.lenv) y2 y3 y4 y5.1
 refine pw ?_ ?_
 ·refine PW.e ?_;refine PW.t ?_;refine PW.g (nq2 gF (nq2 g5x (nq2 hsx hss))) ?_;exact⟨rfl,rfl⟩
 intro C5 a5 w5 y1 y2 y3 y4 y5;show PQ _ _ _ _;rw[←hPQ];have c1:=p1.trans r1;have c2:=c1.trans s1;have c3:=c2.trans k1;have c4:=c3.trans y1;have b1:=p3.trans (by rw[←p1.B];exact r3);have b2:=b1.trans (by rw[←c1.B];exact s3);have b3:=b2.trans (by rw[←c2.B];exact k4);have b4:=b3.trans (by rw[←c3.B];exact y4);obtain⟨C',d1,d2⟩:=WRel.drop hw hlF (hscF hw.hsc) c4 y3;exact⟨y2,_,rfl,.tuple #[],by simp[results,Tryz.results301],rfl,rfl,C',d1,d2,b4⟩
def rvB:Rr (List Int)→PV
 | .ok l _=>.tup [.agg (is l),.int .i64 0]
 | .er e _=>.tup [.agg (is z64),.int .i64 ((e:Int)+1)]
theorem zq3(k:Nat)(x:Rr (List Int)):Scoped k (rvB x):=by
 cases x<;>refine .tup fun j x hx=> ?_;all_goals
  have:=qQ hx;simp only[List.mem_cons,List.not_mem_nil,or_false]at this;rcases this with rfl|rfl
  ·exact zw (zaz _ _)
  ·exact .int _ _
def tkH(H:za)(i:Nat)(p:List UInt8)(n a:Nat)(l:List Int)(e:Int):za:=H.set i (rA p n a)++[⟨146,0,is l⟩,⟨44,0,[.int .i64 e]⟩]
set_option maxHeartbeats 1000000 in
set_option maxRecDepth 100000 in
theorem zlS(i:Nat)(p:List UInt8)(n a fr:Nat)(H:za)(hA:H[i]? =some (rA p n a))(ha:a≤n)(hn:n≤8 * p.length)(hp:p.length≤100000000)(hfr:fr≤1):
  CallOk Tryz.prog 262 [.ptr i 0 0,.int .i64 (fr:Int)] H (rvB (zfx p n fr a)) (H.set i (rA p n (zfx p n fr a).at)):=by
 have hi:=(qI.1 hA).1;have hself:=zaO hA;refine⟨by kernel_rfl,fun C us w hw hargs=>calls_of_wp_defers Tryz.func262 rfl ?_⟩;have hfr0:=zpD (N:=18) hargs (Nat.le_of_ble_eq_true rfl);change FRel C 18 (slot [(0,.ptr i 0 0),(1,.int .i64 (fr:Int))]) _ at hfr0;have vo:=fun K=>zwH fr K hfr;have hAx:=fun K=>zae (K:=K) hA;refine wp_seq ?_;refine PW.hand [0,1,4,5] (F1:=[(0,.ptr i 0 0),(1,.int .i64 (fr:Int)),(4,.ptr H.length 0 0),(5,.ptr (H.length+1) 0 0)]) (H1:=tkH H i p n a z64 0) ?_ rfl hw hfr0 ?_
 ·refine PW.e ?_;refine⟨rfl,rfl,?_⟩;unfold tkH;rw[hself];rfl
 intro C1 a1 w1 p1 p2 p3 p4 p5;refine wp_seq ?_;have g0:(tkH H i p n a z64 0)[i]? =some (rA p n a):=by unfold tkH;rw[hself];exact hAx _
 refine PW.hand [0,1,4,5] (F1:=[(0,.ptr i 0 0),(1,.int .i64 (fr:Int)),(4,.ptr H.length 0 0),(5,.ptr (H.length+1) 0 0)]) (H1:=tkH H i p n a z64 0) ?_ p2 p3 p5 ?_
 ·(repeat refine PW.seq ?_);refine PW.rg rfl fun K hK=> ?_;simp(disch:=omega) only[go_sem,↓reduceIte,reduceCtorEq,g0,rA];refine VCx.call (vo _) rfl ?_;simp(disch:=omega) only[go_sem,↓reduceIte,reduceCtorEq];refine hK _ _ ?_;clear hK K;refine PW.u ?_;exact PW.skip ⟨rfl,rfl,rfl⟩
 intro C2 a2 w2 r1 r2 r3 r4 r5;refine wp_seq (wp_region_list ?_);have hx:=r5.2 4;have hy:=r5.2 5;generalize hxv:a2.tmps.getD 4 Go.undef=x at hx;generalize hyv:a2.tmps.getD 5 Go.undef=y at hy;refine zi3 (u:=.func (.func 301) #[] #[x,y]) rfl ?_ ?_
 ·subst hxv hyv;simp[execOp,Instr.makeFunc,Act.eval]
 refine zo0 (d:=⟨.fn (.func 301) #[x,y],#[]⟩) rfl ?_ ?_
 ·have e14:(a2.put (some 14) (Value.func (.func 301) #[] #[x,y])).eval (.tmp 14)=Value.func (.func 301) #[] #[x,y]:=by have:=r5.1;simp[Act.put,Act.eval,this]
  simp[execOp,resolve,e14,Deferred.ofValue]
 have t1:=r5.put (some 14) (fun t ht=>by injection ht with ht;omega) (VRel.undef (C:=C2) (Value.func (.func 301) #[] #[x,y]));rw[←zad]at t1;have t2:FRel C2 18 (slot [(14,.undef),(0,.ptr i 0 0),(1,.int .i64 (fr:Int)),(4,.ptr H.length 0 0),(5,.ptr (H.length+1) 0 0)]) ({ a2.put (some 14) (Value.func (.func 301) #[] #[x,y])with defers:=⟨.fn (.func 301) #[x,y],#[]⟩::a2.defers }):=t1;have hhsc:=fun a'=>zdL H i p n a' hw.hsc;have cB1:CLe C C2:=p1.trans r1;have bB1:Below C.B w w2:=p4.trans (by rw[←p1.B];exact r4);have htk:∀ a' l z,(tkH H i p n a l z).set i (rA p n a')=tkH H i p n a' l z:=fun a' l z=>by unfold tkH;rw[qK _ _ (by simpa using hi),qN]
 have h4:∀ a' l z,(tkH H i p n a' l z)[H.length]? =some ⟨146,0,is l⟩:=fun a' l z=>by have:=hp0 (H.set i (rA p n a')) [⟨44,0,[.int .i64 z]⟩] ⟨146,0,is l⟩;rwa[qA]at this
 have h5:∀ a' l z,(tkH H i p n a' l z)[H.length+1]? =some ⟨44,0,[.int .i64 z]⟩:=fun a' l z=>by have:=hp1 (H.set i (rA p n a')) [] ⟨146,0,is l⟩ ⟨44,0,[.int .i64 z]⟩;rwa[qA]at this
 have s4:∀ a' l z l',(tkH H i p n a' l z).set H.length ⟨146,0,is l'⟩=tkH H i p n a' l' z:=fun a' l z l'=>by have:=hs0 (H.set i (rA p n a')) [⟨44,0,[.int .i64 z]⟩] ⟨146,0,is l⟩ ⟨146,0,is l'⟩;rwa[qA]at this
 have s5:∀ a' l z z',(tkH H i p n a' l z).set (H.length+1) ⟨44,0,[.int .i64 z']⟩=tkH H i p n a' l z':=fun a' l z z'=>by have:=hs1 (H.set i (rA p n a')) [] ⟨146,0,is l⟩ ⟨44,0,[.int .i64 z]⟩ ⟨44,0,[.int .i64 z']⟩;rwa[qA]at this
 have hz:(is z64).length=64:=by rw[zr];simp[z64]
 have hsl:∀ a',H.length=(H.set i (rA p n a')).length:=fun a'=>by simp
 refine wp_seq ?_;cases hr:zfx p n fr a with
 | ok l a'=>
  have rd:=zui i p n a fr a' l (tkH H i p n a z64 0) g0 ha hn hp hfr hr;rw[htk]at rd;have hll:l.length=64:=by have:=(zio _ _ _ _ hr ha).2.2;simpa[z64]using this
  have hil:(is l).length=64:=by rw[zr,hll]
  have htl:qG 64 (is l)=is l:=qM om;have hcl:=zX l;have hdz:qH 64 (is z64)=[]:=qO om;refine zec 5 rfl (K:=fun F' H'=>kp [4,5] F'=[(4,.ptr H.length 0 0),(5,.ptr (H.length+1) 0 0)]∧H'=tkH H i p n a' l 0) ?_ (D:=[⟨.fn (.func 301) #[x,y],#[]⟩]) (by simp[Act.put,r2]) r3 t2 ?_
  ·simp(disch:=omega) only[go_sem,↓reduceIte,reduceCtorEq];refine VCx.call (rd) rfl ?_;simp(disch:=omega) only[go_sem,↓reduceIte,reduceCtorEq,h4,h5,s4,s5,hil,hz,hcl,hdz]
  intro C3 F3 H3 a3 w3 q1 q2 q3 q4 q5 ⟨q6,q7⟩;subst q7;have q5':=q5.keep [4,5];rw[q6]at q5';refine wp_ret ?_;show Leaves _ _ _ _ _ _ _;rw[q2];refine leaves_cons sp kr ((znd x y w3).mono ?_);rintro _ _ _ ⟨rfl,rfl,rfl⟩;obtain⟨u,u1,u2⟩:=zbw (P:=Tryz.prog) (fn:=Tryz.f262) (v:=.tup [.agg (is l),.int .i64 0]) q3 q5' (by simp(disch:=omega) only[go_sem,↓reduceIte,reduceCtorEq,zx,zK,List.mapM_cons,List.mapM_nil,Option.pure_def,qP,Option.bind_some,Array.toList,Tryz.results262,h4,h5,hil,htl]);obtain⟨C',d1,d2,d3⟩:=WRel.dropV hw (hsl a') (hhsc a') (cB1.trans q1) q3 u1 (zq3 _ (.ok l a'));exact⟨u,u2,C',u,d1,d2,bB1.trans (by rw[←cB1.B];exact q4),rfl,d3⟩
 | er e a'=>
  have rd:=zrd i p n a fr e a' (tkH H i p n a z64 0) g0 ha hn hp hfr hr;rw[htk]at rd;refine zec 2 rfl (K:=fun F' H'=>kp [4,5,15,16] F'=[(4,.ptr H.length 0 0),(5,.ptr (H.length+1) 0 0),(15,.ptr i 0 0),(16,.int .i64 (fr:Int))]∧H'=tkH H i p n a z64 0) ?_ (D:=[⟨.fn (.func 301) #[x,y],#[]⟩]) (by simp[Act.put,r2]) r3 t2 ?_
  ·simp(disch:=omega) only[go_sem,↓reduceIte,reduceCtorEq]
  intro C3 F3 H3 a3 w3 q1 q2 q3 q4 q5 ⟨q6,q7⟩;subst q7;have q5':=q5.keep [4,5,15,16];rw[q6]at q5';show wpList _ _ _ (_::_) _ _;unfold wpList;rw[if_pos kr];left;refine zei q3 q5' (by simp(disch:=omega) only[go_sem,↓reduceIte,reduceCtorEq,zq]) rd _ _ fun C4 w4 y1 y2 y3 y4=> ?_;show Leaves _ _ _ _ _ _ _;rw[q2];have hx4:=hx.mono (q1.trans y1);have hy4:=hy.mono (q1.trans y1);have cp:=zpL H.length (H.length+1) e z64 0 (tkH H i p n a' z64 0) C4 x y w4 (h4 _ _ _) (h5 _ _ _) (by simp[z64]) om y2 hx4 hy4;rw[s4,s5]at cp;refine leaves_cons sp kr (cp.mono ?_);rintro _ _ w5 ⟨rfl,rfl,C5,v1,v2,v3⟩;have htl:qG 64 (is z64)=is z64:=qM om;obtain⟨u,u1,u2⟩:=zbw (P:=Tryz.prog) (fn:=Tryz.f262) (v:=.tup [.agg (is z64),.int .i64 ((e:Int)+1)]) v2 (y4.mono v1) (by simp(disch:=omega) only[go_sem,↓reduceIte,reduceCtorEq,zx,zK,List.mapM_cons,List.mapM_nil,Option.pure_def,qP,Option.bind_some,Array.toList,Tryz.results262,h4,h5,hz,htl]);have c3:=(cB1.trans q1).trans y1;obtain⟨C',d1,d2,d3⟩:=WRel.dropV hw (hsl a') (hhsc a') (c3.trans v1) v2 u1 (zq3 _ (.er e a'));have b2:=bB1.trans (by rw[←cB1.B];exact q4);have b3:=b2.trans (by rw[←(cB1.trans q1).B];exact y3);exact⟨u,u2,C',u,d1,d2,b3.trans (by rw[←c3.B];exact v3),rfl,d3⟩
def vqB(q:Int):Bool:=decide (1≤q)&&decide (q≤31)
def zkA(s:St):Bool:=(win s.da 4095&&(win s.db 4095&&win s.dc 4095))&&(vqB s.q&&(vrg s.va s.vb&&vrg s.vc s.vd))
theorem zvV(q:Int)(H:za):CallOk Tryz.prog 128 [.int .i64 q] H (.bool (vqB q)) H:=by refine CallOk.go Tryz.func128 Tryz.ntmps128 Tryz.results128 ?_;(repeat'(first|refine PW.seq ?_|refine PW.skip ?_|refine PW.block ?_|((first|refine PW.rg rfl fun K hK=> ?_|refine PW.draw mix kr fun K hK=> ?_);simp(disch:=omega) only[go_sem,↓reduceIte,reduceCtorEq])|((first|refine zh ?_ ?_|refine zk ?_ ?_|refine And.intro ?_ ?_)<;>intro h<;>(try simp only[nqb]at h)<;>simp(disch:=omega) only[go_sem,↓reduceIte,reduceCtorEq,h])|(refine hK _ _ ?_;clear hK K)|(refine PW.cond (t:=_) rfl (fun h=> ?_) (fun h=> ?_)<;>(try(cases h;done))<;>(try simp only[nqb]at h))));all_goals((refine PW.ret ⟨_,rfl,?_⟩;first|refine .inl ⟨?_,rfl⟩|refine Fin.base (.id' ?_ (.bool _))|refine Fin.base (.id' ?_ (.int _ _)));(simp_all[vqB,slot,Nat.beq]<;>first|rfl|omega|(rw[qF];simp;done)|(rw[qF];simp;omega)))
theorem ztF(s:St)(H:za):CallOk Tryz.prog 179 [.agg (stc s)] H (.bool (zkA s)) H:=by generalize hr:zkA s=r;obtain⟨q,da,db,dc,va,vb,vc,vd⟩:=s;have w1:=fun x K=>zdw x 4095 K om;have v1:=fun x y K=>zgM x y K;have q1:=fun K=>zvV q K;refine CallOk.body (F0:=[(0,.agg [.int .i64 q,.int .i64 da,.int .i64 db,.int .i64 dc,.int .i64 va,.int .i64 vb,.int .i64 vc,.int .i64 vd])]) Tryz.func179 rfl Tryz.ntmps179 Tryz.results179 rfl kr rfl ?_;(repeat'(first|refine PW.seq ?_|refine PW.skip ?_|refine PW.block ?_|refine PW.loop ?_|refine PL.round ?_|refine PW.exit ?_|((first|refine PW.rg rfl fun K hK=> ?_|refine PW.draw mix kr fun K hK=> ?_);simp(disch:=omega) only[go_sem,↓reduceIte,reduceCtorEq])|((first|refine zh ?_ ?_|refine zk ?_ ?_|refine And.intro ?_ ?_)<;>intro h<;>(try simp only[nqb]at h)<;>simp(disch:=omega) only[go_sem,↓reduceIte,reduceCtorEq,h])|((first|refine VCx.call (w1 _ _) rfl ?_|refine VCx.call (v1 _ _ _) rfl ?_|refine VCx.call (q1 _) rfl ?_|refine VCy.call (w1 _ _) rfl ?_|refine VCy.call (v1 _ _ _) rfl ?_|refine VCy.call (q1 _) rfl ?_);simp(disch:=omega) only[go_sem,↓reduceIte,reduceCtorEq])|(refine hK _ _ ?_;clear hK K)|(refine PW.cond (t:=_) rfl (fun h=> ?_) (fun h=> ?_)<;>(try(cases h;done))<;>(try simp only[nqb]at h))));all_goals((refine PW.ret ⟨_,rfl,?_⟩;first|refine .inl ⟨?_,rfl⟩|refine Fin.base (.id' ?_ (.bool _))|refine Fin.base (.id' ?_ (.int _ _)));subst hr;clear w1 v1 q1;(simp_all[zkA,slot,Nat.beq]<;>first|rfl|omega|(rw[qF];simp;done)|(rw[qF];simp;omega)))
def aft(s:St)(k:Int):St:=⟨s.q,if k=1 then s.da else 0,if k=1 then s.db else 0,if k=1 then s.dc else 0,if k=2 then s.va else 0,if k=2 then s.vb else 0,if k=2 then s.vc else 0,if k=2 then s.vd else 0⟩
theorem zyy(s:St)(k:Int)(H:za):CallOk Tryz.prog 185 [.agg (stc s),.int .i64 k] H (.agg (stc (aft s k))) H:=by
 have hsc:=zc7 (aft s k);obtain⟨q,da,db,dc,va,vb,vc,vd⟩:=s;have e0:stc (aft ⟨q,da,db,dc,va,vb,vc,vd⟩ k)=[.int .i64 q,.int .i64 (if k=1 then da else 0),.int .i64 (if k=1 then db else 0),.int .i64 (if k=1 then dc else 0),.int .i64 (if k=2 then va else 0),.int .i64 (if k=2 then vb else 0),.int .i64 (if k=2 then vc else 0),.int .i64 (if k=2 then vd else 0)]:=rfl;rw[e0]at hsc ⊢;clear e0;refine CallOk.body (F0:=[(0,.agg [.int .i64 q,.int .i64 da,.int .i64 db,.int .i64 dc,.int .i64 va,.int .i64 vb,.int .i64 vc,.int .i64 vd]),(1,.int .i64 k)]) Tryz.func185 rfl Tryz.ntmps185 Tryz.results185 rfl kr rfl ?_;by_cases h1:k=1<;>by_cases h2:k=2
 ·omega
 ·have b1:(k !=1)=false:=by simp[h1]
  have b2:(k !=2)=true:=by simp[h2]
  simp only[if_pos h1,if_neg h2]at hsc ⊢;(repeat'(first|refine PW.seq ?_|refine PW.skip ?_|refine PW.block ?_|((first|refine PW.rg rfl fun K hK=> ?_|refine PW.draw mix kr fun K hK=> ?_);simp(disch:=omega) only[go_sem,↓reduceIte,reduceCtorEq,b1,b2])|((first|refine zh ?_ ?_|refine zk ?_ ?_|refine And.intro ?_ ?_)<;>intro h<;>(try simp only[nqb]at h)<;>simp(disch:=omega) only[go_sem,↓reduceIte,reduceCtorEq,b1,b2,h])|(refine hK _ _ ?_;clear hK K)|(refine PW.cond (t:=_) rfl (fun h=> ?_) (fun h=> ?_)<;>(try(cases h;done))<;>(try simp only[nqb]at h))));refine PW.v (.agg [.int .i64 q,.int .i64 da,.int .i64 db,.int .i64 dc,.int .i64 0,.int .i64 0,.int .i64 0,.int .i64 0]) ?_;exact Fin.base (.id (hsc _))
 ·have b1:(k !=1)=true:=by simp[h1]
  have b2:(k !=2)=false:=by simp[h2]
  simp only[if_neg h1,if_pos h2]at hsc ⊢;(repeat'(first|refine PW.seq ?_|refine PW.skip ?_|refine PW.block ?_|((first|refine PW.rg rfl fun K hK=> ?_|refine PW.draw mix kr fun K hK=> ?_);simp(disch:=omega) only[go_sem,↓reduceIte,reduceCtorEq,b1,b2])|((first|refine zh ?_ ?_|refine zk ?_ ?_|refine And.intro ?_ ?_)<;>intro h<;>(try simp only[nqb]at h)<;>simp(disch:=omega) only[go_sem,↓reduceIte,reduceCtorEq,b1,b2,h])|(refine hK _ _ ?_;clear hK K)|(refine PW.cond (t:=_) rfl (fun h=> ?_) (fun h=> ?_)<;>(try(cases h;done))<;>(try simp only[nqb]at h))));refine PW.v (.agg [.int .i64 q,.int .i64 0,.int .i64 0,.int .i64 0,.int .i64 va,.int .i64 vb,.int .i64 vc,.int .i64 vd]) ?_;exact Fin.base (.id (hsc _))
 ·have b1:(k !=1)=true:=by simp[h1]
  have b2:(k !=2)=true:=by simp[h2]
  simp only[if_neg h1,if_neg h2]at hsc ⊢;(repeat'(first|refine PW.seq ?_|refine PW.skip ?_|refine PW.block ?_|((first|refine PW.rg rfl fun K hK=> ?_|refine PW.draw mix kr fun K hK=> ?_);simp(disch:=omega) only[go_sem,↓reduceIte,reduceCtorEq,b1,b2])|((first|refine zh ?_ ?_|refine zk ?_ ?_|refine And.intro ?_ ?_)<;>intro h<;>(try simp only[nqb]at h)<;>simp(disch:=omega) only[go_sem,↓reduceIte,reduceCtorEq,b1,b2,h])|(refine hK _ _ ?_;clear hK K)|(refine PW.cond (t:=_) rfl (fun h=> ?_) (fun h=> ?_)<;>(try(cases h;done))<;>(try simp only[nqb]at h))));refine PW.v (.agg [.int .i64 q,.int .i64 0,.int .i64 0,.int .i64 0,.int .i64 0,.int .i64 0,.int .i64 0,.int .i64 0]) ?_;exact Fin.base (.id (hsc _))
theorem zym(n:Nat)(H:za)(h:n<6):CallOk Tryz.prog 263 [.int .i64 (n:Int)] H (.int .i64 ((n - 3:Nat):Int)) H:=by refine CallOk.go Tryz.func263 Tryz.ntmps263 Tryz.results263 ?_;have h6:n=0∨n=1∨n=2∨n=3∨n=4∨n=5:=om;rcases h6 with rfl|rfl|rfl|rfl|rfl|rfl<;>(repeat'(first|refine PW.seq ?_|refine PW.skip ?_|refine PW.block ?_|((first|refine PW.rg rfl fun K hK=> ?_|refine PW.draw mix kr fun K hK=> ?_);simp(disch:=omega) only[go_sem,↓reduceIte,reduceCtorEq])|((first|refine zh ?_ ?_|refine zk ?_ ?_|refine And.intro ?_ ?_)<;>intro h<;>(try simp only[nqb]at h)<;>simp(disch:=omega) only[go_sem,↓reduceIte,reduceCtorEq,h])|(refine hK _ _ ?_;clear hK K)|(refine PW.cond (t:=_) rfl (fun h=> ?_) (fun h=> ?_)<;>(try(cases h;done))<;>(try simp only[nqb]at h))));all_goals((refine PW.ret ⟨_,rfl,?_⟩;first|refine .inl ⟨?_,rfl⟩|refine Fin.base (.id' ?_ (.bool _))|refine Fin.base (.id' ?_ (.int _ _)));rfl)
theorem ztH(m:Mb)(i:Nat)(H:za)(hi:H[i]? =some (mB m)):CallOk Tryz.prog 259 [.ptr i 0 0] H (.int .i64 (if m.fp then 2 else 1)) H:=by refine CallOk.go Tryz.func259 Tryz.ntmps259 Tryz.results259 ?_;(repeat'(first|refine PW.seq ?_|refine PW.skip ?_|refine PW.block ?_|((first|refine PW.rg rfl fun K hK=> ?_|refine PW.draw mix kr fun K hK=> ?_);simp(disch:=omega) only[go_sem,↓reduceIte,reduceCtorEq,hi,mB,mbc])|((first|refine zh ?_ ?_|refine zk ?_ ?_|refine And.intro ?_ ?_)<;>intro h<;>(try simp only[nqb]at h)<;>simp(disch:=omega) only[go_sem,↓reduceIte,reduceCtorEq,hi,mB,mbc,h])|(refine hK _ _ ?_;clear hK K)|(refine PW.cond (t:=_) rfl (fun h=> ?_) (fun h=> ?_)<;>(try(cases h;done))<;>(try simp only[nqb]at h))));all_goals((refine PW.ret ⟨_,rfl,?_⟩;first|refine .inl ⟨?_,rfl⟩|refine Fin.base (.id' ?_ (.bool _))|refine Fin.base (.id' ?_ (.int _ _)));simp_all[slot,Nat.beq])
section
variable (H:za) (i j:Nat) (M:List Bool) (x0 x1 x3:Blk) (c:Cx) (m:Mb) (s:St)
end
end Go.Proofs.YtpjlfoficnpfoaaGreatDoor.Sc
namespace Go.Proofs.YtpjlfoficnpfoaaGreatDoor.Sc
set_option linter.all false
open Pm Ty Go.RowKit
def vXm(m:Mb)(d k:Nat):Int:=if d=0 then(if k=0 then m.va else m.vc)else(if k=0 then m.ve else m.vg)
def vYm(m:Mb)(d k:Nat):Int:=if d=0 then(if k=0 then m.vb else m.vd)else(if k=0 then m.vf else m.vh)
def usd(m:Mb)(d:Nat):Bool:=if d=0 then m.ua else m.ub
def sXs(s:St)(d:Nat):Int:=if d=0 then s.va else s.vc
def sYs(s:St)(d:Nat):Int:=if d=0 then s.vb else s.vd
def zcb(s:St)(d:Nat)(x y:Int):St:=if d=0 then⟨s.q,s.da,s.db,s.dc,x,y,s.vc,s.vd⟩else⟨s.q,s.da,s.db,s.dc,s.va,s.vb,x,y⟩
def nvM(m:Mb):Nat:=if m.fp then 2 else 1
def vrM(m:Mb):Prop:=∀ d k,(-63≤vXm m d k∧vXm m d k≤63)∧(-63≤vYm m d k∧vYm m d k≤63)
def vrS(s:St):Prop:=∀ d,(-63≤sXs s d∧sXs s d≤63)∧(-63≤sYs s d∧sYs s d≤63)
theorem zzw(m:Mb):nvM m≤2∧1≤nvM m:=by unfold nvM;split<;>omega
section
variable (H:za) (i j:Nat) (M:List Bool) (x0 x1 x3:Blk) (c:Cx) (m:Mb) (s:St) (K:za)
end
end Go.Proofs.YtpjlfoficnpfoaaGreatDoor.Sc
namespace Go.Proofs.YtpjlfoficnpfoaaGreatDoor.Sc
set_option linter.all false
open Pm Ty Go.RowKit
def dcS(s:St)(k:Nat):Int:=if k=0 then s.da else if k=1 then s.db else s.dc
def zgh(s:St)(k:Nat)(x:Int):St:=if k=0 then⟨s.q,x,s.db,s.dc,s.va,s.vb,s.vc,s.vd⟩else if k=1 then⟨s.q,s.da,x,s.dc,s.va,s.vb,s.vc,s.vd⟩else⟨s.q,s.da,s.db,x,s.va,s.vb,s.vc,s.vd⟩
def lrM(m:Mb):Prop:=∀ q,q<384→win (zg m.lv q) 4095=true
def dcR(s:St):Prop:=∀ k,-4095≤dcS s k∧dcS s k≤4095
theorem zvq{s:St}(h:dcR s)(k:Nat){x:Int}(hx: -4095≤x∧x≤4095):dcR (zgh s k x):=fun e=>by
 have h0: -4095≤s.da∧s.da≤4095:=h 0;have h1: -4095≤s.db∧s.db≤4095:=h 1;have h2: -4095≤s.dc∧s.dc≤4095:=h 2;unfold zgh;split
 ·unfold dcS;dsimp only;split;exact hx;split;exact h1;exact h2
 ·split
  ·unfold dcS;dsimp only;split;exact h0;split;exact hx;exact h2
  ·unfold dcS;dsimp only;split;exact h0;split;exact h1;exact hx
def zSt:St:=⟨0,0,0,0,0,0,0,0⟩
theorem zp0{lv:List Int}{n j:Nat}(h:zbk lv n=true)(hj:j<64):zg lv (n * 64+j)=0:=by
 have e:=zne lv n j hj;have hz:(lv.drop (n * 64)).take 64=List.replicate 64 0:=by simpa[zbk]using h
 rw[hz]at e;rw[←e];rw[zg,List.getD_eq_getElem?_getD,List.getElem?_replicate,if_pos hj];rfl
structure Fmd(c:Cx)(m:Mb):Prop where
 k:m.k=0∨m.k=1∨m.k=2
 v:vrM m
 l:lrM m
 d: -30≤m.dl∧m.dl≤30
 z:m.k=0→m.dl=0∧hlM m=false
 i:m.k=1→cdl m=[true,true,true,true,true,true]
 n:hlM m=false→m.dl=0
theorem zvU{x y:Int}(h:vrg x y=true):(-63≤x∧x≤63)∧(-63≤y∧y≤63):=by simp only[vrg,Bool.and_eq_true]at h;exact⟨zil h.1,zil h.2⟩
theorem znm{s:St}(h:zkA s=true):(1≤s.q∧s.q≤31)∧vrS s∧dcR s:=by
 simp only[zkA,Bool.and_eq_true,vqB,decide_eq_true_eq]at h;obtain⟨⟨h1,h2,h3⟩,h4,h5,h6⟩:=h;refine⟨h4,fun d=> ?_,fun k=> ?_⟩
 ·unfold sXs sYs;split
  ·exact zvU h5
  ·exact zvU h6
 ·unfold dcS;split
  ·exact zil h1
  ·split
   ·exact zil h2
   ·exact zil h3
def SameQ(s t:St):Prop:=t.q=s.q∧t.da=s.da∧t.db=s.db∧t.dc=s.dc
theorem SameQ.trans{a b c:St}(h:SameQ a b)(k:SameQ b c):SameQ a c:=⟨k.1.trans h.1,k.2.1.trans h.2.1,k.2.2.1.trans h.2.2.1,k.2.2.2.trans h.2.2.2⟩
theorem zsZ{s t:St}(h:SameQ s t)(k:dcR s):dcR t:=fun e=>by have:=k e;unfold dcS at this ⊢;rw[h.2.1,h.2.2.1,h.2.2.2];exact this
section
variable (H:za) (i j:Nat) (A B:Blk) (K:za)
end
theorem zaE{n:Nat}{xs:List PV}(h:∀ x∈xs,Scoped n x):∀(j:Nat) (x:PV),xs[j]? =some x→Scoped n x:=fun j x hx=>h x (qQ hx)
theorem zs0(c:Cx):(cxc c).all PV.cell=true:=rfl
theorem zqz(s:St):(stc s).all PV.cell=true:=rfl
theorem ze1(m:Mb):(mbc m).all PV.cell=true:=by have hall:=zX m.lv;simp[mbc,PV.cell];exact fun x hx=>List.all_eq_true.1 hall x hx
end Go.Proofs.YtpjlfoficnpfoaaGreatDoor.Sc
namespace Go.Proofs.YtpjlfoficnpfoaaGreatDoor.Sc
set_option linter.all false
open Pm Ty Go.RowKit
def tkF(q:List UInt8)(n a:Nat):Rr Bool:=if a<n then .ok (decide (za5 q a=1)) (a+1)else .er 3 a
def tkD(q:List UInt8)(n:Nat)(pr:Int)(most:Nat)(a:Nat):Rr Int:=(tkS q n a).bind fun d a1=>if win (pr+d) most then .ok (pr+d) a1 else .er 2 a1
def zeS(m:Mb)(d k:Nat)(x:Int):Mb:=if d=0 then(if k=0 then{ m with sa:=x }else{ m with sb:=x })else(if k=0 then{ m with sc:=x }else{ m with sd:=x })
def zed(m:Mb)(d k:Nat)(x y:Int):Mb:=if d=0 then(if k=0 then{ m with va:=x,vb:=y }else{ m with vc:=x,vd:=y })else(if k=0 then{ m with ve:=x,vf:=y }else{ m with vg:=x,vh:=y })
def zdl(m:Mb)(n:Nat)(b:Bool):Mb:=if n=0 then{ m with ca:=b }else if n=1 then{ m with cb:=b }else if n=2 then{ m with cc:=b }else if n=3 then{ m with cd:=b }else if n=4 then{ m with ce:=b }else{ m with cf:=b }
def zbc(m:Mb)(n:Nat)(l:List Int):Mb:={ m with lv:=m.lv.take (n * 64)++l++m.lv.drop (n * 64+64) }
def zgj:Mb:=⟨1,false,false,false,false,0,0,0,0,0,0,0,0,0,0,0,0,0,true,true,true,true,true,true,zl384⟩
def zzu(v:Nat):Mb:=⟨2,decide (v≤2)||decide (5≤v),decide (3≤v),false,false,0,0,0,0,0,0,0,0,0,0,0,0,0,false,false,false,false,false,false,zl384⟩
def zdx(c:Cx)(q:List UInt8)(n a:Nat):Rr (Mb×Bool):=if c.t=1 then .ok (zgj,true) a else(tkU q n a).bind fun v a1=>if(if c.t=2 then 3 else 7)<v then .er 2 a1 else if v=(if c.t=2 then 3 else 7)then .ok (zgj,true) a1 else if v=0 then .ok (zMb,false) a1 else .ok (zzu v,decide (v%2=0)) a1
def zem(c:Cx)(q:List UInt8)(n:Nat)(m:Mb)(s:St)(d k a:Nat):Rr (Mb×St):=
 (if m.fp||fcx c then(tkF q n a).bind fun b a1=>.ok (zeS m d k (b.toNat:Int)) a1 else .ok m a).bind fun m a1=>
 (tkD q n (sXs s d) 63 a1).bind fun x a2=>(tkD q n (sYs s d) 63 a2).bind fun y a3=>.ok (zed m d k x y,zcb s d x y) a3
def zb9(c:Cx)(q:List UInt8)(n d:Nat):Nat→Nat→Mb→St→Nat→Rr (Mb×St)
 | 0,_,m,s,a=>.ok (m,s) a
 | r+1,k,m,s,a=>(zem c q n m s d k a).bind fun x a1=>zb9 c q n d r (k+1) x.1 x.2 a1
def zfw(c:Cx)(q:List UInt8)(n:Nat)(m:Mb)(s:St)(d a:Nat):Rr (Mb×St):=if usd m d then zb9 c q n d (nvM m) 0 m s a else .ok (m,s) a
def zdq(c:Cx)(q:List UInt8)(n:Nat):Nat→Nat→Mb→St→Nat→Rr (Mb×St)
 | 0,_,m,s,a=>.ok (m,s) a
 | r+1,d,m,s,a=>(zfw c q n m s d a).bind fun x a1=>zdq c q n r (d+1) x.1 x.2 a1
def zfv(c:Cx)(q:List UInt8)(n:Nat)(m:Mb)(s:St)(a:Nat):Rr (Mb×St):=if m.k=2 then(if bcx c then(tkF q n a).bind fun b a1=>.ok { m with fp:=b } a1 else .ok m a).bind fun m a1=>zdq c q n 2 0 m s a1 else .ok (m,s) a
def zge(c:Cx)(q:List UInt8)(n:Nat)(hl:Bool)(m:Mb)(s:St)(a:Nat):Rr (Mb×St):=if hl then(if bcx c then(tkF q n a).bind fun b a1=>.ok { m with fd:=b } a1 else .ok m a).bind fun m a1=>(tkS q n a1).bind fun d a2=>if vqB (s.q+d)then .ok ({ m with dl:=d },{ s with q:=s.q+d }) a2 else .er 2 a2 else .ok (m,s) a
def zeO(q:List UInt8)(n:Nat):Nat→Mb→Nat→Rr Mb
 | 0,m,a=>if zkp m then .ok m a else .er 2 a
 | r+1,m,a=>(tkF q n a).bind fun b a1=>zeO q n r (zdl m (5 - r) b) a1
def zeN(q:List UInt8)(n:Nat)(hl:Bool)(m:Mb)(a:Nat):Rr Mb:=if decide (m.k=2)&&hl then zeO q n 6 m a else .ok m a
def zca(q:List UInt8)(n:Nat):Nat→Mb→St→Nat→Rr (Mb×St)
 | 0,m,s,a=>.ok (m,s) a
 | r+1,m,s,a=>if zat (cdl m) (5 - r)then
   (if m.k=2 then(zfx q n 0 a).bind fun l a1=>if l=z64 then .er 2 a1 else zca q n r (zbc m (5 - r) l) s a1
    else(tkD q n (dcS s (5 - r - 3)) 4095 a).bind fun d a1=>(zfx q n 1 a1).bind fun l a2=>zca q n r (zbc m (5 - r) (l.set 0 d)) (zgh s (5 - r - 3) d) a2)else zca q n r m s a
def zma(c:Cx)(q:List UInt8)(n:Nat)(hl:Bool)(m:Mb)(s:St)(a:Nat):Rr (Mb×St):=(zfv c q n m s a).bind fun y a2=>(zge c q n hl y.1 y.2 a2).bind fun z a3=>(zeN q n hl z.1 a3).bind fun m a4=>(zca q n 6 m z.2 a4).bind fun w a5=>.ok (w.1,aft w.2 w.1.k) a5
def mtk(c:Cx)(s:St)(q:List UInt8)(n a:Nat):Rr (Mb×St):=(zdx c q n a).bind fun x a1=>zma c q n x.2 x.1 s a1
theorem zf1{q:List UInt8}{n a a1:Nat}{b:Bool}(h:tkF q n a= .ok b a1):a1=a+1∧a<n∧b=decide (za5 q a=1):=by
 unfold tkF at h;split at h
 ·injection h with h1 h2;exact⟨h2.symm,by assumption,h1.symm⟩
 ·cases h
theorem znw{q:List UInt8}{n a e a1:Nat}(h:tkF q n a= .er e a1):a1=a∧e=3∧n≤a:=by
 unfold tkF at h;split at h
 ·cases h
 ·injection h with h1 h2;omega
theorem zin{q:List UInt8}{n a a1 most:Nat}{pr v:Int}(h:tkD q n pr most a= .ok v a1)(ha:a≤n):(-(most:Int)≤v∧v≤most)∧a≤a1∧a1≤n:=by
 unfold tkD at h;cases hs:tkS q n a with
 | er e a2=>rw[hs]at h;cases h
 | ok d a2=>
  rw[hs,Rr.bind_ok]at h;have b:=zeM hs ha;split at h
  ·rename_i hw;injection h with h1 h2;subst h1 h2;exact⟨zil hw,om,b.2.2⟩
  ·cases h
theorem zqm{q:List UInt8}{n a a1 e most:Nat}{pr:Int}(h:tkD q n pr most a= .er e a1)(ha:a≤n):a≤a1∧a1≤n∧e≤3:=by
 unfold tkD at h;cases hs:tkS q n a with
 | er e2 a2=>
  rw[hs]at h;have:=znu hs;injection h with h1 h2;omega
 | ok d a2=>
  rw[hs,Rr.bind_ok]at h;have b:=zeM hs ha;split at h
  ·cases h
  ·injection h with h1 h2;omega
def tC(s:St)(w:Nat)(c:Cx)(mi:Nat)(hl:Bool):List PV:=[.int .i64 s.q,.int .i64 s.da,.int .i64 s.db,.int .i64 s.dc,.int .i64 s.va,.int .i64 s.vb,.int .i64 s.vc,.int .i64 s.vd,.ptr w 0 0,.int .i64 c.t,.int .i64 c.s,.bool c.i,.bool c.n,.ptr mi 0 0,.bool hl]
def tB(s:St)(w:Nat)(c:Cx)(mi:Nat)(hl:Bool):Blk:=⟨276,0,tC s w c mi hl⟩
theorem zE(s:St)(w:Nat)(c:Cx)(mi:Nat)(hl:Bool):(tB s w c mi hl).ver=0:=rfl
theorem zG(s:St)(w:Nat)(c:Cx)(mi:Nat)(hl:Bool):(tB s w c mi hl).cells=tC s w c mi hl:=rfl
theorem zeo(s:St)(w:Nat)(c:Cx)(mi:Nat)(hl:Bool):(tB s w c mi hl).e=276:=rfl
theorem zaC(m:Mb):(mB m).ver=0:=rfl
theorem zaJ(m:Mb):(mB m).cells=mbc m:=rfl
theorem zcg(m:Mb):(mB m).e=149:=rfl
def tG(H:za)(i:Nat)(p:List UInt8)(n a:Nat)(X:za)(B4 B5:Blk):za:=H.set i (rA p n a)++(X++[B4,B5])
section
variable (H:za) (i:Nat) (p:List UInt8) (n a:Nat) (X:za) (B4 B5:Blk)
theorem zme(hi:i<H.length):(tG H i p n a X B4 B5)[i]? =some (rA p n a):=by unfold tG;rw[List.getElem?_append_left (by simpa using hi)];simp[hi]
theorem zgV(hi:i<H.length)(a':Nat):(tG H i p n a X B4 B5).set i (rA p n a')=tG H i p n a' X B4 B5:=by unfold tG;rw[qK _ _ (by simpa using hi),qN]
theorem zkJ(hX:X.length=4):(tG H i p n a X B4 B5)[H.length+4]? =some B4:=by unfold tG;rw[qB sp,qA,show H.length+4 - H.length=4 from om,qB om,hX];rfl
theorem zi9(hX:X.length=4):(tG H i p n a X B4 B5)[H.length+5]? =some B5:=by unfold tG;rw[qB sp,qA,show H.length+5 - H.length=5 from om,qB om,hX];rfl
theorem zgX(hX:X.length=4)(B:Blk):(tG H i p n a X B4 B5).set (H.length+4) B=tG H i p n a X B B5:=by unfold tG;rw[qC _ _ sp,qA,show H.length+4 - H.length=4 from om,qC _ _ om,hX];rfl
theorem zgW(hX:X.length=4)(B:Blk):(tG H i p n a X B4 B5).set (H.length+5) B=tG H i p n a X B4 B:=by unfold tG;rw[qC _ _ sp,qA,show H.length+5 - H.length=5 from om,qC _ _ om,hX];rfl
end
def rvF:Rr Bool→PV
 | .ok b _=>.tup [.bool b,.int .i64 0]
 | .er e _=>.tup [.bool false,.int .i64 ((e:Int)+1)]
section
variable (H:za) (i:Nat) (p:List UInt8) (n a:Nat) (X:za) (B4:Blk) (c:Cx) (s:St) (hl:Bool) (hi:i<H.length) (hX:X.length=4) (ha:a≤n) (hn:n≤8 * p.length) (hp:p.length≤100000000)
include hi hX ha hn hp
theorem zgT(pr:Int)(most:Nat)(hm:most≤4095)(hpr: -4095≤pr∧pr≤4095):CallOk Tryz.prog 264 [.ptr (H.length+5) 0 0,.int .i64 pr,.int .i64 (most:Int)] (tG H i p n a X B4 (tB s i c (H.length+4) hl)) (rvS (tkD p n pr most a)) (tG H i p n (tkD p n pr most a).at X B4 (tB s i c (H.length+4) hl)):=by
 have g5:=fun a=>zi9 H i p n a X B4 (tB s i c (H.length+4) hl) hX;have gi:=zme H i p n a X B4 (tB s i c (H.length+4) hl) hi;have pc8:(tC s i c (H.length+4) hl)[8]? =some (.ptr i 0 0):=rfl;have t:=zi8 i p n a _ gi ha hn hp;have wo:=fun x K=>zdw x most K om;rw[zgV _ _ _ _ _ _ _ _ hi]at t;unfold tkD;cases hs:tkS p n a with
 | er e a1=>
  rw[hs]at t;simp only[Rr.bind,rvS,Rr.at]at t ⊢;have he:=(znu hs).2;have d0:((e:Int)+1 !=0)=true:=by simp;omega
  generalize tG H i p n a1 X B4 (tB s i c (H.length+4) hl)=Hz at *;refine CallOk.go Tryz.func264 Tryz.ntmps264 Tryz.results264 ?_;refine PW.e ?_;refine PW.f (fun K k=>by simp(disch:=omega) only[go_sem,↓reduceIte,reduceCtorEq,g5,zE,zG,pc8];refine VCx.call (t) rfl ?_;simp(disch:=omega) only[go_sem,↓reduceIte,reduceCtorEq,g5,zE,zG,pc8];exact k) ?_;refine PW.g d0 ?_;refine PW.t ?_;refine PW.e ?_;exact PW.ret ⟨_,rfl,Fin.now⟩
 | ok d a1=>
  rw[hs]at t;have b:=(zeM hs ha).1;simp only[Rr.bind,rvS,Rr.at]at t;have wd:=fun K=>wo (pr+d) K;refine CallOk.go Tryz.func264 Tryz.ntmps264 Tryz.results264 ?_;refine PW.e ?_;refine PW.f (fun K k=>by simp(disch:=omega) only[go_sem,↓reduceIte,reduceCtorEq,g5,zE,zG,pc8];refine VCx.call (t) rfl ?_;simp(disch:=omega) only[go_sem,↓reduceIte,reduceCtorEq,g5,zE,zG,pc8];exact k) ?_;refine PW.e ?_;refine PW.us ?_;simp only[Rr.bind];cases hw:win (pr+d) most with
  | true=>
   rw[hw]at wd;(repeat refine PW.seq ?_);refine PW.rg rfl fun K hK=> ?_;simp(disch:=omega) only[go_sem,↓reduceIte,reduceCtorEq];refine VCx.call (wd _) rfl ?_;simp(disch:=omega) only[go_sem,↓reduceIte,reduceCtorEq];refine hK _ _ ?_;clear hK K;refine PW.us ?_;refine PW.e ?_;exact PW.ret ⟨_,rfl,Fin.now⟩
  | false=>rw[hw]at wd;(repeat refine PW.seq ?_);refine PW.rg rfl fun K hK=> ?_;simp(disch:=omega) only[go_sem,↓reduceIte,reduceCtorEq];refine VCx.call (wd _) rfl ?_;simp(disch:=omega) only[go_sem,↓reduceIte,reduceCtorEq];refine hK _ _ ?_;clear hK K;refine PW.t ?_;refine PW.e ?_;exact PW.ret ⟨_,rfl,Fin.now⟩
end
end Go.Proofs.YtpjlfoficnpfoaaGreatDoor.Sc
namespace Go.Proofs.YtpjlfoficnpfoaaGreatDoor.Sc
set_option linter.all false
open Pm Ty Go.RowKit
theorem zr8(m:Mb)(x:Int):(mbc m).set 0 (.int .i64 x)=mbc { m with k:=x }:=rfl
theorem zxz(m:Mb)(x y:Bool):qG 1 (mbc m)++ .bool x:: .bool y::qH 3 (mbc m)=mbc { m with ua:=x,ub:=y }:=rfl
theorem zuR(m:Mb)(b0 b1 b2 b3 b4 b5:Bool):qG 18 (mbc m)++ .bool b0:: .bool b1:: .bool b2:: .bool b3:: .bool b4:: .bool b5::qH 24 (mbc m)=mbc { m with ca:=b0,cb:=b1,cc:=b2,cd:=b3,ce:=b4,cf:=b5 }:=rfl
theorem zbi(m:Mb):(⟨149,0,mbc m⟩:Blk)=mB m:=rfl
theorem zco(s:St)(w:Nat)(c:Cx)(mi:Nat)(hl:Bool):(⟨276,0,tC s w c mi hl⟩:Blk)=tB s w c mi hl:=rfl
theorem zv4(s:St)(w:Nat)(c:Cx)(mi:Nat)(hl b:Bool):(tC s w c mi hl).set 14 (.bool b)=tC s w c mi b:=rfl
theorem zav(s:St)(w:Nat)(c:Cx)(mi:Nat)(hl:Bool):(tC s w c mi hl)[13]? =some (.ptr mi 0 0):=rfl
theorem zcH(s:St)(w:Nat)(c:Cx)(mi:Nat)(hl:Bool):(tC s w c mi hl)[8]? =some (.ptr w 0 0):=rfl
theorem ztW(s:St)(w:Nat)(c:Cx)(mi:Nat)(hl:Bool):(tC s w c mi hl)[9]? =some (.int .i64 c.t):=rfl
theorem zqv(s:St)(w:Nat)(c:Cx)(mi:Nat)(hl:Bool):qG 4 (qH 9 (tC s w c mi hl))=cxc c:=rfl
theorem zkK(s:St)(w:Nat)(c:Cx)(mi:Nat)(hl:Bool):(tC s w c mi hl)[14]? =some (.bool hl):=rfl
theorem zai(s:St)(w:Nat)(c:Cx)(mi:Nat)(hl:Bool):(tC s w c mi hl).length=15:=rfl
theorem zvH(H:za):CallOk Tryz.prog 201 [] H (.agg [.bool true,.bool true,.bool true,.bool true,.bool true,.bool true]) H:=by refine CallOk.go Tryz.func201 Tryz.ntmps201 Tryz.results201 ?_;refine PW.e ?_;refine PW.e ?_;refine PW.v (.agg [.bool true,.bool true,.bool true,.bool true,.bool true,.bool true]) ?_;exact Fin.base (.id (zw (ziN _ [true,true,true,true,true,true])))
section
variable (H:za) (i:Nat) (p:List UInt8) (n a:Nat) (X:za) (c:Cx) (s:St) (hl:Bool) (hX:X.length=4)
include hX
theorem zo3(m:Mb)(hml:m.lv.length=384):CallOk Tryz.prog 255 [.ptr (H.length+5) 0 0] (tG H i p n a X (mB m) (tB s i c (H.length+4) hl)) (.tup []) (tG H i p n a X (mB { m with k:=1,ca:=true,cb:=true,cc:=true,cd:=true,ce:=true,cf:=true }) (tB s i c (H.length+4) true)):=by have g5:=fun B4 B5=>zi9 H i p n a X B4 B5 hX;have g4:=fun B4 B5=>zkJ H i p n a X B4 B5 hX;have s5:=fun B4 B5 B=>zgW H i p n a X B4 B5 hX B;have s4:=fun B4 B5 B=>zgX H i p n a X B4 B5 hX B;have hlen:=zW m hml;have al:=fun K=>zvH K;refine CallOk.go Tryz.func255 Tryz.ntmps255 Tryz.results255 ?_;refine PW.f (fun K k=>by simp(disch:=omega) only[go_sem,↓reduceIte,reduceCtorEq,g5,g4,s4,s5,zE,zG,zav,zaC,zaJ,zcg,zr8,zbi,hlen];exact k) ?_;have hlen2:=zW { m with k:=1 } hml;(repeat refine PW.seq ?_);refine PW.draw mix kr fun K hK=> ?_;simp(disch:=omega) only[go_sem,↓reduceIte,reduceCtorEq,g5,g4,s4,s5,zE,zG,zav,zaC,zaJ,zcg,zbi,hlen2];refine VCy.callP al rfl ?_;simp(disch:=omega) only[go_sem,↓reduceIte,reduceCtorEq,g5,g4,s4,s5,zE,zG,zav,zaC,zaJ,zcg,zbi,hlen2,zuR,qD];refine hK _ _ ?_;clear hK K;refine PW.f (fun K k=>by simp(disch:=omega) only[go_sem,↓reduceIte,reduceCtorEq,g5,g4,s4,s5,zE,zG,zeo,zav,zv4,zai,zco];exact k) ?_;exact Exists.intro _ (And.intro rfl Fin.now)
end
def ecd:Nat→PV:=fun e=>.int .i64 ((e:Int)+1)
theorem zaV:zl384.length=384:=by unfold zl384;exact List.length_replicate
section
variable (H:za) (i:Nat) (p:List UInt8) (n a:Nat) (X:za) (c:Cx) (s:St) (hi:i<H.length) (hX:X.length=4) (ha:a≤n) (hn:n≤8 * p.length) (hp:p.length≤100000000)
include hi hX ha hn hp
theorem zqf:CallOk Tryz.prog 180 [.ptr (H.length+5) 0 0] (tG H i p n a X (mB zMb) (tB s i c (H.length+4) false))
  (match zdx c p n a with| .ok _ _=>.int .i64 0| .er e _=>ecd e)
  (match zdx c p n a with| .ok x a1=>tG H i p n a1 X (mB x.1) (tB s i c (H.length+4) x.2)| .er _ a1=>tG H i p n a1 X (mB zMb) (tB s i c (H.length+4) false)):=by
 have g5:=fun a B4 B5=>zi9 H i p n a X B4 B5 hX;have g4:=fun a B4 B5=>zkJ H i p n a X B4 B5 hX;have s5:=fun a B4 B5 B=>zgW H i p n a X B4 B5 hX B;have s4:=fun a B4 B5 B=>zgX H i p n a X B4 B5 hX B;have ti:=fun a=>zo3 H i p n a X c s false hX zMb zaV;have hzl:=zW zMb zaV;refine CallOk.go Tryz.func180 Tryz.ntmps180 Tryz.results180 ?_;refine PW.e ?_;by_cases ht1:c.t=1
 ·have q1:(c.t==1)=true:=by simp[ht1]
  refine PW.f (fun K k=>by simp(disch:=omega) only[go_sem,↓reduceIte,reduceCtorEq,g5,zE,zG,ztW,q1];exact k) ?_;refine PW.t ?_;refine PW.k ti ?_;refine PW.e ?_;refine PW.ret ⟨_,rfl,?_⟩;have hk:zdx c p n a= .ok (zgj,true) a:=by unfold zdx;rw[if_pos ht1]
  rw[hk];exact Fin.now
 have q1:(c.t==1)=false:=by simp[ht1]
 have tu:=zi7 i p n a _ (zme H i p n a X (mB zMb) (tB s i c (H.length+4) false) hi) ha hn hp;rw[zgV _ _ _ _ _ _ _ _ hi]at tu;have hk:zdx c p n a=(tkU p n a).bind fun v a1=>if(if c.t=2 then 3 else 7)<v then .er 2 a1 else if v=(if c.t=2 then 3 else 7)then .ok (zgj,true) a1 else if v=0 then .ok (zMb,false) a1 else .ok (zzu v,decide (v%2=0)) a1:=by unfold zdx;rw[if_neg ht1]
 refine PW.f (fun K k=>by simp(disch:=omega) only[go_sem,↓reduceIte,reduceCtorEq,g5,zE,zG,ztW,q1];exact k) ?_;refine PW.us ?_;cases hu:tkU p n a with
 | er e a1=>
  rw[hu]at tu hk;rw[hk];simp only[rvU,Rr.at,Rr.bind]at tu ⊢;have d0:((e:Int)+1 !=0)=true:=by simp;omega
  have he:=(zkH hu).2;refine PW.f (fun K k=>by simp(disch:=omega) only[go_sem,↓reduceIte,reduceCtorEq,g5,zE,zG,zcH];refine VCx.call (tu) rfl ?_;simp(disch:=omega) only[go_sem,↓reduceIte,reduceCtorEq,g5,zE,zG,zcH];exact k) ?_;refine PW.g d0 ?_;refine PW.t ?_;refine PW.e ?_;exact PW.ret ⟨_,rfl,Fin.now⟩
 | ok v a1=>
  have hb:=zeL hu ha;rw[hu]at tu hk;rw[hk];simp only[rvU,Rr.at,Rr.bind]at tu ⊢;clear hk hu;refine PW.f (fun K k=>by simp(disch:=omega) only[go_sem,↓reduceIte,reduceCtorEq,g5,zE,zG,zcH];refine VCx.call (tu) rfl ?_;simp(disch:=omega) only[go_sem,↓reduceIte,reduceCtorEq,g5,zE,zG,zcH];exact k) ?_;refine PW.e ?_;refine PW.us ?_;refine PW.e ?_;refine PW.to [0,3,5] [(0,.ptr (H.length+5) 0 0),(3,.int .i64 (v:Int)),(5,.int .i64 ((if c.t=2 then 3 else 7:Nat):Int))] (tG H i p n a1 X (mB zMb) (tB s i c (H.length+4) false)) ?_ ?_
  ·by_cases ht2:c.t=2
   ·have q2:(c.t==2)=true:=by simp[ht2]
    rw[if_pos ht2];refine PW.f (fun K k=>by simp(disch:=omega) only[go_sem,↓reduceIte,reduceCtorEq,g5,zE,zG,ztW,q2];exact k) ?_;refine PW.t ?_;refine PW.e ?_;exact⟨rfl,rfl⟩
   ·have q2:(c.t==2)=false:=by simp[ht2]
    rw[if_neg ht2];refine PW.f (fun K k=>by simp(disch:=omega) only[go_sem,↓reduceIte,reduceCtorEq,g5,zE,zG,ztW,q2];exact k) ?_;refine PW.u ?_;exact PW.skip ⟨rfl,rfl⟩
  have hL:(if c.t=2 then 3 else 7:Nat)≤7:=by split<;>omega
  have hL0:3≤(if c.t=2 then 3 else 7:Nat):=by split<;>omega
  generalize (if c.t=2 then 3 else 7:Nat)=last at *;refine PW.b ?_;by_cases h1:last<v
  ·have d1:decide ((last:Int)<(v:Int))=true:=decide_eq_true om;rw[if_pos h1];refine PW.g d1 ?_;refine PW.t ?_;refine PW.e ?_;exact PW.ret ⟨_,rfl,Fin.now⟩
  have d1:decide ((last:Int)<(v:Int))=false:=decide_eq_false om;rw[if_neg h1];refine PW.g d1 ?_;refine PW.u ?_;by_cases h2:v=last
  ·have d2:((v:Int)==(last:Int))=true:=by simp[h2]
   rw[if_pos h2];refine PW.g d2 ?_;refine PW.t ?_;refine PW.k ti ?_;refine PW.e ?_;exact PW.ret ⟨_,rfl,Fin.now⟩
  have d2:((v:Int)==(last:Int))=false:=by rw[beq_eq_false_iff_ne];omega
  rw[if_neg h2];refine PW.g d2 ?_;refine PW.u ?_;by_cases h3:v=0
  ·have d3:decide ((0:Int)<(v:Int))=false:=decide_eq_false om;rw[if_pos h3];refine PW.g d3 ?_;refine PW.us ?_;refine PW.e ?_;exact PW.ret ⟨_,rfl,Fin.now⟩
  have d3:decide ((0:Int)<(v:Int))=true:=decide_eq_true om;rw[if_neg h3];refine PW.g d3 ?_;refine PW.t ?_;have hv7:v<7:=om;have h6:v=1∨v=2∨v=3∨v=4∨v=5∨v=6:=om;have hm6:mbc { zMb with k:=2 }=mbc { zMb with k:=2 }:=rfl;have hzl2:=zW { zMb with k:=2 } zaV;clear h1 h2 h3 d1 d2 d3 hb hL hL0 tu;refine PW.f (fun K k=>by simp(disch:=omega) only[go_sem,↓reduceIte,reduceCtorEq,g5,g4,s4,s5,zE,zG,zav,zaC,zaJ,zcg,zr8,zbi,hzl];exact k) ?_;rcases h6 with rfl|rfl|rfl|rfl|rfl|rfl;all_goals
   refine PW.f (fun K k=>by simp(disch:=omega) only[go_sem,↓reduceIte,reduceCtorEq,g5,g4,s4,s5,zE,zG,zav,zaC,zaJ,zcg,zxz,zbi,hzl2,qD];exact k) ?_;refine PW.f (fun K k=>by simp(disch:=omega) only[go_sem,↓reduceIte,reduceCtorEq,g5,s5,zE,zG,zeo,zv4,zai,zco];exact k) ?_;refine PW.e ?_;exact PW.ret ⟨_,rfl,Fin.now⟩
end
end Go.Proofs.YtpjlfoficnpfoaaGreatDoor.Sc
namespace Go.Proofs.YtpjlfoficnpfoaaGreatDoor.Sc
set_option linter.all false
open Pm Ty Go.RowKit
theorem tC_x(s:St)(w:Nat)(c:Cx)(mi:Nat)(hl:Bool)(d:Nat)(hd:d<2):(tC s w c mi hl)[4+d * 2]? =some (.int .i64 (sXs s d)):=by have:d=0∨d=1:=om;rcases this with rfl|rfl<;>rfl
theorem tC_y(s:St)(w:Nat)(c:Cx)(mi:Nat)(hl:Bool)(d:Nat)(hd:d<2):(tC s w c mi hl)[4+d * 2+1]? =some (.int .i64 (sYs s d)):=by have:d=0∨d=1:=om;rcases this with rfl|rfl<;>rfl
theorem zyW(s:St)(w:Nat)(c:Cx)(mi:Nat)(hl:Bool)(d:Nat)(hd:d<2)(x:Int):(tC s w c mi hl).set (4+d * 2) (.int .i64 x)=tC (zcb s d x (sYs s d)) w c mi hl:=by have:d=0∨d=1:=om;rcases this with rfl|rfl<;>rfl
theorem zyV(s:St)(w:Nat)(c:Cx)(mi:Nat)(hl:Bool)(d:Nat)(hd:d<2)(y:Int):(tC s w c mi hl).set (4+d * 2+1) (.int .i64 y)=tC (zcb s d (sXs s d) y) w c mi hl:=by have:d=0∨d=1:=om;rcases this with rfl|rfl<;>rfl
theorem tC_v(s:St)(w:Nat)(c:Cx)(mi:Nat)(hl:Bool)(d:Nat)(hd:d<2):qG 2 (qH (4+d * 2) (tC s w c mi hl))=[.int .i64 (sXs s d),.int .i64 (sYs s d)]:=by have:d=0∨d=1:=om;rcases this with rfl|rfl<;>rfl
theorem zw8(s:St)(d:Nat)(x y z:Int):zcb (zcb s d x y) d x z=zcb s d x z:=by unfold zcb;split<;>rfl
theorem zqU(s:St)(d:Nat)(x y:Int):sXs (zcb s d x y) d=x:=by unfold zcb sXs;split<;>rfl
theorem zqT(s:St)(d:Nat)(x y:Int):sYs (zcb s d x y) d=y:=by unfold zcb sYs;split<;>rfl
theorem zxA(m:Mb)(d k:Nat)(hd:d<2)(hk:k<2)(x:Int):(mbc m).set (13+d * 2+k) (.int .i64 x)=mbc (zeS m d k x):=by have h1:d=0∨d=1:=om;have h2:k=0∨k=1:=om;rcases h1 with rfl|rfl<;>rcases h2 with rfl|rfl<;>rfl
theorem zxy(m:Mb)(d k:Nat)(hd:d<2)(hk:k<2)(x y:Int):qG (5+d * 4+k * 2) (mbc m)++ .int .i64 x:: .int .i64 y::qH (5+d * 4+k * 2+(1+1)) (mbc m)=mbc (zed m d k x y):=by have h1:d=0∨d=1:=om;have h2:k=0∨k=1:=om;rcases h1 with rfl|rfl<;>rcases h2 with rfl|rfl<;>rfl
theorem zqV(m:Mb)(d k:Nat)(x:Int):(zeS m d k x).lv=m.lv:=by unfold zeS;split<;>split<;>rfl
def zpg(H:za)(i:Nat)(p:List UInt8)(n:Nat)(X:za)(c:Cx)(hl:Bool)(x:Rr (Mb×St)):PV→za→Prop:=fun v H'=>
 match x with
 | .ok y a=>v= .int .i64 0∧H'=tG H i p n a X (mB y.1) (tB y.2 i c (H.length+4) hl)
 | .er e _=>v=ecd e∧∃ a m s,a≤n∧m.lv.length=384∧H'=tG H i p n a X (mB m) (tB s i c (H.length+4) hl)
section
variable (H:za) (i:Nat) (p:List UInt8) (n:Nat) (X:za) (c:Cx) (hl:Bool) (hi:i<H.length) (hX:X.length=4) (hn:n≤8 * p.length) (hp:p.length≤100000000)
include hi hX hn hp
set_option maxHeartbeats 2000000 in
theorem ztM(m:Mb)(s:St)(d k a:Nat)(hd:d<2)(hk:k<2)(hml:m.lv.length=384)(hs:vrS s)(ha:a≤n):CallEx Tryz.prog 260 [.ptr (H.length+5) 0 0,.int .i64 (d:Int),.int .i64 (k:Int)] (tG H i p n a X (mB m) (tB s i c (H.length+4) hl)) (zpg H i p n X c hl (zem c p n m s d k a)):=by
 have g5:=fun a B4 B5=>zi9 H i p n a X B4 B5 hX;have g4:=fun a B4 B5=>zkJ H i p n a X B4 B5 hX;have s5:=fun a B4 B5 B=>zgW H i p n a X B4 B5 hX B;have s4:=fun a B4 B5 B=>zgX H i p n a X B4 B5 hX B;have gi:=fun a B4 B5=>zme H i p n a X B4 B5 hi;have si:=fun a B4 B5 a'=>zgV H i p n a X B4 B5 hi a';have hlen:=zW m hml;have se:=zmk c m (H.length+4) _ (g4 a (mB m) (tB s i c (H.length+4) hl));have tx:=fun s=>tC_x s i c (H.length+4) hl d hd;have ty:=fun s=>tC_y s i c (H.length+4) hl d hd;have tsx:=fun s=>zyW s i c (H.length+4) hl d hd;have tsy:=fun s=>zyV s i c (H.length+4) hl d hd;have tv:=fun s=>tC_v s i c (H.length+4) hl d hd;generalize hres:zem c p n m s d k a=res;unfold zem at hres;refine CallEx.body (F0:=[(0,.ptr (H.length+5) 0 0),(1,.int .i64 (d:Int)),(2,.int .i64 (k:Int))]) Tryz.func260 rfl Tryz.ntmps260 Tryz.results260 rfl kr rfl ?_;refine PW.e ?_;(repeat refine PW.seq ?_);refine PW.drawt [] [] mix kr fun K hK=> ?_;simp(maxSteps:=3000000) (disch:=omega) only[go_sem,↓reduceIte,reduceCtorEq,g5,zE,zG,zqv,zav,zai,qD,qJ];refine VCj.now (se) rfl ?_;simp(maxSteps:=3000000) (disch:=omega) only[go_sem,↓reduceIte,reduceCtorEq];refine hK _ _ ?_;clear hK K;suffices hrest:∀(m:Mb) (a:Nat),m.lv.length=384→a≤n→((tkD p n (sXs s d) 63 a).bind fun x a2=>(tkD p n (sYs s d) 63 a2).bind fun y a3=>.ok (zed m d k x y,zcb s d x y) a3)=res→
   PW Tryz.prog _ _ [(0,.ptr (H.length+5) 0 0),(1,.int .i64 (d:Int)),(2,.int .i64 (k:Int))] (tG H i p n a X (mB m) (tB s i c (H.length+4) hl)) _ by
  cases hsel:(m.fp||fcx c)with
  | false=>
   rw[hsel,if_neg (by decide),Rr.bind_ok]at hres;refine PW.us ?_;exact PW.at [0,1,2] (hrest m a hml ha hres) rfl rfl
  | true=>
   rw[hsel,if_pos rfl]at hres;refine PW.t ?_;by_cases han:a<n
   ·have hf:tkF p n a= .ok (decide (za5 p a=1)) (a+1):=by unfold tkF;rw[if_pos han]
    rw[hf,Rr.bind_ok,Rr.bind_ok]at hres;have hub:=zgp p a;have t:=zdz i p n a 1 _ (gi a (mB m) (tB s i c (H.length+4) hl)) om hn hp om;rw[si,show vl p a 1=za5 p a by simp[vl]]at t;have hbn:((decide (za5 p a=1)).toNat:Int)=(za5 p a:Int):=by have:za5 p a=0∨za5 p a=1:=om;rcases this with e|e<;>rw[e]<;>rfl
    rw[hbn]at hres;have hst:=zxA m d k hd hk (za5 p a:Int);refine PW.f (fun K k=>by simp(maxSteps:=3000000) (disch:=omega) only[go_sem,↓reduceIte,reduceCtorEq,g5,zE,zG,zcH];refine VCx.call (t) rfl ?_;simp(maxSteps:=3000000) (disch:=omega) only[go_sem,↓reduceIte,reduceCtorEq,g5,zE,zG,zcH];exact k) ?_;refine PW.e ?_;refine PW.us ?_;refine PW.f (fun K k=>by simp(maxSteps:=3000000) (disch:=omega) only[go_sem,↓reduceIte,reduceCtorEq,g5,g4,s4,zE,zG,zav,zaC,zaJ,zcg,hlen,hst,zbi];exact k) ?_;exact PW.at [0,1,2] (hrest _ (a+1) (by rw[zqV];exact hml) om hres) rfl rfl
   ·have hf:tkF p n a= .er 3 a:=by unfold tkF;rw[if_neg han]
    rw[hf,Rr.bind_er,Rr.bind_er]at hres;have t:=zbU i p n a 1 _ (gi a (mB m) (tB s i c (H.length+4) hl)) om om om om;refine PW.f (fun K k=>by simp(maxSteps:=3000000) (disch:=omega) only[go_sem,↓reduceIte,reduceCtorEq,g5,zE,zG,zcH];refine VCx.call (t) rfl ?_;simp(maxSteps:=3000000) (disch:=omega) only[go_sem,↓reduceIte,reduceCtorEq,g5,zE,zG,zcH];exact k) ?_;refine PW.e ?_;refine PW.t ?_;refine PW.e ?_;refine PW.ret ⟨_,rfl,.inl ?_⟩;rw[←hres];exact⟨rfl,a,m,s,ha,hml,rfl⟩
 clear hres ha hml hlen se;intro m a hml ha hres;have hlen:=zW m hml;have hsd:=hs d;refine PW.f (fun K k=>by simp(maxSteps:=3000000) (disch:=omega) only[go_sem,↓reduceIte,reduceCtorEq,g5,zE];exact k) ?_;have t1:=zgT H i p n a X (mB m) c s hl hi hX ha hn hp (sXs s d) 63 om om;cases h1:tkD p n (sXs s d) 63 a with
 | er e a1=>
  have hb:=zqm h1 ha;rw[h1]at t1 hres;simp only[rvS,Rr.at,Rr.bind]at t1 hres;have d0:((e:Int)+1 !=0)=true:=by simp;omega
  refine PW.f (fun K k=>by simp(maxSteps:=3000000) (disch:=omega) only[go_sem,↓reduceIte,reduceCtorEq,g5,zE,zG,tx,s5,tsx,zeo,zco,zai];refine VCx.call (t1) rfl ?_;simp(maxSteps:=3000000) (disch:=omega) only[go_sem,↓reduceIte,reduceCtorEq,g5,zE,zG,tx,s5,tsx,zeo,zco,zai];exact k) ?_;refine PW.g d0 ?_;refine PW.t ?_;refine PW.e ?_;refine PW.ret ⟨_,rfl,.inl ?_⟩;rw[←hres];exact⟨rfl,a1,m,_,hb.2.1,hml,rfl⟩
 | ok x a1=>
  have hb:=zin h1 ha;rw[h1]at t1 hres;simp only[rvS,Rr.at]at t1;rw[Rr.bind_ok]at hres;refine PW.f (fun K k=>by simp(maxSteps:=3000000) (disch:=omega) only[go_sem,↓reduceIte,reduceCtorEq,g5,zE,zG,tx,s5,tsx,zeo,zco,zai];refine VCx.call (t1) rfl ?_;simp(maxSteps:=3000000) (disch:=omega) only[go_sem,↓reduceIte,reduceCtorEq,g5,zE,zG,tx,s5,tsx,zeo,zco,zai];exact k) ?_;refine PW.e ?_;refine PW.us ?_;have t2:=zgT H i p n a1 X (mB m) c (zcb s d x (sYs s d)) hl hi hX hb.2.2 hn hp (sYs s d) 63 om om;have ty2:=ty (zcb s d x (sYs s d));rw[zqT]at ty2;have tsy2:=tsy (zcb s d x (sYs s d));rw[zqU]at tsy2;simp only[zw8]at tsy2;cases h2:tkD p n (sYs s d) 63 a1 with
  | er e a2=>
   have hb2:=zqm h2 hb.2.2;rw[h2]at t2 hres;simp only[rvS,Rr.at,Rr.bind]at t2 hres;have d0:((e:Int)+1 !=0)=true:=by simp;omega
   refine PW.f (fun K k=>by simp(maxSteps:=3000000) (disch:=omega) only[go_sem,↓reduceIte,reduceCtorEq,g5,zE,zG,ty2,s5,tsy2,zeo,zco,zai];refine VCx.call (t2) rfl ?_;simp(maxSteps:=3000000) (disch:=omega) only[go_sem,↓reduceIte,reduceCtorEq,g5,zE,zG,ty2,s5,tsy2,zeo,zco,zai];exact k) ?_;refine PW.g d0 ?_;refine PW.t ?_;refine PW.e ?_;refine PW.ret ⟨_,rfl,.inl ?_⟩;rw[←hres];exact⟨rfl,a2,m,_,hb2.2.1,hml,rfl⟩
  | ok y a2=>have hb2:=zin h2 hb.2.2;rw[h2]at t2 hres;simp only[rvS,Rr.at]at t2;rw[Rr.bind_ok]at hres;have tv2:=tv (zcb s d x y);rw[zqU,zqT]at tv2;have hsv:=zxy m d k hd hk x y;refine PW.f (fun K k=>by simp(maxSteps:=3000000) (disch:=omega) only[go_sem,↓reduceIte,reduceCtorEq,g5,zE,zG,ty2,s5,tsy2,zeo,zco,zai];refine VCx.call (t2) rfl ?_;simp(maxSteps:=3000000) (disch:=omega) only[go_sem,↓reduceIte,reduceCtorEq,g5,zE,zG,ty2,s5,tsy2,zeo,zco,zai];exact k) ?_;refine PW.e ?_;refine PW.us ?_;(repeat refine PW.seq ?_);refine PW.drawi [H.length+4] [(81,[0]),(87,[0]),(88,[0]),(89,[0]),(90,[0])] [] [] mix kr (by simp<;>omega) fun K hK=> ?_;simp(maxSteps:=3000000) (disch:=omega) only[go_sem,↓reduceIte,reduceCtorEq,g5,g4,s4,zE,zG,zav,zai,tv2,zaC,zaJ,zcg,hlen,hsv,zbi];refine hK _ _ ?_;clear hK K;refine PW.e ?_;refine PW.ret ⟨_,rfl,.inl ?_⟩;rw[←hres];exact⟨rfl,rfl⟩
end
end Go.Proofs.YtpjlfoficnpfoaaGreatDoor.Sc
namespace Go.Proofs.YtpjlfoficnpfoaaGreatDoor.Sc
set_option linter.all false
open Pm Ty Go.RowKit
theorem zfy(L:za)(ti i:Nat)(p:List UInt8)(n a:Nat)(c:Cx)(s:St)(mi:Nat)(hl:Bool)(hT:L[ti]? =some (tB s i c mi hl))(hR:L[i]? =some (rA p n a))(ha:a≤n)(hn:n≤8 * p.length)(hp:p.length≤100000000):
  CallOk Tryz.prog 258 [.ptr ti 0 0] L (rvF (tkF p n a)) (L.set i (rA p n (tkF p n a).at)):=by
 have hself:=zaO hR;cases hf:tkF p n a with
 | ok b a1=>
  obtain⟨rfl,h2,rfl⟩:=zf1 hf;have t:=zdz i p n a 1 _ hR om hn hp om;rw[show vl p a 1=za5 p a by simp[vl]]at t;have e1:((za5 p a:Int)==1)=decide (za5 p a=1):=by rw[qF];simp;omega
  simp only[rvF,Rr.at];generalize L.set i (rA p n (a+1))=Hz at *;refine CallOk.go Tryz.func258 Tryz.ntmps258 Tryz.results258 ?_;refine PW.e ?_;refine PW.f (fun K k=>by simp(maxSteps:=3000000) (disch:=omega) only[go_sem,↓reduceIte,reduceCtorEq,hT,zE,zG,zcH];refine VCx.call (t) rfl ?_;simp(maxSteps:=3000000) (disch:=omega) only[go_sem,↓reduceIte,reduceCtorEq,hT,zE,zG,zcH];exact k) ?_;refine PW.g e1 ?_;exact PW.ret ⟨_,rfl,Fin.now⟩
 | er e a1=>obtain⟨rfl,rfl,h2⟩:=znw hf;have t:=zbU i p n a1 1 _ hR om om om om;simp only[rvF,Rr.at,hself];refine CallOk.go Tryz.func258 Tryz.ntmps258 Tryz.results258 ?_;refine PW.e ?_;refine PW.f (fun K k=>by simp(maxSteps:=3000000) (disch:=omega) only[go_sem,↓reduceIte,reduceCtorEq,hT,zE,zG,zcH];refine VCx.call (t) rfl ?_;simp(maxSteps:=3000000) (disch:=omega) only[go_sem,↓reduceIte,reduceCtorEq,hT,zE,zG,zcH];exact k) ?_;refine PW.e ?_;exact PW.ret ⟨_,rfl,Fin.now⟩
theorem zr6(m:Mb)(b:Bool):(mbc m).set 3 (.bool b)=mbc { m with fp:=b }:=rfl
theorem zr9(m:Mb)(b:Bool):(mbc m).set 4 (.bool b)=mbc { m with fd:=b }:=rfl
theorem zhC(m:Mb):(mbc m)[0]? =some (.int .i64 m.k):=rfl
theorem zxw(m:Mb):qG 2 (qH 1 (mbc m))=[.bool m.ua,.bool m.ub]:=rfl
def SameU(m m':Mb):Prop:=m'.lv=m.lv∧m'.ua=m.ua∧m'.ub=m.ub∧m'.fp=m.fp∧m'.k=m.k
theorem SameU.refl(m:Mb):SameU m m:=⟨rfl,rfl,rfl,rfl,rfl⟩
theorem SameU.trans{a b c:Mb}(h:SameU a b)(k:SameU b c):SameU a c:=⟨k.1.trans h.1,k.2.1.trans h.2.1,k.2.2.1.trans h.2.2.1,k.2.2.2.1.trans h.2.2.2.1,k.2.2.2.2.trans h.2.2.2.2⟩
theorem zmj(m:Mb)(d k:Nat)(x:Int):SameU m (zeS m d k x):=by unfold zeS;split<;>split<;>exact⟨rfl,rfl,rfl,rfl,rfl⟩
theorem zmi(m:Mb)(d k:Nat)(x y:Int):SameU m (zed m d k x y):=by unfold zed;split<;>split<;>exact⟨rfl,rfl,rfl,rfl,rfl⟩
theorem zp5{s:St}(hs:vrS s)(d:Nat){x y:Int}(hx: -63≤x∧x≤63)(hy: -63≤y∧y≤63):vrS (zcb s d x y):=fun e=>by
 have h0:=hs 0;have h1:=hs 1;have he:=hs e;unfold zcb;split
 ·unfold sXs sYs;dsimp only;split
  ·exact⟨hx,hy⟩
  ·exact h1
 ·unfold sXs sYs;dsimp only;split
  ·exact h0
  ·exact⟨hx,hy⟩
theorem zqi{c:Cx}{p:List UInt8}{n:Nat}{m:Mb}{s:St}{d k a:Nat}{y:Mb×St}{a1:Nat}(h:zem c p n m s d k a= .ok y a1)(ha:a≤n)(hs:vrS s):a1≤n∧SameU m y.1∧vrS y.2:=by
 unfold zem at h;suffices hr:∀(m':Mb) (a':Nat),SameU m m'→a'≤n→((tkD p n (sXs s d) 63 a').bind fun x a2=>(tkD p n (sYs s d) 63 a2).bind fun y a3=>.ok (zed m' d k x y,zcb s d x y) a3)= .ok y a1→a1≤n∧SameU m y.1∧vrS y.2 by
  split at h
  ·cases hf:tkF p n a with
   | er e a2=>rw[hf]at h;cases h
   | ok b a2=>have:=zf1 hf;rw[hf,Rr.bind_ok,Rr.bind_ok]at h;exact hr _ _ (zmj m d k _) om h
  ·rw[Rr.bind_ok]at h;exact hr _ _ (.refl m) ha h
 intro m' a' hm' ha' h;cases h1:tkD p n (sXs s d) 63 a' with
 | er e a2=>rw[h1]at h;cases h
 | ok x a2=>
  have b1:=zin h1 ha';rw[h1,Rr.bind_ok]at h;cases h2:tkD p n (sYs s d) 63 a2 with
  | er e a3=>rw[h2]at h;cases h
  | ok z a3=>have b2:=zin h2 b1.2.2;rw[h2,Rr.bind_ok]at h;injection h with e1 e2;subst e1 e2;exact⟨b2.2.2,hm'.trans (zmi _ _ _ _ _),zp5 hs d om om⟩
theorem zqh{c:Cx}{p:List UInt8}{n d:Nat}:∀(r k:Nat) (m:Mb) (s:St) (a:Nat) {y:Mb×St} {a1:Nat},zb9 c p n d r k m s a= .ok y a1→a≤n→vrS s→a1≤n∧SameU m y.1∧vrS y.2
 | 0,k,m,s,a,y,a1,h,ha,hs=>by
  simp only[zb9]at h;injection h with e1 e2;subst e1 e2;exact⟨ha,.refl m,hs⟩
 | r+1,k,m,s,a,y,a1,h,ha,hs=>by
  simp only[zb9]at h;cases h1:zem c p n m s d k a with
  | er e a2=>rw[h1]at h;cases h
  | ok x a2=>obtain⟨b1,b2,b3⟩:=zqi h1 ha hs;rw[h1,Rr.bind_ok]at h;obtain⟨c1,c2,c3⟩:=zqh r (k+1) x.1 x.2 a2 h b1 b3;exact⟨c1,b2.trans c2,c3⟩
theorem zwW{c:Cx}{p:List UInt8}{n d:Nat}{m:Mb}{s:St}{a:Nat}{y:Mb×St}{a1:Nat}(h:zfw c p n m s d a= .ok y a1)(ha:a≤n)(hs:vrS s):a1≤n∧SameU m y.1∧vrS y.2:=by
 unfold zfw at h;split at h
 ·exact zqh _ _ _ _ _ h ha hs
 ·injection h with e1 e2;subst e1 e2;exact⟨ha,.refl m,hs⟩
section
variable (H:za) (i:Nat) (p:List UInt8) (n:Nat) (X:za) (c:Cx) (hl:Bool) (hi:i<H.length) (hX:X.length=4) (hn:n≤8 * p.length) (hp:p.length≤100000000)
include hi hX hn hp
set_option maxHeartbeats 4000000 in
theorem zqc(m:Mb)(s:St)(a:Nat)(hml:m.lv.length=384)(hs:vrS s)(ha:a≤n):CallEx Tryz.prog 181 [.ptr (H.length+5) 0 0] (tG H i p n a X (mB m) (tB s i c (H.length+4) hl)) (zpg H i p n X c hl (zfv c p n m s a)):=by
 have g5:=fun a B4 B5=>zi9 H i p n a X B4 B5 hX;have g4:=fun a B4 B5=>zkJ H i p n a X B4 B5 hX;have s5:=fun a B4 B5 B=>zgW H i p n a X B4 B5 hX B;have s4:=fun a B4 B5 B=>zgX H i p n a X B4 B5 hX B;have gi:=fun a B4 B5=>zme H i p n a X B4 B5 hi;have si:=fun a B4 B5 a'=>zgV H i p n a X B4 B5 hi a';have hlen:=zW m hml;have bo:=fun K=>zki c K;generalize hres:zfv c p n m s a=res;unfold zfv at hres;by_cases hk:m.k=2;rotate_left
 ·rw[if_neg hk]at hres;have d1:decide (m.k=2)=false:=decide_eq_false hk;have d2:(m.k !=2)=true:=by simp[hk]
  refine CallEx.body (F0:=[(0,.ptr (H.length+5) 0 0)]) Tryz.func181 rfl Tryz.ntmps181 Tryz.results181 rfl kr rfl ?_;refine PW.e ?_;refine PW.f (fun K k=>by simp(maxSteps:=3000000) (disch:=omega) only[go_sem,↓reduceIte,reduceCtorEq,g5,g4,zE,zG,zav,zaC,zaJ,zhC,d2];exact k) ?_;refine PW.t ?_;refine PW.e ?_;refine PW.ret ⟨_,rfl,.inl ?_⟩;rw[←hres];exact⟨rfl,rfl⟩
 rw[if_pos hk]at hres;have d2:(m.k !=2)=false:=by simp[hk]
 refine CallEx.body (F0:=[(0,.ptr (H.length+5) 0 0)]) Tryz.func181 rfl Tryz.ntmps181 Tryz.results181 rfl kr rfl ?_;refine PW.e ?_;refine PW.f (fun K k=>by simp(maxSteps:=3000000) (disch:=omega) only[go_sem,↓reduceIte,reduceCtorEq,g5,g4,zE,zG,zav,zaC,zaJ,zhC,d2];exact k) ?_;refine PW.us ?_;suffices hrest:∀(m:Mb) (a:Nat),m.lv.length=384→a≤n→zdq c p n 2 0 m s a=res→PW Tryz.prog _ _ [(0,.ptr (H.length+5) 0 0)] (tG H i p n a X (mB m) (tB s i c (H.length+4) hl)) _ by
  refine PW.f (fun K k=>by simp(maxSteps:=3000000) (disch:=omega) only[go_sem,↓reduceIte,reduceCtorEq,g5,zE,zG,zqv,zai,qD,qJ];refine VCx.call (bo _) rfl ?_;simp(maxSteps:=3000000) (disch:=omega) only[go_sem,↓reduceIte,reduceCtorEq,g5,zE,zG,zqv,zai,qD,qJ];exact k) ?_;cases hbv:bcx c with
  | false=>
   rw[hbv,if_neg (by decide),Rr.bind_ok]at hres;refine PW.us ?_;exact PW.at [0] (hrest m a hml ha hres) rfl rfl
  | true=>
   rw[hbv,if_pos rfl]at hres;refine PW.t ?_;(repeat refine PW.seq ?_);refine PW.drawi [i,H.length+4] [(24,[1]),(25,[0]),(29,[1]),(30,[1])] [] [] mix kr (by simp<;>omega) fun K hK=> ?_;simp(maxSteps:=3000000) (disch:=omega) only[go_sem,↓reduceIte,reduceCtorEq,g5,zE,zG,zav];refine VCj.wr1 (gi a (mB m) (tB s i c (H.length+4) hl)) (fun L hL hG=>zfy L (H.length+5) i p n a c s (H.length+4) hl ((hG.out _ (by simp;omega)).trans (g5 _ _ _)) hL ha hn hp) (by simp(maxSteps:=3000000) (disch:=omega) only[go_sem,↓reduceIte,reduceCtorEq]) (.inl rfl) rfl ?_;rw[si];cases hf:tkF p n a with
   | ok b a1=>
    obtain⟨rfl,h2,_⟩:=zf1 hf;rw[hf,Rr.bind_ok,Rr.bind_ok]at hres;simp only[rvF,Rr.at];simp(maxSteps:=3000000) (disch:=omega) only[go_sem,↓reduceIte,reduceCtorEq,g4,s4,zaC,zaJ,zcg,hlen,zr6,zbi];refine hK _ _ ?_;clear hK K;refine PW.e ?_;refine PW.us ?_;exact PW.at [0] (hrest { m with fp:=b } (a+1) hml om hres) rfl rfl
   | er e a1=>obtain⟨rfl,rfl,h2⟩:=znw hf;rw[hf,Rr.bind_er,Rr.bind_er]at hres;simp only[rvF,Rr.at];simp(maxSteps:=3000000) (disch:=omega) only[go_sem,↓reduceIte,reduceCtorEq,g4,s4,zaC,zaJ,zcg,hlen,zr6,zbi];refine hK _ _ ?_;clear hK K;refine PW.e ?_;refine PW.t ?_;refine PW.e ?_;refine PW.ret ⟨_,rfl,.inl ?_⟩;rw[←hres];exact⟨rfl,a1,{ m with fp:=false },s,ha,hml,rfl⟩
 clear hres ha hml hlen;intro m a hml ha hres;have ve:=fun m1 s1 a1=>ztH m1 (H.length+4) _ (g4 a1 (mB m1) (tB s1 i c (H.length+4) hl));have vc:=fun m1 s1 d k a1 hd hk hml hs ha=>ztM H i p n X c hl hi hX hn hp m1 s1 d k a1 hd hk hml hs ha;have hlen:=zW m hml;refine PW.f (fun K k=>by simp(maxSteps:=3000000) (disch:=omega) only[go_sem,↓reduceIte,reduceCtorEq,g5,g4,zE,zG,zav,zaC,zaJ,zxw,hlen,qD,qJ];exact k) ?_;refine PW.l ?_;suffices hl1:∀(d:Nat) (m1:Mb) (s1:St) (a1:Nat),d≤2→SameU m m1→vrS s1→a1≤n→zdq c p n (2 - d) d m1 s1 a1=res→PL Tryz.prog _ _ [(0,.ptr (H.length+5) 0 0),(40,.agg [.bool m.ua,.bool m.ub]),(41,.int .i64 (d:Int))] (tG H i p n a1 X (mB m1) (tB s1 i c (H.length+4) hl)) _ by exact PL.at [0,40,41] (hl1 0 m s a om (.refl m) hs ha hres) rfl rfl
 clear hres ha hlen hs;intro d m1 s1 a1 hd hm1 hs1 ha1 hres;induction hdd:2 - d using Nat.strongRecOn generalizing d m1 s1 a1 with
 | _ dd ih=>
  refine PL.round ?_;refine PW.e ?_;refine PW.c (fun h=> ?_) (fun h=> ?_);rotate_left
  ·have h6:d=2:=ofF h;subst h6;refine PW.exit ?_;simp only[Nat.sub_self,zdq]at hres;refine PW.e ?_;refine PW.ret ⟨_,rfl,.inl ?_⟩;rw[←hres];exact⟨rfl,rfl⟩
  have h6:d<2:=ot h;obtain⟨n',hn'⟩:∃ n',2 - d=n'+1:=⟨1 - d,om⟩;rw[hn',zdq]at hres;have hnx:=fun m1 s1 a1=>ih (2 - (d+1)) om (d+1) m1 s1 a1 om;rw[show 2 - (d+1)=n' from om]at hnx;have hus:([.bool m.ua,.bool m.ub]:List PV)[d]? =some (.bool (usd m1 d)):=by have:d=0∨d=1:=om;unfold usd;rw[hm1.2.1,hm1.2.2.1];rcases this with rfl|rfl<;>rfl
  have hdr:zfw c p n m1 s1 d a1=if usd m1 d then zb9 c p n d (nvM m1) 0 m1 s1 a1 else .ok (m1,s1) a1:=rfl
  rw[hdr]at hres;refine PW.skip ?_;refine PW.b ?_;refine PW.g hus ?_;refine PW.e ?_;cases hu:usd m1 d with
  | false=>
   rw[hu,if_neg (by decide),Rr.bind_ok]at hres;refine PW.t ?_;refine PW.exit ?_;refine PW.e ?_;exact PL.at [0,40,41] (hnx m1 s1 a1 hm1 hs1 ha1 hres rfl) rfl rfl
  | true=>
   rw[hu,if_pos rfl]at hres;refine PW.us ?_;have vo:=ve m1 s1 a1;have env:(if m1.fp then(2:Int)else 1)=((nvM m:Nat):Int):=by unfold nvM;rw[hm1.2.2.2.1];cases m.fp<;>rfl
   have env2:nvM m1=nvM m:=by unfold nvM;rw[hm1.2.2.2.1]
   rw[env]at vo;rw[env2]at hres;refine PW.f (fun K k=>by simp(maxSteps:=3000000) (disch:=omega) only[go_sem,↓reduceIte,reduceCtorEq,g5,zE,zG,zav];refine VCx.call (vo) rfl ?_;simp(maxSteps:=3000000) (disch:=omega) only[go_sem,↓reduceIte,reduceCtorEq,g5,zE,zG,zav];exact k) ?_;refine PW.l ?_;suffices hl2:∀(k:Nat) (m2:Mb) (s2:St) (a2:Nat),k≤nvM m→SameU m m2→vrS s2→a2≤n→((zb9 c p n d (nvM m - k) k m2 s2 a2).bind fun x a1=>zdq c p n n' (d+1) x.1 x.2 a1)=res→
     PL Tryz.prog _ _ [(0,.ptr (H.length+5) 0 0),(3,.int .i64 (d:Int)),(40,.agg [.bool m.ua,.bool m.ub]),(41,.int .i64 (d:Int)),(51,.int .i64 (nvM m:Int)),(52,.int .i64 (k:Int))] (tG H i p n a2 X (mB m2) (tB s2 i c (H.length+4) hl)) _ by
    exact PL.at [0,3,40,41,51,52] (hl2 0 m1 s1 a1 om hm1 hs1 ha1 hres) rfl rfl
   clear ih hres hs1 ha1 vo hdr hu hus env env2 hm1;have hnv:=zzw m;intro k m2 s2 a2 hk2 hm2 hs2 ha2 hres;induction hkk:nvM m - k using Nat.strongRecOn generalizing k m2 s2 a2 with
   | _ kk ih2=>
    refine PL.round ?_;refine PW.e ?_;refine PW.c (fun h=> ?_) (fun h=> ?_);rotate_left
    ·have h7:k=nvM m:=ofF h;subst h7;refine PW.exit ?_;simp only[Nat.sub_self,zb9,Rr.bind_ok]at hres;refine PW.e ?_;exact PL.at [0,40,41] (hnx m2 s2 a2 hm2 hs2 ha2 hres rfl) rfl rfl
    have h7:k<nvM m:=ot h;obtain⟨n2,hn2⟩:∃ n2,nvM m - k=n2+1:=⟨nvM m - k - 1,om⟩;rw[hn2,zb9,Rr.bind_bind]at hres;have hnx2:=fun m1 s1 a1=>ih2 (nvM m - (k+1)) om (k+1) m1 s1 a1 om;rw[show nvM m - (k+1)=n2 from om]at hnx2;clear ih2;have v1:=vc m2 s2 d k a2 h6 om (by rw[hm2.1];exact hml) hs2 ha2;refine PW.skip ?_;refine PW.b ?_;refine PW.e ?_;(repeat refine PW.seq ?_);refine PW.rg rfl fun K hK=> ?_;simp(maxSteps:=3000000) (disch:=omega) only[go_sem,↓reduceIte,reduceCtorEq];refine VCx.callR v1 rfl fun v H' hR=> ?_;cases hv:zem c p n m2 s2 d k a2 with
    | er e a3=>
     rw[hv]at hR hres;obtain⟨rfl,a4,m4,s4',h1,h2,rfl⟩:=hR;rw[Rr.bind_er]at hres;have d0:((e:Int)+1 !=0)=true:=by simp;omega
     simp(maxSteps:=3000000) (disch:=omega) only[go_sem,↓reduceIte,reduceCtorEq,ecd];refine hK _ _ ?_;clear hK K;refine PW.g d0 ?_;refine PW.t ?_;refine PW.e ?_;refine PW.ret ⟨_,rfl,.inl ?_⟩;rw[←hres];exact⟨rfl,a4,m4,s4',h1,h2,rfl⟩
    | ok y a3=>obtain⟨b1,b2,b3⟩:=zqi hv ha2 hs2;rw[hv]at hR hres;obtain⟨rfl,rfl⟩:=hR;rw[Rr.bind_ok]at hres;simp(maxSteps:=3000000) (disch:=omega) only[go_sem,↓reduceIte,reduceCtorEq];refine hK _ _ ?_;clear hK K;refine PW.e ?_;refine PW.us ?_;refine PW.e ?_;exact PL.at [0,3,40,41,51,52] (hnx2 y.1 y.2 a3 (hm2.trans b2) b3 b1 hres rfl) rfl rfl
end
end Go.Proofs.YtpjlfoficnpfoaaGreatDoor.Sc
