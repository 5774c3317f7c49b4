/-
  Parts of the proof, put together in one text. No condition.
-/
import Derived.RangeFuncRecord
import Derived.RangeFuncIn
import Derived.Test.YtpjlfoficnpfoaaGreatDoorV14
open Array renaming getD_eq_getD_getElem? → qJ, getElem?_eq_some_iff → qQ, length_toList → qY
open List renaming getElem?_append_left → qA, append_nil → qB, all_eq_true → qC, getElem?_eq_some_iff → qD, set_append_left → qE, getElem?_eq_getElem → qF, take_of_length_le → qG, getElem?_set_self → qH, getElem?_set_ne → qI, length_append → qK, getElem?_append_right → qL, set_append_right → qN, take → qO, append_assoc → qP, range → qR, set_set → qS, range_eq_range' → qU, mem_of_mem_take → qV, mem_of_getElem? → qW, mem_cons_of_mem → qX
open Nat renaming add_sub_cancel_left → qM, add_zero → qT
namespace Go.Proofs.YtpjlfoficnpfoaaGreatDoor.Pm
set_option linter.all false
open Go.RowKit
variable {P:Program} {C:Ctx} {H:za} {w:World} {F:Fr} {a:Act} {N:Nat}
abbrev wFe(rd:Option Nat):Fence:={ Fence.wide with round:=rd }
section lift
variable {rd:Option Nat} {Q:Exit→Act→World→Prop}
theorem rows_in{row:String}{args:Array Value}{R:Value→World→Prop}{n:Nat}(h:Rows P row args w R):RowsIn (wFe rd) n P row args w R:=by intro c cs _;obtain⟨v,w',r,s⟩:=h c cs;exact⟨v,w',r,stepsIn_wide.2 s⟩
theorem zdX{n:Nat}:(wFe rd).depth.isSome=true→1≤n:=fun e=>by simp[Fence.wide]at e
theorem zrZ{o:Oper}{next:Act→World→Prop}:∀{r:Result Next},o.upon P a next Q r→o.uponIn (wFe rd) 0 P a next Q r
 | .ok v w,h=>by
  cases v<;>first
   | exact h
   | exact False.elim h
   | exact⟨zdX,callsIn_wide.2 h⟩
   | exact⟨zdX,rows_in h⟩
 | .halt p w,h=>by
  cases p<;>first
   | exact h
   | exact False.elim h
def zaQ(o:Oper):Bool:=match o.op with| .defer _=>false|_=>true
theorem ztU{o:Oper}{next:Act→World→Prop}(hd:zaQ o=true)(h:o.wp P a w next Q):o.wpIn (wFe rd) 0 P a w next Q:=by
 refine⟨fun _ _=>trivial,?_⟩;have e:o.semAt (wFe rd).round a.eval=execOp a.eval o:=Oper.semAt_eq _ _ _ fun c hc=>by rw[zaQ,hc]at hd;cases hd
 rw[e];exact zrZ h
theorem zsL{o:Oper}{next next':Act→World→Prop}(hn:∀ a w,next a w→next' a w)(h:o.wp P a w next Q):o.wp P a w next' Q:=by
 unfold Oper.wp at *;generalize (execOp a.eval o).run P w=r at *;cases r with
 | ok v w=>cases v<;>first
   | exact hn _ _ h
   | exact False.elim h
   | (refine Calls.mono h fun e w' he=> ?_;cases e<;>first|exact hn _ _ he|exact he)
   | exact Rows.mono h fun _ _ he=>hn _ _ he
 | halt p w=>cases p<;>first|exact h|exact False.elim h
theorem zm7{ops:Array Oper}(hd:∀ o∈ops.toList,zaQ o=true)(lo:¬ LetsOut Q):∀(l:List Oper) (k:Nat),(∀ j,j<l.length→l[j]? =ops[k+j]?)→∀(a:Act) (w:World),wpList P ops Q l a w→wpOpsIn (wFe rd) 0 P ops Q (List.range' k l.length) a w
 | [],k,_,a,w,h=>h
 | o::r,k,hj,a,w,h=>by
  have h0:ops[k]? =some o:=by have:=hj 0 sp;simpa using this.symm
  have hr:=zm7 hd lo r (k+1) fun j hl=>by have:=hj (j+1) (by simp;omega);simpa[Nat.add_assoc,Nat.add_comm 1 j]using this
  rw[List.length_cons,List.range'_succ];unfold wpOpsIn;rw[h0];unfold wpList at h;have hm:zaQ o=true:=hd o (by rw[Array.mem_toList_iff];exact Array.mem_of_getElem? h0);dsimp only;split
  ·rename_i hw;rw[if_pos hw]at h;rcases h with h|⟨_,h⟩
   ·exact ztU hm (zsL (fun a w=>hr a w) h)
   ·exact absurd h lo
  ·rename_i hw;rw[if_neg hw]at h;exact⟨fun _ _=>trivial,hr _ _ h⟩
theorem znX{id:Nat}{ops:Array Oper}(hd:ops.toList.all zaQ=true)(lo:¬ LetsOut Q)(h:wpList P ops Q ops.toList a w):(Code.region id ops false).wpIn (wFe rd) 0 P Q a w:=by refine wpIn_region ?_;rw[qU,←qY];exact zm7 (fun o ho=>qC.1 hd o ho) lo ops.toList 0 (fun j _=>by simp) a w h
end lift
def PWr(P:Program)(E:Env)(l:Nat)(c:Code)(F:Fr)(H:za)(Q:Exit→Fr→za→Prop):Prop:=HSc E.H0→∀(C:Ctx) (a:Act) (w:World),a.defers=[]→WRel C H w→FRel C E.N (slot F) a→c.wpIn (wFe (some l)) 0 P (Post E C w Q) a w
section rules
variable {E:Env} {l:Nat} {Q:Exit→Fr→za→Prop}
theorem PWr.skip(h:Q .normal F H):PWr P E l .skip F H Q:=fun hs C a w hd hw hf=>wpIn_skip ⟨C,F,H,.refl _,hd,hw,.refl _ _,hf,h⟩
theorem PWr.exit{id:Nat}(h:Q (.exit id) F H):PWr P E l (.exit id) F H Q:=fun hs C a w hd hw hf=>wpIn_exit ⟨C,F,H,.refl _,hd,hw,.refl _ _,hf,h⟩
theorem PWr.seq{x y:Code}(h:PWr P E l x F H (zgT (fun F' H'=>PWr P E l y F' H' Q) Q)):PWr P E l (.seq x y) F H Q:=fun hs C a w hd hw hf=>by
 refine wpIn_seq (wpIn_mono (h hs C a w hd hw hf) ?_);rintro e a1 w1 ⟨C1,F1,H1,q1,q2,q3,q4,q5,q6⟩;cases e with
 | normal=>exact wpIn_mono (q6 hs C1 a1 w1 q2 q3 q5) fun _ _ _ hp=>hp.trans q1 q4
 | _=>exact⟨C1,F1,H1,q1,q2,q3,q4,q5,q6⟩
theorem PWr.cond{c:Operand}{x y:Code}{t:Bool}(hc:ev (slot F) c= .bool t)(h1:t=true→PWr P E l x F H Q)(h2:t=false→PWr P E l y F H Q):PWr P E l (.cond c x y) F H Q:=fun hs C a w hd hw hf=>by have hv:=zt hf c;rw[hc]at hv;exact wpIn_cond_split (zal hv) (fun ht=>h1 ht hs C a w hd hw hf) (fun ht=>h2 ht hs C a w hd hw hf)
theorem PWr.block{id:Nat}{c:Code}(h:PWr P E l c F H (zdU id Q)):PWr P E l (.block id c) F H Q:=fun hs C a w hd hw hf=>by
 refine wpIn_block (wpIn_mono (h hs C a w hd hw hf) ?_);rintro e a1 w1 ⟨C1,F1,H1,q1,q2,q3,q4,q5,q6⟩;cases e with
 | exit id'=>
  simp only[zdU]at q6;simp only[Exit.inBlock];split
  ·rename_i he;rw[if_pos he]at q6;exact⟨C1,F1,H1,q1,q2,q3,q4,q5,q6⟩
  ·rename_i he;rw[if_neg he]at q6;exact⟨C1,F1,H1,q1,q2,q3,q4,q5,q6⟩
 | _=>exact⟨C1,F1,H1,q1,q2,q3,q4,q5,q6⟩
theorem PWr.region{id:Nat}{ops:Array Oper}(hd:ops.toList.all (zI E.N)=true)(hn:ops.toList.all zaQ=true)(lo:∀ F H,¬ Q .outgrown F H)(h:zbp P ops.toList ops.toList (fun F' H'=>Q .normal F' H') F H):PWr P E l (.region id ops false) F H Q:=fun hs C a w hdf hw hf=>by
 refine znX hn ?_ ?_
 ·rintro⟨a,w,C',F',H',_,_,_,_,_,hq⟩;exact lo _ _ hq
 have:=zbs (P:=P) (all:=ops.toList) ops.toList F H hd h C a w hdf hw hf (Post E C w Q) (fun C' F' H' a' w' p1 p2 p3 p4 p5 p6=>⟨C',F',H',p1.toN _,p2,p3,p4,p5,p6⟩);simpa using this
theorem PWr.keep{c:Code}(ks:List Nat)(h:PWr P E l c (kp ks F) H Q):PWr P E l c F H Q:=fun hs C a w hd hw hf=>h hs C a w hd hw (hf.keep ks)
end rules
theorem WRel.lpAt(h:WRel C H w){id l:Nat}{o:Obj}{k:Blk}(hk:H[id]? =some k)(hc:k.cells=[.lp l o]):C.mu[id]? =some none∧C.cp[id]? =some (l+1)∧C.B≤l∧w.heap[l]? =some o∧zmc o=false:=by
 obtain⟨m,hm⟩:∃ m,C.mu[id]? =some m:=⟨C.mu[id]'(by rw[h.len];exact(qD.1 hk).1),qF _⟩;cases m with
 | none=>
  rcases h.gho id k hk hm with h0|⟨b,es,clock,q1,q2,q3,q4,q5⟩|⟨b,r,q1,q2,q3,q4⟩
  ·rw[h0.2]at hc;cases hc
  ·have h1:0<es.size:=by rw[q4,hc];simp
   cases q5 0 (.lp l o) es[0] (by rw[hc];rfl) (Array.getElem?_eq_getElem h1)
  ·have e:=q4.1.symm.trans hc;injection e with e _;injection e with e1 e2;subst e1;subst e2;exact⟨hm,q1,q2,q3,q4.2⟩
 | some b=>obtain⟨cur,_,_,_,q6,_⟩:=h.own id k b hk hm;have:=q6 (.lp l o) (by rw[hc];simp);cases this
theorem WRel.lpAlloc(h:WRel C H w)(e v:Nat)(ob:Obj)(hcl:zmc ob=false):CLe C (C.more none (w.heap.size+1) v)∧WRel (C.more none (w.heap.size+1) v) (H++[⟨e,v,[.lp w.heap.size ob]⟩]) (w.alloc ob)∧Below C.B w (w.alloc ob):=by
 have hle:CLe C (C.more none (w.heap.size+1) v):=C.le_more _ _ _ (fun b' e=>by cases e) (h.len.trans h.lenv.symm) (h.lenc.trans h.lenv.symm);refine⟨hle,?_,(Below.refl _ _).alloc h.base _⟩;have e1:=h.len;have e2:=h.lenv;have e3:=h.lenc;refine⟨h.gl.mono hle.M,?_,?_,?_,?_,?_,?_,?_,?_,?_,?_,?_,zd4 h (fun p _ hp i hi hc=> ?_)⟩
 ·have:=h.base;simp only[Ctx.more,World.size_alloc];omega
 ·have:=h.tople;simp only[Ctx.more,World.size_alloc];omega
 ·intro b o u hu;have hb:=h.imm_lt (o:=o) hu;exact(World.cell?_alloc_lt w _ ⟨b,o,none⟩ hb).trans (h.imm b o u hu)
 ·simp[Ctx.more,e1]
 ·simp[Ctx.more,e2]
 ·simp[Ctx.more,e3]
 ·intro id k hk;simp only[Ctx.more];rcases zy hk with⟨hid,hk⟩|⟨rfl,rfl⟩
  ·rw[qA om];exact h.ver id k hk
  ·simp[←e2]
 ·intro id k hk hm;simp only[Ctx.more]at hm ⊢;rcases zy hk with⟨hid,hk⟩|⟨rfl,rfl⟩
  ·rw[qA om]at hm ⊢;exact(h.gho id k hk hm).imp_right (fun m=>m.mono hle rfl (fun b es c hp hb=>by rw[Below.heap_alloc _ _ _ (qQ.1 hb).1];exact hb))
  ·exact .inr (.inr ⟨w.heap.size,ob,by simp[←e3],h.base,heap_alloc_new w _,rfl,hcl⟩)
 ·intro id k b hk hm;simp only[Ctx.more]at hm ⊢;rcases zy hk with⟨hid,hk⟩|⟨rfl,rfl⟩
  ·rw[qA om]at hm;obtain⟨c,q3,q4,q5,q6,q7,q8⟩:=h.own id k b hk hm;exact⟨c,by rw[qA om];exact q3,q4,by rw[Below.heap_alloc _ _ _ (h.mu_lt hm)];exact q5,q6,q7,fun j x u hx hu=>(q8 j x u hx hu).mono hle⟩
  ·simp[←e1]at hm
 ·intro id b hb o;simp only[Ctx.more]at hb ⊢;rcases zy hb with⟨hid,hb1⟩|⟨rfl,hb1⟩
  ·exact h.disj id b hb1 o
  ·cases hb1
 ·intro i j b hi hj;simp only[Ctx.more]at hi hj;rcases zy hi with⟨li,hi⟩|⟨li,hi⟩<;>rcases zy hj with⟨lj,hj⟩|⟨lj,hj⟩
  ·exact h.inj i j b hi hj
  ·cases hj
  ·cases hi
  ·omega
 ·have:=h.map_lt hi hc;omega
theorem WRel.lpSet(h:WRel C H w){id l:Nat}{o:Obj}{k:Blk}(hk:H[id]? =some k)(hc:k.cells=[.lp l o])(o':Obj)(hcl:zmc o'=false):
  WRel C (H.set id ⟨k.e,k.ver,[.lp l o']⟩) (w.putObj l o')∧Below C.B w (w.putObj l o'):=by
 obtain⟨hm,hp,hB,hb,hcl0⟩:=h.lpAt hk hc;have hid:id<H.length:=(qD.1 hk).1;have hbl:l<w.heap.size:=(qQ.1 hb).1;have e1:=h.len;have e2:=h.lenv;have e3:=h.lenc;have oth:∀ b',b'≠l→(w.heap.setIfInBounds l o')[b']? =w.heap[b']? :=fun b' hne=>by rw[Array.getElem?_setIfInBounds_ne om]
 refine⟨⟨h.gl,?_,?_,?_,?_,?_,?_,?_,?_,?_,h.disj,h.inj,h.minj⟩,rfl,rfl,rfl,by simp,fun i hi=>oth i om⟩
 ·have:=h.base;simpa using this
 ·have:=h.tople;simpa using this
 ·intro b' o2 u hu;have hcu:=h.imm b' o2 u hu;have hne:b'≠l:=by rintro rfl;cases o<;>first|(simp[World.cell?,hb]at hcu;done)|(simp[zmc]at hcl0;done)
  simp only[World.cell?,World.putObj]at hcu ⊢;rw[oth b' hne];exact hcu
 ·simp[e1]
 ·simp[e2]
 ·simp[e3]
 ·intro i k' hk';by_cases hi:i=id
  ·subst hi;simp[hid]at hk';subst hk';exact h.ver i k hk
  ·rw[qI om]at hk';exact h.ver i k' hk'
 ·intro i k' hk' hm';by_cases hi:i=id
  ·subst hi;simp[hid]at hk';subst hk';exact .inr (.inr ⟨l,o',hp,hB,World.putObj_heap_same hbl,rfl,hcl⟩)
  ·rw[qI om]at hk';exact(h.gho i k' hk' hm').imp_right (fun m=>m.mono (.refl _) rfl (fun b2 es2 c2 hp2 hb2=>by
    have hne:b2≠l:=by rintro rfl;exact hi (h.minj i id b2 hm' hm hp2 hp)
    exact(oth b2 hne).trans hb2))
 ·intro i k' b' hk' hm';by_cases hi:i=id
  ·subst hi;rw[hm]at hm';cases hm'
  ·rw[qI om]at hk';obtain⟨c,q3,q4,q5,q6,q7,q8⟩:=h.own i k' b' hk' hm';have hne:b'≠l:=by rintro rfl;rw[hb]at q5;injection q5 with q5;subst q5;simp[zmc]at hcl0
   exact⟨c,q3,q4,(oth b' hne).trans q5,q6,q7,q8⟩
def YldOk(P:Program)(y:PV)(args:List PV)(H:za)(v:PV)(H':za):Prop:=
 ∀(C:Ctx) (q:Value) (us:List Value) (w:World),WRel C H w→VRel C y q→VRels C args us→∃ l fn tmps assign body,q= .func (.yield l) #[] #[]∧(Instr.yield l us.toArray).run P w= .ok (.round l fn tmps assign body) w∧
  RoundIn Fence.wide 0 P l fn tmps assign body w fun e w'=>∃ C' u,CLe C C'∧WRel C' H' w'∧Below C.B w w'∧e= .returned u∧VRel C' v u
def zgj(rd:Option Nat)(P:Program)(ops:Array Oper)(Q:Exit→Act→World→Prop):List Oper→Act→World→Prop
 | [],a,w=>Q .normal a w
 | o::r,a,w=>if Region.wanted o (yielded ops a.tmps)then o.wpIn (wFe rd) 0 P a w (zgj rd P ops Q r) Q else zgj rd P ops Q r (a.put o.dst undef) w
theorem zrP{rd:Option Nat}{ops:Array Oper}{Q:Exit→Act→World→Prop}:∀(l:List Oper) (k:Nat),(∀ j,j<l.length→l[j]? =ops[k+j]?)→∀(a:Act) (w:World),zgj rd P ops Q l a w→wpOpsIn (wFe rd) 0 P ops Q (List.range' k l.length) a w
 | [],k,_,a,w,h=>h
 | o::r,k,hj,a,w,h=>by
  have h0:ops[k]? =some o:=by have:=hj 0 sp;simpa using this.symm
  have hr:=zrP (rd:=rd) (Q:=Q) r (k+1) fun j hl=>by have:=hj (j+1) (by simp;omega);simpa[Nat.add_assoc,Nat.add_comm 1 j]using this
  rw[List.length_cons,List.range'_succ];unfold wpOpsIn;rw[h0];unfold zgj at h;dsimp only;split
  ·rename_i hw;rw[if_pos hw]at h;have e:zgj rd P ops Q r=zgj rd P ops Q r:=rfl;refine⟨h.1,?_⟩;have h2:=h.2;revert h2;generalize (o.semAt (wFe rd).round a.eval).run P w=res;intro h2;cases res with
   | ok v w=>cases v<;>first
     | exact hr _ _ h2
     | exact False.elim h2
     | exact⟨h2.1,h2.2.mono fun e w' he=>by cases e<;>first|exact hr _ _ he|exact he⟩
     | exact⟨h2.1,h2.2.mono fun _ _ he=>hr _ _ he⟩
   | halt p w=>cases p<;>first|exact h2|exact False.elim h2
  ·rename_i hw;rw[if_neg hw]at h;exact⟨fun _ _=>trivial,hr _ _ h⟩
theorem zj3{rd:Option Nat}{all:List Oper}{K:Fr→za→Prop}{D:List Deferred}{rest:List Oper}:∀(l:List Oper) (F:Fr) (H:za),l.all (zI N)=true→l.all zaQ=true→zbp P all l K F H→∀(C:Ctx) (a:Act) (w:World),a.defers=D→WRel C H w→FRel C N (slot F) a→
  ∀ Q:Exit→Act→World→Prop,(∀ C' F' H' a' w',CLe C C'→a'.defers=D→WRel C' H' w'→Below C.B w w'→FRel C' N (slot F') a'→K F' H'→zgj rd P all.toArray Q rest a' w')→zgj rd P all.toArray Q (l++rest) a w
 | [],F,H,_,_,h,C,a,w,hd,hw,hf,Q,hQ=>hQ C F H a w (.refl _) hd hw (.refl _ _) hf h
 | o::r,F,H,hall,hnd,h,C,a,w,hd,hw,hf,Q,hQ=>by
  simp only[List.all_cons,Bool.and_eq_true]at hall hnd;simp only[zbp]at h;rw[List.cons_append];split at h
  ·rename_i b hb;have hwant:=zJ hf hb;unfold zgj;cases b with
   | true=>
    rw[if_pos hwant];have h1:=h.1 rfl;have step:∀ R,zcp P o (slot F) H R→(∀ v H',R v H'→zbp P all r K (put F o.dst v) H')→o.wpIn (wFe rd) 0 P a w (zgj rd P all.toArray Q (r++rest)) Q:=fun R he hr=>by refine ztU hnd.1 (zbL hall.1 hw hf he _ _ fun C' u w' v H' q0 q1 q2 q3 q4=> ?_);rw[←zU]at q4;refine zj3 (D:=D) (rest:=rest) r _ _ hall.2 hnd.2 (hr v H' q0) C' _ w' (by cases ho:o.dst<;>simp[Act.put,hd]) q2 q4 Q ?_;intro C'' F'' H'' a'' w'' p1 p2 p3 p4 p5 p6;exact hQ C'' F'' H'' a'' w'' (q1.trans p1) p2 p3 (q3.trans (by rw[←q1.B];exact p4)) p5 p6
    split at h1
    ·rename_i g args hc;obtain⟨R,hcall,hr⟩:=h1;exact step R (by unfold zcp;rw[hc];exact hcall) hr
    ·rename_i hc;split at h1
     ·rename_i v H' hp;exact step (fun v' H''=>v'=v∧H''=H') (by unfold zcp;rw[hc];exact⟨v,H',hp,rfl,rfl⟩) (fun v' H'' e=>by rw[e.1,e.2];exact h1)
     ·exact h1.elim
   | false=>rw[if_neg (by rw[hwant];simp)];have h2:=h.2 rfl;have q4:=hf.put o.dst (zay hall.1) (VRel.undefV (C:=C));rw[←zU]at q4;exact zj3 (D:=D) (rest:=rest) r _ _ hall.2 hnd.2 h2 C _ w (by cases ho:o.dst<;>simp[Act.put,hd]) hw q4 Q hQ
  ·exact h.elim
theorem ziJ{rd:Option Nat}{id:Nat}{ops:Array Oper}{Q:Exit→Act→World→Prop}(h:zgj rd P ops Q ops.toList a w):(Code.region id ops false).wpIn (wFe rd) 0 P Q a w:=by refine wpIn_region ?_;rw[qU,←qY];exact zrP ops.toList 0 (fun j _=>by simp) a w h
theorem znB{rd:Option Nat}{o:Oper}{x:Operand}{xs:Array Operand}{ts:Array TypeId}{v:PV}{H':za}(hd:zI N o=true)(hw:WRel C H w)(hf:FRel C N (slot F) a)(ho:o.op= .call ⟨.value x,xs,ts⟩)
  (h:YldOk P (ev (slot F) x) (xs.toList.map (ev (slot F))) H v H') (next:Act→World→Prop) (Q:Exit→Act→World→Prop)
  (hn:∀ C' u w',CLe C C'→WRel C' H' w'→Below C.B w w'→FRel C' N (slot (put F o.dst v)) (a.put o.dst u)→next (a.put o.dst u) w'):o.wpIn (wFe rd) 0 P a w next Q:=by
 obtain⟨hal,har⟩:=zea hf xs.toList;obtain⟨l,fn,tmps,assign,body,e1,e2,e3⟩:=h C _ _ w hw (zt hf x) ⟨hal,har⟩;refine⟨fun _ _=>trivial,?_⟩;have es:o.semAt (wFe rd).round a.eval=execOp a.eval o:=Oper.semAt_eq _ _ _ fun c hc=>by rw[ho]at hc;cases hc
 have ea:(#[]:Array Value)++xs.map a.eval=(xs.toList.map a.eval).toArray:=by apply Array.ext';simp
 have hrun:(execOp a.eval o).run P w= .ok (.round l fn tmps assign body) w:=by simp only[execOp,ho,resolve,e1,Deferred.ofValue,invoke,Sem.run_bind,Sem.run_pure,Result.andThen_ok,ea,e2]
 rw[es,hrun,Oper.uponIn_round];refine⟨zdX,?_⟩;have e3':RoundIn (wFe rd) 0 P l fn tmps assign body w _:=e3;refine e3'.mono ?_;rintro e w' ⟨C',u,q1,q2,q3,rfl,q5⟩;refine hn C' u w' q1 q2 q3 ?_;rw[zU];exact(hf.mono q1).put _ (zay hd) q5
section rules
variable {E:Env} {Q:Exit→Fr→za→Prop}
theorem PW.region_y{id:Nat}{ops:Array Oper}(n:Nat)(hd:ops.toList.all (zI E.N)=true)(hnd:ops.toList.all zaQ=true)
  (h:zbp P ops.toList (ops.toList.take n) (fun F' H'=>∃ o r x xs ts v H'',ops.toList.drop n=o::r∧zbi ops.toList (slot F') o=some true∧o.op= .call ⟨.value x,xs,ts⟩∧YldOk P (ev (slot F') x) (xs.toList.map (ev (slot F'))) H' v H''∧zbp P ops.toList r (fun F2 H2=>Q .normal F2 H2) (put F' o.dst v) H'') F H):
  PW P E (.region id ops false) F H Q:=fun hs C a w hdf hw hf=>by
 refine(wpIn_wide (n:=0)).1 (ziJ (rd:=none) ?_);have hdt:(ops.toList.take n).all (zI E.N)=true:=qC.2 fun o ho=>qC.1 hd o (qV ho);have hnt:(ops.toList.take n).all zaQ=true:=qC.2 fun o ho=>qC.1 hnd o (qV ho);have:=zj3 (rd:=none) (P:=P) (all:=ops.toList) (rest:=ops.toList.drop n) (ops.toList.take n) F H hdt hnt h C a w hdf hw hf (Post E C w Q) (fun C' F' H' a' w' p1 p2 p3 p4 p5 p6=>by
  obtain⟨o,r,x,xs,ts,v,H'',e1,e2,e3,e4,e5⟩:=p6;have mem:∀ o'∈o::r,o'∈ops.toList:=fun o' ho=>List.mem_of_mem_drop (by rw[e1];exact ho);rw[e1];unfold zgj;rw[if_pos (zJ p5 e2)];refine znB (qC.1 hd o (mem o List.mem_cons_self)) p3 p5 e3 e4 _ _ fun C2 u w2 g1 g2 g3 g4=> ?_;have hr1:r.all (zI E.N)=true:=qC.2 fun o' ho=>qC.1 hd o' (mem o' (qX _ ho));have hr2:r.all zaQ=true:=qC.2 fun o' ho=>qC.1 hnd o' (mem o' (qX _ ho));have:=zj3 (rd:=none) (P:=P) (all:=ops.toList) (rest:=[]) r _ _ hr1 hr2 e5 C2 _ w2 (by cases ho:o.dst<;>simp[Act.put,p2]) g2 g4 (Post E C w Q) (fun C3 F3 H3 a3 w3 t1 t2 t3 t4 t5 t6=>
   ⟨C3,F3,H3,((p1.trans g1).trans t1).toN _,t2,t3,(p4.trans (by rw[←p1.B];exact g3)).trans (by rw[←p1.B,←g1.B];exact t4),t5,t6⟩)
  rwa[qB]at this)
 rw[List.take_append_drop]at this;simpa using this
end rules
def zlI(H:za)(H':za)(id:Nat)(e ver l:Nat)(r:Loop):Exit→Fr→za→Prop
 | .normal,_,H2=>H2[id]? =some ⟨e,ver,[.lp l (.loop { r with state:=.busy })]⟩∧Fin H (.bool true) H' (.bool true) (H2.set id ⟨e,ver,[.lp l (.loop r)]⟩)
 | _,_,_=>False
def zjQ(P:Program)(E:Env)(Q:Exit→Fr→za→Prop)(id:Nat)(e ver l:Nat)(r:Loop):Exit→Fr→za→Prop
 | .normal,F1,H1=>H1[id]? =some ⟨e,ver,[.lp l (.loop r)]⟩∧PWr P E l r.body F1 (H1.set id ⟨e,ver,[.lp l (.loop { r with state:=.busy })]⟩) Q
 | _,_,_=>False
theorem znc{v v':PV}{Hout:za}{C1:Ctx}{u:Value}(hw:WRel C H w)(hle:CLe C C1){H':za}{w':World}(hw':WRel C1 H' w')(hB:Below C.B w w')(hv:VRel C1 v' u)(h:Fin H v Hout v' H'):
  ∃ C2,CLe C C2∧WRel C2 Hout w'∧VRel C2 v u:=by
 rcases h with⟨rfl,rfl⟩|⟨K,d,rfl,rfl,hfz⟩|h
 ·exact⟨C1,hle,hw',hv⟩
 ·obtain⟨g1,g2⟩:=WRel.give hw hle hw';exact⟨_,g1,g2,zd9 hw' _ d _ _ _ hv hfz⟩
 ·obtain⟨hlen,hc,hfz⟩:=h hw.hsc;obtain⟨g1,g2⟩:=hw'.cutN hc;exact⟨_,((hle.toN H.length).trans (g1.less hlen)).full hw.lenv,g2,hfz.sound hw' hv⟩
theorem YldOk.intro{l id e ver:Nat}{us:List Value}{fs:List PV}{r:Loop}{p:Nat}{x:PV}{G:Fr}{H':za}(hr1:r.tmps=us.toArray)(hr2:r.state= .ready)(hr3:r.pending=none)(hps:r.params= #[p])(hp:p<us.length)
  (hG:∀ t,slot G t= .undef∨(t<us.length∧fs[t]? =some (slot G t))) (hid:H[id]? =some ⟨e,ver,[.lp l (.loop r)]⟩)
  (h:PWr P ⟨us.length,H⟩ l r.assign ((p,x)::G) H (zjQ P ⟨us.length,H⟩ (zlI H H' id e ver l r) id e ver l r)):YldOk P (.yl l us fs) [x] H (.bool true) H':=by
 intro C q args w hw hy hargs;cases hy with
 | yl hl hR=>
 obtain⟨u,rfl⟩:∃ u,args=[u]:=by
  match args,hargs.1 with
  | [u],_=>exact⟨u,rfl⟩
 have hx:VRel C x u:=hargs.2 0 x u rfl rfl;obtain⟨m1,m2,m3,m4,m5⟩:=hw.lpAt hid rfl;refine⟨l,r.fn,r.tmps.setIfInBounds p u,r.assign,r.body,rfl,?_,?_⟩
 ·rw[run_yield m4 (by rw[hps];rfl),hps];simp
 have hfr0:FRel C us.length (slot G) { tmps:=r.tmps,defers:=[] }:=by
  refine⟨by simp[hr1],fun t=> ?_⟩;rcases hG t with h0|⟨h1,h2⟩
  ·rw[h0];exact .undef _
  ·have h3:t<fs.length:=(qD.1 h2).1;have e3:us[t]? =some (r.tmps.getD t Go.undef):=by rw[hr1,qJ,List.getElem?_toArray,qF h1];rfl
   exact hR t _ _ h2 e3
 have hfr:FRel C us.length (slot ((p,x)::G)) { tmps:=r.tmps.setIfInBounds p u,defers:=[] }:=by have:=hfr0.put (some p) (fun t ht=>by cases ht;exact hp) hx;rw[←zU]at this;exact this
 have lo:∀{e1:Exit} {F1:Fr} {H1:za},zjQ P ⟨us.length,H⟩ (zlI H H' id e ver l r) id e ver l r e1 F1 H1→e1= .normal:=fun{e1 _ _} hq=>by cases e1<;>first|rfl|exact hq.elim
 refine roundIn_of_wpIn trivial (wpIn_mono (h hw.hsc C _ w rfl hw hfr) ?_);rintro e1 a1 w1 ⟨C1,F1,H1,q1,q2,q3,q4,q5,q6⟩;cases lo q6;obtain⟨k1,k2⟩:=q6;obtain⟨n1,n2,n3,n4,n5⟩:=q3.lpAt k1 rfl;obtain⟨s1,s2⟩:=q3.lpSet k1 rfl (.loop { r with state:=.busy }) rfl;refine⟨_,run_beginRound n4 hr2,?_⟩;refine wpIn_mono (k2 hw.hsc C1 a1 _ q2 s1 q5) ?_;rintro e2 a2 w2 ⟨C2,F2,H2,t1,t2,t3,t4,t5,t6⟩;have:e2= .normal:=by cases e2<;>first|rfl|exact t6.elim
 subst this;obtain⟨j1,j2⟩:=t6;obtain⟨o1,o2,o3,o4,o5⟩:=t3.lpAt j1 rfl;have er:({ r with state:=(if(none:Option Code).isNone then LoopState.ready else .done),pending:=none }:Loop)=r:=by cases r;simp only at hr2 hr3;subst hr2;subst hr3;rfl
 obtain⟨v1,v2⟩:=t3.lpSet j1 rfl (.loop r) rfl;refine⟨.bool true,w2.putObj l (.loop r),?_,?_⟩
 ·have:=run_endRound (P:=P) none o4;simp only[Option.isNone_none,if_true]at this ⊢;rw[this];have e4:({ state:=.ready,pending:=none,fn:=r.fn,tmps:=r.tmps,params:=r.params,assign:=r.assign,body:=r.body,defers:=r.defers }:Loop)=r:=by cases r;simp only at hr2 hr3;subst hr2;subst hr3;rfl
  simp only[e4]
 have b1:C1.B=C.B:=q1.B;have b2:C2.B=C.B:=t1.B.trans b1;have hB:Below C.B w (w2.putObj l (.loop r)):=((q4.trans (by rw[←b1];exact s2)).trans (by rw[←b1];exact t4)).trans (by rw[←b2];exact v2);have hle:CLe C C2:=(q1.trans t1).full hw.lenv;obtain⟨C3,g1,g2,g3⟩:=znc hw hle v1 hB (VRel.bool true) j2;exact⟨C3,_,g1,g2,hB,rfl,g3⟩
def PostM(E:Env)(C:Ctx)(w:World)(Q:Exit→List Deferred→Fr→za→Prop):Exit→Act→World→Prop:=fun e a' w'=>∃ C' F' H',CLeN E.H0.length C C'∧WRel C' H' w'∧Below C.B w w'∧FRel C' E.N (slot F') a'∧Q e a'.defers F' H'
def PWM(P:Program)(E:Env)(c:Code)(D:List Deferred)(F:Fr)(H:za)(Q:Exit→List Deferred→Fr→za→Prop):Prop:=HSc E.H0→∀(C:Ctx) (a:Act) (w:World),a.defers=D→WRel C H w→FRel C E.N (slot F) a→c.wpIn Fence.wide 0 P (PostM E C w Q) a w
def zwo(K:List Deferred→Fr→za→Prop)(Q:Exit→List Deferred→Fr→za→Prop):Exit→List Deferred→Fr→za→Prop
 | .normal,D,F,H=>K D F H
 | e,D,F,H=>Q e D F H
def zru(id:Nat)(Q:Exit→List Deferred→Fr→za→Prop):Exit→List Deferred→Fr→za→Prop
 | .exit id',D,F,H=>if id'=id then Q .normal D F H else Q (.exit id') D F H
 | e,D,F,H=>Q e D F H
section rules
variable {E:Env} {D:List Deferred} {Q:Exit→List Deferred→Fr→za→Prop}
theorem PostM.trans{C C1:Ctx}{w w1:World}(h1:CLeN E.H0.length C C1)(h2:Below C.B w w1){e:Exit}{a':Act}{w':World}(h:PostM E C1 w1 Q e a' w'):PostM E C w Q e a' w':=by obtain⟨C',F',H',q1,q3,q4,q5,q6⟩:=h;exact⟨C',F',H',h1.trans q1,q3,h2.trans (by rw[←h1.B];exact q4),q5,q6⟩
theorem PWM.ret(h:Q .ret D F H):PWM P E .ret D F H Q:=fun hs C a w hd hw hf=>wpIn_ret ⟨C,F,H,.refl _,hw,.refl _ _,hf,hd.symm▸h⟩
theorem PWM.seq{x y:Code}(h:PWM P E x D F H (zwo (fun D' F' H'=>PWM P E y D' F' H' Q) Q)):PWM P E (.seq x y) D F H Q:=fun hs C a w hd hw hf=>by
 refine wpIn_seq (wpIn_mono (h hs C a w hd hw hf) ?_);rintro e a1 w1 ⟨C1,F1,H1,q1,q3,q4,q5,q6⟩;cases e with
 | normal=>exact wpIn_mono (q6 hs C1 a1 w1 rfl q3 q5) fun _ _ _ hp=>hp.trans q1 q4
 | _=>exact⟨C1,F1,H1,q1,q3,q4,q5,q6⟩
theorem PWM.block{id:Nat}{c:Code}(h:PWM P E c D F H (zru id Q)):PWM P E (.block id c) D F H Q:=fun hs C a w hd hw hf=>by
 refine wpIn_block (wpIn_mono (h hs C a w hd hw hf) ?_);rintro e a1 w1 ⟨C1,F1,H1,q1,q3,q4,q5,q6⟩;cases e with
 | exit id'=>
  simp only[zru]at q6;simp only[Exit.inBlock];split
  ·rename_i he;rw[if_pos he]at q6;exact⟨C1,F1,H1,q1,q3,q4,q5,q6⟩
  ·rename_i he;rw[if_neg he]at q6;exact⟨C1,F1,H1,q1,q3,q4,q5,q6⟩
 | _=>exact⟨C1,F1,H1,q1,q3,q4,q5,q6⟩
theorem PWM.region{id:Nat}{ops:Array Oper}(hd:ops.toList.all (zI E.N)=true)(hnd:ops.toList.all zaQ=true)(h:zbp P ops.toList ops.toList (fun F' H'=>Q .normal D F' H') F H):PWM P E (.region id ops false) D F H Q:=fun hs C a w hdf hw hf=>by refine ziJ (rd:=none) ?_;have:=zj3 (rd:=none) (P:=P) (all:=ops.toList) (rest:=[]) ops.toList F H hd hnd h C a w hdf hw hf (PostM E C w Q) (fun C' F' H' a' w' p1 p2 p3 p4 p5 p6=>⟨C',F',H',p1.toN _,p3,p4,p5,p2.symm▸p6⟩);rw[qB]at this;simpa using this
theorem PWM.keep{c:Code}(ks:List Nat)(h:PWM P E c D (kp ks F) H Q):PWM P E c D F H Q:=fun hs C a w hd hw hf=>h hs C a w hd hw (hf.keep ks)
def zfC(fn:FuncId)(us:List Value)(ps:Array Tmp)(assign body:Code)(d:Nat):Loop:={ state:=.ready,pending:=none,fn,tmps:=us.toArray,params:=ps,assign,body,defers:=d }
def lpB(fn:FuncId)(us:List Value)(ps:Array Tmp)(assign body:Code)(d:Nat):za:=[⟨0,0,[.lp d (.deferred (some []))]⟩,⟨0,0,[.lp (d+1) (.loop (zfC fn us ps assign body d))]⟩]
theorem PWM.range{g:Operand}{ps:Array Tmp}{assign body:Code}{f:FuncId}{first captured:List PV}(hg:ev (slot F) g= .func f first captured)
  (h:∀(fn:FuncId) (us:List Value) (d:Nat),us.length=E.N→∃ v K,CallOk P f (first++[.yl (d+1) us ((qR E.N).map (slot F))]++captured) (H++lpB fn us ps assign body d) v K∧
   K[H.length]? =some ⟨0,0,[.lp d (.deferred (some []))]⟩∧K[H.length+1]? =some ⟨0,0,[.lp (d+1) (.loop (zfC fn us ps assign body d))]⟩∧
   ∀ o,Q .normal [{ target:=.collected d,args:= #[] }] F (K.set (H.length+1) ⟨0,0,[.lp (d+1) o]⟩)):
  PWM P E (.rangeFunc g ps assign body) [] F H Q:=fun hs C a w hd hw hf=>by
 refine wpIn_rangeFunc fun fn _=> ?_;obtain⟨v,K,hcall,k1,k2,hq⟩:=h fn a.tmps.toList w.heap.size (by simpa using hf.1);have hv:=zt hf g;rw[hg]at hv;obtain⟨us,ws,hl,hl',hR,hR',he⟩:∃ us ws,us.length=first.length∧ws.length=captured.length∧Rel C first us∧Rel C captured ws∧a.eval g= .func (.func f) us.toArray ws.toArray:=by
  generalize a.eval g=q at hv;cases hv with
  | func hl hl' hR hR'=>exact⟨_,_,hl,hl',hR,hR',rfl⟩
 have er:zfC fn a.tmps.toList ps assign body w.heap.size={ state:=.ready,pending:=none,fn,tmps:=a.tmps,params:=ps,assign,body,defers:=w.heap.size }:=by simp[zfC]
 obtain⟨a1,a2,a3⟩:=hw.lpAlloc 0 0 (.deferred (some [])) rfl;obtain⟨C2,hle,b2,t1⟩:∃ C2,CLe C C2∧WRel C2 (H++lpB fn a.tmps.toList ps assign body w.heap.size) ((w.alloc (.deferred (some []))).alloc (.loop (zfC fn a.tmps.toList ps assign body w.heap.size)))∧Below C.B w ((w.alloc (.deferred (some []))).alloc (.loop (zfC fn a.tmps.toList ps assign body w.heap.size))):=by obtain⟨b1,b2,b3⟩:=a2.lpAlloc 0 0 (.loop (zfC fn a.tmps.toList ps assign body w.heap.size)) rfl;rw[World.size_alloc]at b1 b2;rw[qP]at b2;exact⟨_,a1.trans b1,b2,a3.trans b3⟩
 have hent:=run_enterLoop_outer (P:=P) (w:=w) fn a.tmps ps assign body;rw[←er]at hent;generalize (w.alloc (.deferred (some []))).alloc (.loop (zfC fn a.tmps.toList ps assign body w.heap.size))=W at *;refine⟨w.heap.size+1,[{ target:=.collected w.heap.size,args:= #[] }],W,{ target:=.fn (.func f) ws.toArray,args:=us.toArray++ #[Value.func (.yield (w.heap.size+1)) #[] #[]] },W,f,(us++[Value.func (.yield (w.heap.size+1)) #[] #[]]++ws).toArray,W,hent,?_,fun _ _=>trivial,?_,zdX,?_⟩
 ·simp only[resolve,he,Deferred.ofValue,Sem.run_bind,Sem.run_pure,Result.andThen_ok];simp[Act.eval]
 ·simp only[invoke];rw[show us.toArray++ #[Value.func (.yield (w.heap.size+1)) #[] #[]]++ws.toArray=(us++[Value.func (.yield (w.heap.size+1)) #[] #[]]++ws).toArray by apply Array.ext';simp];exact zcX hcall.1
 refine callsIn_wide.2 ?_;have hyl:VRel C (.yl (w.heap.size+1) a.tmps.toList ((qR E.N).map (slot F))) (.func (.yield (w.heap.size+1)) #[] #[]):=by
  refine .yl (by simpa using hf.1) fun j x u hx hu=> ?_;have hj:j<E.N:=by have:=(qD.1 hx).1;simpa using this
  have e1:x=slot F j:=by simpa[hj]using hx.symm
  have e2:u=a.tmps.getD j Go.undef:=by rw[qJ,←Array.getElem?_toList,hu];rfl
  rw[e1,e2];exact hf.2 j
 have hargs:VRels C2 (first++[.yl (w.heap.size+1) a.tmps.toList ((qR E.N).map (slot F))]++captured) (us++[Value.func (.yield (w.heap.size+1)) #[] #[]]++ws):=by
  refine⟨by simp[hl,hl'],?_⟩;have r1:Rel C2 first us:=fun j x u hx hu=>(hR j x u hx hu).mono hle
  have r2:Rel C2 captured ws:=fun j x u hx hu=>(hR' j x u hx hu).mono hle;have r3:Rel C2 [.yl (w.heap.size+1) a.tmps.toList ((qR E.N).map (slot F))] [Value.func (.yield (w.heap.size+1)) #[] #[]]:=fun j x u hx hu=>by
   cases j with
   | zero=>cases hx;cases hu;exact hyl.mono hle
   | succ j=>simp at hx
  exact Rel.append (by simp[hl]) (Rel.append hl r1 r3) r2
 refine(hcall.2 C2 _ _ b2 hargs).mono ?_;rintro e w3 ⟨C3,u,q1,q2,q3,rfl,q5⟩;obtain⟨n1,n2,n3,n4,n5⟩:=q2.lpAt k2 rfl;obtain⟨s1,s2⟩:=q2.lpSet k2 rfl (.loop { zfC fn a.tmps.toList ps assign body w.heap.size with state:=.exhausted }) rfl;refine⟨none,_,run_endLoop n4 (by simp[zfC]),?_⟩;have hB2:C2.B=C.B:=hle.B;have hB3:C3.B=C.B:=q1.B.trans hB2;refine⟨C3,F,_,(hle.trans q1).toN _,s1,?_,(hf.mono (hle.trans q1)),?_⟩
 ·exact(t1.trans (by rw[←hB2];exact q3)).trans (by rw[←hB3];exact s2)
 ·rw[show({ tmps:=a.tmps,defers:=[{ target:=.collected w.heap.size,args:= #[] }]++a.defers }:Act).defers=[{ target:=.collected w.heap.size,args:= #[] }] by simp[hd]];exact hq _
def retM(P:Program)(rs:List ResultVar)(H:za)(v:PV)(Hout:za):Exit→List Deferred→Fr→za→Prop
 | .ret,D,F,H'=>∃ d id v',D=[{ target:=.collected d,args:= #[] }]∧H'[id]? =some ⟨0,0,[.lp d (.deferred (some []))]⟩∧zr P rs (slot F) (H'.set id ⟨0,0,[.lp d (.deferred none)]⟩)=some v'∧Fin H v Hout v' (H'.set id ⟨0,0,[.lp d (.deferred none)]⟩)
 | _,_,_,_=>False
theorem CallOk.bodyM{f:FuncId}{fn:Func}{c:Code}{rs:Array ResultVar}{F0:Fr}{args:List PV}{v:PV}{Hout:za}(hf:P.funcs[f]? =some fn)(hb:fn.body=some c)(hN:fn.ntmps=N)(hrs:fn.results=rs)(hF:zbM args 0=F0)
  (hcall:zaz P f=true) (hn:Nat.ble args.length N=true) (h:PWM P ⟨N,H⟩ c [] F0 H (retM P rs.toList H v Hout)):CallOk P f args H v Hout:=by
 subst hN hrs hF;have hn':=Nat.le_of_ble_eq_true hn;refine⟨hcall,fun C us w hw hargs=>callsIn_wide (n:=0).1 (callsIn_of_wp_marks hf hb trivial ?_)⟩;have hfr:FRel C fn.ntmps (slot (zbM args 0)) { tmps:=us.toArray++Array.replicate (fn.ntmps - us.toArray.size) Go.undef,defers:=[] }:=by
  refine⟨by simp[hargs.1];omega,fun t=> ?_⟩;rw[zcJ];simp only[Nat.zero_le,if_true,Nat.sub_zero];by_cases ht:t<args.length
  ·have htu:t<us.length:=by rw[hargs.1];exact ht
   have e1:args.getD t .undef=args[t]:=by simp[List.getD,ht]
   have e2:(us.toArray++Array.replicate (fn.ntmps - us.toArray.size) Go.undef).getD t Go.undef=us[t]:=by rw[qJ,Array.getElem?_append_left (by simpa using htu)];simp[htu]
   rw[e1,e2];exact hargs.2 t _ _ (qF ht) (qF htu)
  ·have e1:args.getD t .undef= .undef:=by simp[List.getD,List.getElem?_eq_none (by omega:args.length≤t)]
   rw[e1];exact .undef _
 refine wpIn_mono (h hw.hsc C _ w rfl hw hfr) ?_;rintro e a' w' ⟨C',F',H',q1,q3,q4,q5,q6⟩;have:e= .ret:=by cases e<;>first|rfl|exact q6.elim
 subst this;obtain⟨d,id,v',hD,hid,hv',hfin⟩:=q6;obtain⟨m1,m2,m3,m4,m5⟩:=q3.lpAt hid rfl;obtain⟨s1,s2⟩:=q3.lpSet hid rfl (.deferred none) rfl;show LeavesInM Fence.wide 0 P fn a'.tmps _ a'.defers .returning w';rw[hD];refine⟨by simp,.inl ⟨d,_,rfl,run_takeDeferred m4,?_⟩⟩;obtain⟨u,hu,hr⟩:=zbk s1 q5 hv';have hB:Below C.B w (w'.putObj d (.deferred none)):=q4.trans (by rw[←q1.B];exact s2);obtain⟨C3,g1,g2,g3⟩:=znc hw (q1.full hw.lenv) s1 hB hu hfin;exact⟨u,hr,C3,u,g1,g2,hB,rfl,g3⟩
end rules
end Go.Proofs.YtpjlfoficnpfoaaGreatDoor.Pm
namespace Go.Proofs.YtpjlfoficnpfoaaGreatDoor.Sc
set_option linter.all false
open Pm Ty Go.RowKit
theorem ztX(s t:Sq)(hs:SqL s)(ht:SqL t):zji Tryz.prog .neq 29 (.agg (sqc s)) (.agg (sqc t))=some (.bool (!sqE s t)):=by
 have e:∀ x y,zji Tryz.prog .neq 29 x y=match zc4 Tryz.prog 12 29 x y with|some b=>peq .neq b|none=>none:=fun x y=>by kernel_rfl
 rw[e,zsF,zmX _ _ _ _ _ _ (zsh _ _ _ _ _ _ _ _ (zwK s hs) (zwK t ht) (eqU _ _ hs.ia ht.ia) (zwJ s hs) (zwJ t ht) (eqU _ _ hs.ie ht.ie)) (zuP Tryz.prog) (sqA s t) (sq6 ..)];rfl
theorem ztq(a:As)(s:Sq)(ha:SqL a.sq):(zbh a).drop 135=[.bool a.kn,.int .i64 a.op,.bool a.rs,.int .i64 a.lk]:=List.drop_left' (zB _ ha)
set_option maxHeartbeats 4000000 in
set_option maxRecDepth 100000 in
theorem zsZ(L:List It)(fl:Bool)(k:Nat)(hk:k<L.length)(hL:∀ x∈L,SqOk x.s)(a:As)(i:Nat)(H:za)(hi:H[i]? =some (asB a))(ha:SqOk a.sq)(hop:OpR L a.op):
  CallOk Tryz.prog 104 [.ptr i 0 0,.slice (itL L) L.length fl,.int .i64 (k:Int)] H (fmO (a.item L k L[k]).2) (H.set i (asB (a.item L k L[k]).1)):=by
 have hil:i<H.length:=(qD.1 hi).1;have ha':=ha.toL;have hi':∀ K,(H++K)[i]? =some (asB a):=fun K=>by rw[qA hil];exact hi
 have pc:=fun K=>zry L fl k hk hL a i (H++K) (hi' K) ha hop;have ln:=zak L hL;have hx:=hL _ (List.getElem_mem hk);have ik:=zR L hL k 0 hk om;have is:qO 135 (List.drop (k * 148+1) (itL L))=sqc L[k].s:=by rw[zc6 L hL k 1 135 hk om];exact zk3 _ hx
 have ic:(itL L)[k * 148+136]? =some (.bool L[k].gc):=by rw[zR L hL k 136 hk om];exact zcd _ hx 0
 have ib:(itL L)[k * 148+137]? =some (.bool L[k].gb):=by rw[zR L hL k 137 hk om];exact zcd _ hx 1
 rw[zbK,qT]at ik;have vs:=fun K=>zgn L[k].s K hx;have ne:=ztX a.sq L[k].s ha' hx.toL;have q1:=zB _ hx.toL;have q2:=zaI L[k].s;have af:=fun b o K=>zjT H K i b (fmO o) hil (zmg _ _);have hX4:∀ K b,(H++K).set i (asB b)=H.set i (asB b)++K:=fun K b=>qE _ _ hil;simp only[hX4]at pc;generalize hr:a.item L k L[k]=r;unfold As.item at hr;generalize L[k]=x at *;have z1:(zx fm0).length=145:=rfl;have z3:List.drop 145 (zx fm0)=[]:=rfl;have hlen:∀ b,(H.set i (asB b)).length=H.length:=fun b=>by simp
 have hY0:∀ b F,(H.set i (asB b)++[F])[H.length]? =some F:=fun b F=>by rw[qL sp];simp
 have hYs:∀ b F B,(H.set i (asB b)++[F]).set H.length B=H.set i (asB b)++[B]:=fun b F B=>by rw[qN _ _ sp];simp
 have hYi:∀ b K,(H.set i (asB b)++K)[i]? =some ⟨194,0,zbh b⟩:=fun b K=>by rw[qA (by simp;omega),qH hil];rfl
 have hYj:∀ b K c,(H.set i (asB b)++K).set i ⟨194,0,zbh c⟩=H.set i (asB c)++K:=fun b K c=>by rw[qE _ _ (by simp;omega),qS];rfl
 have hret:∀ b f v (Fx:Fr) (Y:za),slot Fx 6= .ptr H.length 0 0→slot Fx 7= .bool v→Y=H.set i (asB b)++[⟨118,0,zx f⟩]→fmO r.2= .tup [.agg (zx f),.bool v]→b=r.1→SqL f.sq→znV Tryz.prog [.cell 6 118,.tmp 7] (Pm.Fin H (fmO r.2) (H.set i (asB r.1))) .ret Fx Y:=fun b f v Fx Y h6 h7 e3 e1 e2 hf=>by subst e3;have w1:=zb1 f hf;have w2:qO 145 (zx f)=zx f:=qG om;refine⟨.tup [.agg (zx f),.bool v],by simp(maxSteps:=3000000) (disch:=omega) only[go_sem,↓reduceIte,reduceCtorEq,hY0,w1,w2,h6,h7,zr,zF,List.mapM_cons,List.mapM_nil,Option.pure_def,Option.bind_eq_bind,Option.bind_some],?_⟩;have:=af b r.2 [⟨118,0,zx f⟩];rw[e1]at this ⊢;rw[e2]at this ⊢;exact this
 refine CallOk.go Tryz.func104 Tryz.ntmps104 Tryz.results104 ?_;refine PW.e ?_;refine PW.at [0,1,2,6,7] (?_:PW _ _ _ [(0,.ptr i 0 0),(1,.slice (itL L) L.length fl),(2,.int .i64 (k:Int)),(6,.ptr H.length 0 0),(7,.bool false)] (H.set i (asB a)++[⟨118,0,zx fm0⟩]) _) rfl (by rw[zcV hi];rfl);refine PW.g ln ?_;refine PW.g (nq2 ln ik) ?_;by_cases h3:x.k=3
 ·rw[if_pos h3]at hr;refine PW.c (fun h=> ?_) (fun h=> ?_);rotate_left
  ·simp[h3]at h
  rw[zcV hi];have pc':=pc [⟨118,0,zx fm0⟩];have hfm:∃ f v,fmO (a.pic L k x.p).2= .tup [.agg (zx f),.bool v]∧SqL f.sq:=by
   unfold As.pic;split
   ·exact⟨fm0,false,rfl,⟨rfl,rfl⟩⟩
   ·split
    ·exact⟨_,true,rfl,ha'⟩
    ·split
     ·exact⟨_,true,rfl,ha'⟩
     ·split
      ·exact⟨fm0,false,rfl,⟨rfl,rfl⟩⟩
      ·exact⟨fm0,false,rfl,⟨rfl,rfl⟩⟩
  obtain⟨f,v,e1,hf⟩:=hfm;have w1:=zb1 f hf;rw[e1]at pc';refine PW.f (fun K k=>by simp(maxSteps:=3000000) (disch:=omega) only[go_sem,↓reduceIte,reduceCtorEq];refine VCx.call (pc') rfl ?_;simp(maxSteps:=3000000) (disch:=omega) only[go_sem,↓reduceIte,reduceCtorEq,hY0,hYs,z1,z3,w1,zce,qB];exact k) ?_;refine PW.ret (hret _ f v _ _ rfl rfl rfl ?_ ?_ hf)
  ·rw[←hr];exact e1
  ·rw[←hr]
 rw[if_neg h3]at hr;refine PW.c (fun h=> ?_) (fun h=> ?_)
 ·simp[h3]at h
 have l1:=zb4 a ha';have s1:=zjR a ha' (-1);refine PW.skip ?_;refine PW.g (nq2 hYi (nq2 hYj (nq2 l1 s1))) ?_;refine PW.g (nq2 ln ik) ?_;have hz:SqL fm0.sq:=⟨rfl,rfl⟩;have z5:(zx fm0).all PV.cell=true:=rfl;have l2:=zb4 { a with op:= -1 } ha';have clr:=fun X hX=>zri { a with op:= -1 } i X hX ha';have hXa:∀ b K,(H.set i (asB b)++K)[i]? =some (asB b):=fun b K=>hYi b K;have hXs:∀ b c K,(H.set i (asB b)++K).set i (asB c)=H.set i (asB c)++K:=fun b c K=>hYj b K c;have clr':=fun K=>clr _ (hXa { a with op:= -1 } K);simp only[hXs]at clr';have l3:=zb4 (As.clr { a with op:= -1 }) ha';refine PW.at [0,6,7,8,29] (?_:PW _ _ _ [(0,.ptr i 0 0),(6,.ptr H.length 0 0),(7,.bool false),(8,.ip (itL L) (k * 148)),(29,.int .i64 x.k)] (H.set i (asB { a with op:= -1 })++[⟨118,0,zx fm0⟩]) _) rfl rfl;refine PW.b ?_;refine PW.e ?_;by_cases h1:x.k=1
 ·rw[if_pos h1]at hr;refine PW.c (fun h=> ?_) (fun h=> ?_);rotate_left
  ·simp[h1]at h
  unfold As.seq at hr;dsimp only at hr;have u1:=zmn { a with op:= -1 } ha';have u2:=zrA { a with op:= -1 } ha';dsimp only at u1 u2;suffices hrest:PW Tryz.prog _ _ [(0,.ptr i 0 0),(6,.ptr H.length 0 0),(7,.bool false),(8,.ip (itL L) (k * 148)),(47,.bool (!(a.kn&&sqE a.sq x.s)))] (H.set i (asB { a with op:= -1 })++[⟨118,0,zx fm0⟩]) _ by
   cases hkn:a.kn with
   | false=>
    rw[hkn]at hrest l2 u1 u2;(repeat refine PW.seq ?_);refine PW.drawg mix kr fun K hK=> ?_;simp(maxSteps:=3000000) (disch:=omega) only[go_sem,↓reduceIte,reduceCtorEq,hYi,l2,u1,u2];refine hK _ _ ?_;clear hK K;exact PW.at [0,6,7,8,47] hrest rfl rfl
   | true=>rw[hkn]at hrest l2 u1 u2;(repeat refine PW.seq ?_);refine PW.drawg mix kr fun K hK=> ?_;simp(maxSteps:=3000000) (disch:=omega) only[go_sem,↓reduceIte,reduceCtorEq,hYi,l2,u1,u2,ln,is,↓ne];refine hK _ _ ?_;clear hK K;exact PW.at [0,6,7,8,47] hrest rfl rfl
  cases hk2:(a.kn&&sqE a.sq x.s)with
  | true=>
   rw[if_pos hk2]at hr;refine PW.us ?_;refine PW.g (nq2 hY0 (nq2 hYs (nq2 z1 (nq2 z3 z5)))) ?_;refine PW.ret (hret { a with op:= -1 } fm0 false _ _ rfl rfl rfl ?_ ?_ hz)
   ·subst hr;rfl
   ·subst hr;rfl
  | false=>
   rw[if_neg (by rw[hk2];simp)]at hr;refine PW.t ?_;refine PW.k clr' ?_;have d1:=ztq (As.clr { a with op:= -1 }) a.sq ha';have d2:∀ X v,(sqc x.s++X).set 135 v=sqc x.s++X.set 0 v:=fun X v=>by rw[qN _ _ (by rw[q1];omega),q1]
   have d3:qO 135 (sqc x.s)=sqc x.s:=qG om;have d4:(H.set i (asB (As.clr { a with op:= -1 })))[i]? =some ⟨194,0,zbh (As.clr { a with op:= -1 })⟩:=by rw[qH hil];rfl
   have d5:∀ K B,((H.set i (asB (As.clr { a with op:= -1 }))++K).set i B)[i]? =some B:=fun K B=>by rw[qH (by simp;omega)]
   (repeat refine PW.seq ?_);refine PW.drawi [i] [(0,[0]),(50,[0]),(51,[0]),(61,[0]),(62,[0]),(63,[0]),(64,[0])] [] [60] mix kr (by simp<;>omega) fun K hK=> ?_;refine sqx (nq2 hYi (nq2 l3 (nq2 ln (nq2 is (nq2 q1 q2))))) ?_;refine VCj.read (fun _ _=>vs _) rfl ?_;simp(maxSteps:=3000000) (disch:=omega) only[go_sem,↓reduceIte,reduceCtorEq,hYi,d1,d2,d5,l3,q1,q2,qK,qS];refine hK _ _ ?_;clear hK K;refine PW.at [0,6,7] (?_:PW _ _ _ [(0,.ptr i 0 0),(6,.ptr H.length 0 0),(7,.bool false)] (H.set i (asB { As.clr { a with op:= -1 }with sq:=x.s,kn:=za6 x.s })++[⟨118,0,zx fm0⟩]) _) rfl (hYj _ _ { As.clr { a with op:= -1 }with sq:=x.s,kn:=za6 x.s });refine PW.g (nq2 hY0 (nq2 hYs (nq2 z1 (nq2 z3 z5)))) ?_;refine PW.ret (hret { As.clr { a with op:= -1 }with sq:=x.s,kn:=za6 x.s } fm0 false _ _ rfl rfl rfl ?_ ?_ hz)
   ·subst hr;rfl
   ·subst hr;rfl
 rw[if_neg h1]at hr;refine PW.c (fun h=> ?_) (fun h=> ?_)
 ·simp[h1]at h
 refine PW.e ?_;by_cases h2:x.k=2
 ·rw[if_pos h2]at hr;refine PW.c (fun h=> ?_) (fun h=> ?_);rotate_left
  ·simp[h2]at h
  unfold As.grp at hr;refine PW.b ?_;refine PW.g (nq2 ln ic) ?_;cases hc:x.gc with
  | true=>
   rw[hc]at hr;refine PW.t ?_;refine PW.k clr' ?_;refine PW.g (nq2 hY0 (nq2 hYs (nq2 z1 (nq2 z3 z5)))) ?_;refine PW.ret (hret (As.clr { a with op:= -1 }) fm0 false _ _ rfl rfl rfl ?_ ?_ hz)
   ·subst hr;rfl
   ·subst hr;rfl
  | false=>
   rw[hc]at hr;refine PW.u ?_;refine PW.g (nq2 ln ib) ?_;cases hb:x.gb with
   | true=>
    rw[hb]at hr;refine PW.t ?_;have s4:=zgD { a with op:= -1 } ha' 2;dsimp only at s4;refine PW.g (nq2 hYi (nq2 hYj (nq2 l2 s4))) ?_;refine PW.g (nq2 hY0 (nq2 hYs (nq2 z1 (nq2 z3 z5)))) ?_;refine PW.ret (hret { a with op:= -1,lk:=2 } fm0 false _ _ rfl rfl rfl ?_ ?_ hz)
    ·subst hr;rfl
    ·subst hr;rfl
   | false=>
    rw[hb]at hr;refine PW.u ?_;have s4:=zgD { a with op:= -1 } ha' 0;dsimp only at s4;refine PW.g (nq2 hYi (nq2 hYj (nq2 l2 s4))) ?_;refine PW.g (nq2 hY0 (nq2 hYs (nq2 z1 (nq2 z3 z5)))) ?_;refine PW.ret (hret { a with op:= -1,lk:=0 } fm0 false _ _ rfl rfl rfl ?_ ?_ hz)
    ·subst hr;rfl
    ·subst hr;rfl
 rw[if_neg h2]at hr;refine PW.c (fun h=> ?_) (fun h=> ?_)
 ·simp[h2]at h
 refine PW.e ?_;by_cases h4:x.k=4
 ·rw[if_pos h4]at hr;refine PW.c (fun h=> ?_) (fun h=> ?_);rotate_left
  ·simp[h4]at h
  refine PW.k clr' ?_;have s4:=ztr (As.clr { a with op:= -1 }) ha' false;refine PW.g (nq2 hYi (nq2 hYj (nq2 l3 s4))) ?_;refine PW.g (nq2 hY0 (nq2 hYs (nq2 z1 (nq2 z3 z5)))) ?_;refine PW.ret (hret (As.fin { a with op:= -1 }) fm0 false _ _ rfl rfl rfl ?_ ?_ hz)
  ·subst hr;rfl
  ·subst hr;rfl
 ·rw[if_neg h4]at hr;refine PW.c (fun h=> ?_) (fun h=> ?_)
  ·simp[h4]at h
  refine PW.skip ?_;refine PW.g (nq2 hY0 (nq2 hYs (nq2 z1 (nq2 z3 z5)))) ?_;refine PW.ret (hret { a with op:= -1 } fm0 false _ _ rfl rfl rfl ?_ ?_ hz)
  ·subst hr;rfl
  ·subst hr;rfl
theorem zqQ(L:List It)(hL:∀ x∈L,SqOk x.s)(a:As)(k:Nat)(hk:k<L.length)(ha:SqOk a.sq)(hop:OpR L a.op):SqOk (a.item L k L[k]).1.sq∧OpR L (a.item L k L[k]).1.op∧∀ f,(a.item L k L[k]).2=some f→SqOk f.sq:=by
 have h0:OpR L (-1):=.inl rfl;have hx:=hL _ (List.getElem_mem hk);unfold As.item;split
 ·unfold As.pic;split
  ·exact⟨ha,h0,fun f h=>by cases h⟩
  ·split
   ·exact⟨ha,h0,fun f h=>by cases h;exact ha⟩
   ·split
    ·exact⟨ha,h0,fun f h=>by cases h;exact ha⟩
    ·split
     ·exact⟨ha,.inr ⟨k,rfl,hk⟩,fun f h=>by cases h⟩
     ·exact⟨ha,h0,fun f h=>by cases h⟩
 ·split
  ·unfold As.seq;split
   ·exact⟨ha,h0,fun f h=>by cases h⟩
   ·exact⟨hx,h0,fun f h=>by cases h⟩
  ·split
   ·unfold As.grp;split
    ·exact⟨ha,h0,fun f h=>by cases h⟩
    ·split
     ·exact⟨ha,h0,fun f h=>by cases h⟩
     ·exact⟨ha,h0,fun f h=>by cases h⟩
   ·split
    ·exact⟨ha,h0,fun f h=>by cases h⟩
    ·exact⟨ha,h0,fun f h=>by cases h⟩
end Go.Proofs.YtpjlfoficnpfoaaGreatDoor.Sc
namespace Go.Proofs.YtpjlfoficnpfoaaGreatDoor.Pm
set_option linter.all false
open Go.RowKit
variable {P:Program} {H:za} {F:Fr}
theorem zdY{all:List Oper}{K K':Fr→za→Prop}(hk:∀ F H,K F H→K' F H):∀(l:List Oper) (F:Fr) (H:za),zbp P all l K F H→zbp P all l K' F H
 | [],F,H,h=>hk _ _ h
 | o::r,F,H,h=>by
  simp only[zbp]at h ⊢;split at h
  ·rename_i b hb;refine⟨fun hb'=> ?_,fun hb'=>zdY hk r _ _ (h.2 hb')⟩;have h1:=h.1 hb';split at h1
   ·obtain⟨R,h2,h3⟩:=h1;exact⟨R,h2,fun v H' hR=>zdY hk r _ _ (h3 v H' hR)⟩
   ·split at h1
    ·exact zdY hk r _ _ h1
    ·exact h1.elim
  ·exact h.elim
section rules
variable {E:Env} {Q:Exit→Fr→za→Prop}
def YQ(P:Program)(ds:List (Option Nat))(o:Oper)(x:Operand)(xs:Array Operand)(rest:List Oper)(K:Fr→za→Prop):Fr→za→Prop:=fun F' H'=>zan ds F' o=some true∧∃ v H'',YldOk P (ev (slot F') x) (xs.toList.map (ev (slot F'))) H' v H''∧VO P ds rest (some (put F' o.dst v,H'')) K
theorem PW.ry{id:Nat}{ops:Array Oper}(n:Nat){o:Oper}{x:Operand}{xs:Array Operand}{ts:Array TypeId}(hd:ops.toList.all (zI E.N)=true)(hnd:ops.toList.all zaQ=true)(hn:ops.toList.drop n=o::ops.toList.drop (n+1))(ho:o.op= .call ⟨.value x,xs,ts⟩)
  (h:∀ K:Fr→za→Prop,(∀ F' H',Q .normal F' H'→K F' H')→VO P (ops.toList.map (·.dst)) (ops.toList.take n) (some (F,H)) (YQ P (ops.toList.map (·.dst)) o x xs (ops.toList.drop (n+1)) K)):
  PW P E (.region id ops false) F H Q:=by
 refine PW.region_y n hd hnd (zdY ?_ _ _ _ (zao _ _ _ (h _ fun _ _ h=>h)));rintro F' H' ⟨h1,v,H'',h2,h3⟩;exact⟨o,ops.toList.drop (n+1),x,xs,ts,v,H'',hn,zq _ _ _ h1,ho,h2,zao _ _ _ h3⟩
theorem PWr.rg{l id:Nat}{ops:Array Oper}(hd:ops.toList.all (zI E.N)=true)(hn:ops.toList.all zaQ=true)(lo:∀ F H,¬ Q .outgrown F H)(h:∀ K:Fr→za→Prop,(∀ F' H',Q .normal F' H'→K F' H')→VO P (ops.toList.map (·.dst)) ops.toList (some (F,H)) K):
  PWr P E l (.region id ops false) F H Q:=PWr.region hd hn lo (zao _ _ _ (h _ fun _ _ h=>h))
theorem PWr.at{l:Nat}{c:Code}{F2:Fr}{H2:za}(ks:List Nat)(h:PWr P E l c F2 H2 Q)(hF:kp ks F=F2)(hH:H=H2):PWr P E l c F H Q:=PWr.keep ks (by rw[hF,hH];exact h)
theorem PWr.mono{l:Nat}{c:Code}{Q':Exit→Fr→za→Prop}(h:PWr P E l c F H Q)(hq:∀ e F H,Q e F H→Q' e F H):PWr P E l c F H Q':=fun hs C a w hd hw hf=>wpIn_mono (h hs C a w hd hw hf) fun _ _ _ ⟨C',F',H',q1,q2,q3,q4,q5,q6⟩=>⟨C',F',H',q1,q2,q3,q4,q5,hq _ _ _ q6⟩
theorem PWr.seq_to{l:Nat}{x y:Code}(ks:List Nat)(F1:Fr)(H1:za)(hx:PWr P E l x F H (zgT (fun F' H'=>kp ks F'=F1∧H'=H1) Q))(hy:PWr P E l y F1 H1 Q):PWr P E l (.seq x y) F H Q:=
 PWr.seq (hx.mono fun e F' H' hq=>by
  cases e with
  | normal=>obtain⟨h1,h2⟩:=hq;subst h1;subst h2;exact hy.keep ks
  | _=>exact hq)
end rules
section rules
variable {E:Env} {D:List Deferred} {Q:Exit→List Deferred→Fr→za→Prop}
theorem PWM.rg{id:Nat}{ops:Array Oper}(hd:ops.toList.all (zI E.N)=true)(hn:ops.toList.all zaQ=true)(h:∀ K:Fr→za→Prop,(∀ F' H',Q .normal D F' H'→K F' H')→VO P (ops.toList.map (·.dst)) ops.toList (some (F,H)) K):
  PWM P E (.region id ops false) D F H Q:=PWM.region hd hn (zao _ _ _ (h _ fun _ _ h=>h))
theorem PWM.at{c:Code}{F2:Fr}{H2:za}(ks:List Nat)(h:PWM P E c D F2 H2 Q)(hF:kp ks F=F2)(hH:H=H2):PWM P E c D F H Q:=PWM.keep ks (by rw[hF,hH];exact h)
theorem PWM.view{c:Code}{F2:Fr}{H2:za}(hv:Vs E F H F2 H2)(h:PWM P E c D F2 H2 Q):PWM P E c D F H Q:=fun hs C a w hd hw hf=>by obtain⟨C2,g1,g2,g3⟩:=hv hs C a w hw hf;exact wpIn_mono (h hs C2 a w hd g2 g3) fun _ _ _ hp=>hp.trans g1 (.refl _ _)
end rules
end Go.Proofs.YtpjlfoficnpfoaaGreatDoor.Pm
namespace Go.Proofs.YtpjlfoficnpfoaaGreatDoor.Sc
set_option linter.all false
open Pm Ty Go.RowKit
theorem zom(L:List It)(fl:Bool)(H:za):CallOk Tryz.prog 50 [.slice (itL L) L.length fl] H (.func 103 [] [.ptr H.length 0 0]) (H++[⟨22,0,[.slice (itL L) L.length fl]⟩]):=by refine CallOk.go Tryz.func50 Tryz.ntmps50 Tryz.results50 ?_;refine PW.e ?_;refine PW.e ?_;refine PW.v (.func 103 [] [.ptr H.length 0 0]) ?_;exact .inl ⟨rfl,rfl⟩
structure AsOk(L:List It)(a:As):Prop where
 sq:SqOk a.sq
 op:OpR L a.op
 lk: -1≤a.lk∧a.lk≤2
def zv9(f:FmY):Prop:=SqOk f.sq∧-1≤f.lk∧f.lk≤2
theorem zm8(L:List It)(hL:∀ x∈L,SqOk x.s)(a:As)(k:Nat)(hk:k<L.length)(h:AsOk L a):AsOk L (a.item L k L[k]).1∧∀ f,(a.item L k L[k]).2=some f→zv9 f:=by
 obtain⟨q1,q2,q3⟩:=zqQ L hL a k hk h.sq h.op;have h0: -1≤(-1:Int)∧(-1:Int)≤2:=om;have hl:=h.lk;have key:(-1≤(a.item L k L[k]).1.lk∧(a.item L k L[k]).1.lk≤2)∧∀ f,(a.item L k L[k]).2=some f→-1≤f.lk∧f.lk≤2:=by
  unfold As.item;split
  ·unfold As.pic;split
   ·exact⟨hl,fun f h=>by cases h⟩
   ·split
    ·exact⟨h0,fun f h=>by cases h;exact hl⟩
    ·split
     ·exact⟨h0,fun f h=>by cases h;exact hl⟩
     ·split
      ·exact⟨hl,fun f h=>by cases h⟩
      ·exact⟨hl,fun f h=>by cases h⟩
  ·split
   ·unfold As.seq;split
    ·exact⟨hl,fun f h=>by cases h⟩
    ·exact⟨h0,fun f h=>by cases h⟩
   ·split
    ·unfold As.grp;split
     ·exact⟨h0,fun f h=>by cases h⟩
     ·split
      ·exact⟨by show -1≤(2:Int)∧(2:Int)≤2;omega,fun f h=>by cases h⟩
      ·exact⟨by show -1≤(0:Int)∧(0:Int)≤2;omega,fun f h=>by cases h⟩
    ·split
     ·exact⟨h0,fun f h=>by cases h⟩
     ·exact⟨hl,fun f h=>by cases h⟩
 exact⟨⟨q1,q2,key.1⟩,fun f hf=>⟨q3 f hf,key.2 f hf⟩⟩
theorem DpG.mono{d:Dp}{m n:Nat}(h:DpG d m)(hm:m≤n):DpG d n:=⟨⟨h.ok.sq,by have:=h.ok.n;omega,h.ok.sh,h.ok.lk,h.ok.new,h.ok.old,h.ok.wt⟩,h.cnt⟩
theorem ztR{d:Dp}{m:Nat}(h:DpG d m)(rs:Bool):DpG (d.res rs) m:=by
 unfold Dp.res;split
 ·obtain⟨⟨⟨q1,q2,q3,q4,q5,q6,q7⟩,q8⟩,q9⟩:=zff h;have f3:=(za1 d).2.2.1;have f4:=ziy d;refine⟨⟨q1,q2,q3,by simp only;omega,by simp only;omega,by simp only;omega,fun h=> ?_⟩,q8⟩;simp only at h;rw[f3]at h;cases h
 ·exact h
theorem zt2{d:Dp}{m:Nat}(h:DpG d m)(lk:Int)(hl: -1≤lk∧lk≤2):DpG (d.lnk lk) m:=by
 unfold Dp.lnk;split
 ·rename_i hne;exact⟨⟨h.ok.sq,h.ok.n,h.ok.sh,by simp only;omega,h.ok.new,h.ok.old,h.ok.wt⟩,h.cnt⟩
 ·exact h
theorem zpl{d:Dp}{f:FmY}{m:Nat}(h:DpG d m)(hf:zv9 f):DpG (d.step f) (m+1):=zs6 (zt2 (ztR h _) _ hf.2) hf.1.toL
def kx(L:List It)(fl:Bool)(n b:Nat)(ob:Obj):za:=[⟨22,0,[.slice (itL L) L.length fl]⟩,⟨0,0,[.lp b (.deferred (some []))]⟩,⟨0,0,[.lp (b+1) ob]⟩]
def kH(H:za)(L:List It)(fl:Bool)(b:Nat)(ob:Obj)(d:Dp):za:=H++(dpB (H.length+1) d::enB d.en::kx L fl H.length b ob)
theorem zc5(H:za)(L:List It)(fl:Bool)(b:Nat)(ob:Obj)(d:Dp):(kH H L fl b ob d).length=H.length+5:=by simp[kH,kx]
theorem zdK(H:za)(L:List It)(fl:Bool)(b:Nat)(ob:Obj)(d:Dp)(X:za)(j:Nat)(hj:j<5):(kH H L fl b ob d++X)[H.length+j]? =(dpB (H.length+1) d::enB d.en::kx L fl H.length b ob)[j]? :=by rw[qA (by rw[zc5];omega),kH,qL om,qM]
theorem kH_c(H:za)(L:List It)(fl:Bool)(b:Nat)(ob:Obj)(d:Dp)(X:za):(kH H L fl b ob d++X)[H.length+2]? =some ⟨22,0,[.slice (itL L) L.length fl]⟩:=zdK H L fl b ob d X 2 om
theorem kH_l(H:za)(L:List It)(fl:Bool)(b:Nat)(ob:Obj)(d:Dp)(X:za):(kH H L fl b ob d++X)[H.length+4]? =some ⟨0,0,[.lp (b+1) ob]⟩:=zdK H L fl b ob d X 4 om
theorem zt3(H:za)(L:List It)(fl:Bool)(b:Nat)(ob:Obj)(d:Dp)(X:za):DpH (kH H L fl b ob d++X) H.length (H.length+1) d:=⟨zdK H L fl b ob d X 0 om,zdK H L fl b ob d X 1 om,om⟩
theorem zdy(H K:za)(j:Nat)(B:Blk):(H++K).set (H.length+j) B=H++K.set j B:=by rw[qN _ _ om,qM]
theorem zqN(H:za)(L:List It)(fl:Bool)(b:Nat)(ob:Obj)(d d':Dp)(X:za):tw (kH H L fl b ob d++X) H.length (H.length+1) (dpB (H.length+1) d') (enB d'.en)=kH H L fl b ob d'++X:=by rw[zgO _ _ _ _ _ _ (by rw[zc5];omega) (by rw[zc5];omega)];congr 1;unfold tw kH;have e0:=fun K B=>zdy H K 0 B;simp only[qT]at e0;rw[e0,zdy];rfl
theorem zqO(H:za)(L:List It)(fl:Bool)(b:Nat)(ob ob':Obj)(d:Dp)(X:za):(kH H L fl b ob d++X).set (H.length+4) ⟨0,0,[.lp (b+1) ob']⟩=kH H L fl b ob' d++X:=by rw[qE _ _ (by rw[zc5];omega)];congr 1;unfold kH;rw[zdy];rfl
theorem zqP{H:za}{L:List It}{fl:Bool}{b:Nat}{ob:Obj}{d d':Dp}{X:za}(h:HSc (kH H L fl b ob d++X)):HSc (kH H L fl b ob d'++X):=by rw[←zqN H L fl b ob d d' X];exact zoW (zre _ _ _ (by simp[zc5];omega)) (zbx _ _) h
theorem _root_.Go.Proofs.YtpjlfoficnpfoaaGreatDoor.Pm.HSc.snoc{A:za}(h:HSc A){k:Blk}(hk:∀ x∈k.cells,Scoped (A.length+1) x):HSc (A++[k]):=fun j k' hk' x hx=>by
 rw[qK];rcases zy hk' with⟨_,hk'⟩|⟨_,rfl⟩
 ·exact(h j k' hk' x hx).mono sp
 ·exact hk x hx
theorem ze5{α:Type}{l:List α}{k:Nat}{x:α}{r:List α}(h:l.drop k=x::r):∃ hk:k<l.length,l[k]=x∧l.drop (k+1)=r:=by
 have hk:k<l.length:=by
  rcases Nat.lt_or_ge k l.length with h1|h1
  ·exact h1
  ·rw[List.drop_eq_nil_of_le h1]at h;cases h
 rw[List.drop_eq_getElem_cons hk]at h;injection h with h1 h2;exact⟨hk,h1,h2⟩
set_option maxHeartbeats 4000000 in
set_option maxRecDepth 100000 in
theorem zsY(L:List It)(fl:Bool)(hL:∀ x∈L,SqOk x.s)(hn:L.length≤800000)(H:za)(b:Nat)(ob:Obj)(y:PV)(hys:Scoped (H.length+5) y)(d0:Dp)(hd0:DpG d0 0)
  (hy:∀(d:Dp) (f:FmY) (X:za),DpG d 800000→zv9 f→YldOk Tryz.prog y [.agg (zx f)] (kH H L fl b ob d++X) (.bool true) (kH H L fl b ob (d.step f)++X)):
  CallOk Tryz.prog 103 [y,.ptr (H.length+2) 0 0] (kH H L fl b ob d0) (.tup []) (kH H L fl b ob (dpN L (as0 sq0) d0 0 L)):=by
 have ln:=zak L hL;have kc:=fun d X=>kH_c H L fl b ob d X;have kc0:(kH H L fl b ob d0)[H.length+2]? =some ⟨22,0,[.slice (itL L) L.length fl]⟩:=by have:=kc d0 [];rwa[qB]at this
 have kl:=fun d=>zc5 H L fl b ob d;have z0:zbh (as0 sq0)=zbh (as0 sq0):=rfl;refine CallOk.go Tryz.func103 Tryz.ntmps103 Tryz.results103 ?_;refine PW.e ?_;refine PW.at [0,1,3] (?_:PW _ _ _ [(0,y),(1,.ptr (H.length+2) 0 0),(3,.ptr (H.length+5) 0 0)] (kH H L fl b ob d0++[asB (as0 sq0)]) _) (by rw[←kl d0];rfl) rfl;refine PW.g kc ?_;refine PW.l ?_;suffices hloop:∀(r:List It) (k:Nat) (a:As) (d:Dp),L.drop k=r→AsOk L a→DpG d k→k≤L.length→dpN L a d k r=dpN L (as0 sq0) d0 0 L→
   PL Tryz.prog _ _ [(0,y),(1,.ptr (H.length+2) 0 0),(3,.ptr (H.length+5) 0 0),(9,.int .i64 (L.length:Int)),(10,.int .i64 (k:Int))] (kH H L fl b ob d++[asB a]) _ by
  exact PL.at [0,1,3,9,10] (hloop L 0 (as0 sq0) d0 rfl ⟨⟨by decide,by decide,by decide,by decide,by decide,by decide,rfl,rfl⟩,.inl rfl,by decide⟩ hd0 om rfl) rfl rfl
 intro r;induction r with
 | nil=>
  intro k a d hr ha hd hk he;have hkl:k=L.length:=by have:=List.drop_eq_nil_iff.1 hr;omega
  subst hkl;refine PL.round ?_;refine PW.e ?_;refine PW.u ?_;refine PW.exit ?_;rw[←he];refine⟨_,rfl,?_⟩;refine Fin.cut rfl (by rw[kl,kl]) (fun h=> ?_) (.id (.tup sp));have:=zqP (X:=[]) (d':=d) (by rw[qB];exact h);rwa[qB]at this
 | cons x r ih=>
  intro k a d hr ha hd hk he;obtain⟨hkl,hx,hr2⟩:=ze5 hr;refine PL.round ?_;refine PW.e ?_;refine PW.t ?_;refine PW.skip ?_;refine PW.b ?_;refine PW.e ?_;have hi:(kH H L fl b ob d++[asB a])[H.length+5]? =some (asB a):=by rw[←kl d];simp
  have io:=zsZ L fl k hkl hL a (H.length+5) _ hi ha.sq ha.op;obtain⟨g1,g2⟩:=zm8 L hL a k hkl ha;have hset:∀ b',(kH H L fl b ob d++[asB a]).set (H.length+5) (asB b')=kH H L fl b ob d++[asB b']:=fun b'=>by rw[←kl d];simp
  rw[hset]at io;have e0:dpN L a d k (x::r)=dpN L (a.item L k x).1 (d.stepO (a.item L k x).2) ((k:Int)+1) r:=rfl;rw[e0,←hx]at he;have inext:=fun(d':Dp) (h1:DpG d' (k+1)) (h2:d'=d.stepO (a.item L k L[k]).2)=>ih (k+1) (a.item L k L[k]).1 d' hr2 g1 h1 om (by rw[←he,h2];rfl);have scA:∀ d' b',HSc (kH H L fl b ob d0)→HSc (kH H L fl b ob d'++[asB b']):=fun d' b' h0=>by
   have h1:HSc (kH H L fl b ob d'):=by have:=zqP (X:=[]) (d':=d') (by rw[qB];exact h0);rwa[qB]at this
   exact HSc.snoc h1 (zrz _ _)
  have trim:∀ d' b' K,Vs (⟨27,kH H L fl b ob d0⟩:Env) [(0,y),(1,.ptr (H.length+2) 0 0),(3,.ptr (H.length+5) 0 0),(9,.int .i64 (L.length:Int)),(10,.int .i64 ((k+1:Nat):Int))] ((kH H L fl b ob d'++[asB b'])++K) [(0,y),(1,.ptr (H.length+2) 0 0),(3,.ptr (H.length+5) 0 0),(9,.int .i64 (L.length:Int)),(10,.int .i64 ((k+1:Nat):Int))] (kH H L fl b ob d'++[asB b']):=fun d' b' K=>by
   have hl1:(kH H L fl b ob d'++[asB b']).length=H.length+6:=by simp[zc5]
   refine Vs.trim (scA d' b') (by rw[hl1,zc5];omega) rfl ?_;rw[hl1];exact⟨.id (hys.mono om),.id (.ptr om),.id (.ptr om),.id (.int _ _),.id (.int _ _),trivial⟩
  generalize a.item L k L[k]=q at *;obtain⟨a',o⟩:=q;cases o with
  | none=>
   have z1:(zx fm0).length=145:=rfl;have z5:(zx fm0).all PV.cell=true:=rfl;have z6:qO 145 (zx fm0)=zx fm0:=rfl;unfold fmO at io;dsimp only at io;refine PW.f (fun K k=>by simp(maxSteps:=3000000) (disch:=omega) only[go_sem,↓reduceIte,reduceCtorEq,kc];refine VCx.call (io) rfl ?_;simp(maxSteps:=3000000) (disch:=omega) only[go_sem,↓reduceIte,reduceCtorEq,z1,z5,z6];exact k) ?_;refine PW.e ?_;refine PW.us ?_;refine PW.e ?_;refine PL.keep [0,1,3,9,10] ?_;refine PL.view ?_ (inext d (hd.mono om) rfl);have:=trim d a' [⟨118,0,zx fm0⟩];rw[qP]at this;exact this
  | some f=>obtain⟨hf1,hf2⟩:=g2 f rfl;have z1:=zb1 f hf1.toL;have z5:=zce f;have z6:qO 145 (zx f)=zx f:=qG om;unfold fmO at io;dsimp only at io;refine PW.f (fun K k=>by simp(maxSteps:=3000000) (disch:=omega) only[go_sem,↓reduceIte,reduceCtorEq,kc];refine VCx.call (io) rfl ?_;simp(maxSteps:=3000000) (disch:=omega) only[go_sem,↓reduceIte,reduceCtorEq,z1,z5,z6];exact k) ?_;have yo:=hy d f [asB a',⟨118,0,zx f⟩] (hd.mono om) ⟨hf1,hf2⟩;(repeat refine PW.seq ?_);refine PW.ry 4 rfl rfl rfl rfl fun K hK=> ?_;refine sqx (nq2 z1 z6) ?_;refine⟨rfl,.bool true,_,yo,?_⟩;refine sqz ?_;refine hK _ _ ?_;clear hK K;refine PW.us ?_;refine PW.e ?_;refine PL.keep [0,1,3,9,10] ?_;refine PL.view ?_ (inext (d.step f) (zpl hd ⟨hf1,hf2⟩) rfl);have:=trim (d.step f) a' [⟨118,0,zx f⟩];rw[qP]at this;exact this
theorem _root_.Go.Proofs.YtpjlfoficnpfoaaGreatDoor.Pm.YldOk.introN{P:Program}{H:za}{N l id e ver:Nat}{us:List Value}{fs:List PV}{r:Loop}{p:Nat}{x:PV}{G:Fr}{H':za}(hN:us.length=N)(hr1:r.tmps=us.toArray)(hr2:r.state= .ready)(hr3:r.pending=none)(hps:r.params= #[p])(hp:p<N)
  (hG:∀ t,slot G t= .undef∨(t<N∧fs[t]? =some (slot G t))) (hid:H[id]? =some ⟨e,ver,[.lp l (.loop r)]⟩)
  (h:PWr P ⟨N,H⟩ l r.assign ((p,x)::G) H (zjQ P ⟨N,H⟩ (zlI H H' id e ver l r) id e ver l r)):YldOk P (.yl l us fs) [x] H (.bool true) H':=by
 subst hN;exact YldOk.intro hr1 hr2 hr3 hps hp hG hid h
theorem zrd(L:List It)(hL:∀ x∈L,SqOk x.s):∀(r:List It) (k:Nat) (a:As) (d:Dp),L.drop k=r→AsOk L a→DpG d k→k≤L.length→DpG (dpN L a d k r) L.length
 | [],k,a,d,hr,_,hd,hk=>hd.mono hk
 | x::r,k,a,d,hr,ha,hd,hk=>by
  obtain⟨hkl,hx,hr2⟩:=ze5 hr;obtain⟨g1,g2⟩:=zm8 L hL a k hkl ha;have e:dpN L a d k (x::r)=dpN L (a.item L k x).1 (d.stepO (a.item L k x).2) ((k+1:Nat):Int) r:=rfl;rw[e,←hx];refine zrd L hL r (k+1) _ _ hr2 g1 ?_ om;generalize a.item L k L[k]=q at *;obtain⟨a',o⟩:=q;cases o with
  | none=>exact hd.mono om
  | some f=>exact zpl hd (g2 f rfl)
theorem zuc:DpG dp0 0:=⟨⟨by simp[dp0],by simp[dp0],by simp[dp0],by simp[dp0],by simp[dp0],by simp[dp0],by simp[dp0]⟩,by simp[dp0]⟩
theorem zrB(L:List It):AsOk L (as0 sq0):=⟨⟨by decide,by decide,by decide,by decide,by decide,by decide,rfl,rfl⟩,.inl rfl,by decide⟩
set_option maxHeartbeats 8000000 in
set_option maxRecDepth 100000 in
theorem zsf(L:List It)(fl:Bool)(hL:∀ x∈L,SqOk x.s)(hn:L.length≤800000)(H:za):CallOk Tryz.prog 23 [.slice (itL L) L.length fl] H (.slice ((zaa L).flatMap zn) (zaa L).length false) H:=by
 have fo:=fun K=>zom L fl K;refine CallOk.bodyM (F0:=[(0,.slice (itL L) L.length fl)]) Tryz.func23 rfl Tryz.ntmps23 Tryz.results23 rfl kr rfl ?_;(repeat refine PWM.seq ?_);refine PWM.rg rfl rfl fun K hK=> ?_;refine sqz ?_;refine hK _ _ ?_;clear hK K;(repeat refine PWM.seq ?_);refine PWM.rg rfl rfl fun K hK=> ?_;refine sqz ?_;refine hK _ _ ?_;clear hK K;refine PWM.view (Vs.ghostH (id:=H.length) (j:=0) 71 147 (hp0 _ _ _) rfl) ?_;refine PWM.at [0,3] (?_:PWM _ _ _ _ [(0,.slice (itL L) L.length fl),(3,.ptr H.length 0 0)] (H++[dpB (H.length+1) dp0,enB []]) _) rfl (by simp[dpB,enB,dp0]);(repeat refine PWM.seq ?_);refine PWM.rg rfl rfl fun K hK=> ?_;refine sqz ?_;refine VCx.call (fo _) rfl ?_;simp(maxSteps:=3000000) (disch:=omega) only[go_sem,↓reduceIte,reduceCtorEq];refine hK _ _ ?_;clear hK K;refine PWM.at [3,7] (?_:PWM _ _ _ _ [(3,.ptr H.length 0 0),(7,.func 103 [] [.ptr (H.length+2) 0 0])] (H++[dpB (H.length+1) dp0,enB [],⟨22,0,[.slice (itL L) L.length fl]⟩]) _) rfl sp;(repeat refine PWM.seq ?_);refine PWM.block ?_;refine PWM.range rfl fun fn us b hus=> ?_;generalize hob:Obj.loop (zfC fn us _ _ _ b)=ob;have e1:H++[dpB (H.length+1) dp0,enB [],⟨22,0,[.slice (itL L) L.length fl]⟩]++[⟨0,0,[.lp b (.deferred (some []))]⟩,⟨0,0,[.lp (b+1) ob]⟩]=kH H L fl b ob dp0:=by simp[kH,kx,dp0]
 have e2:(H++[dpB (H.length+1) dp0,enB [],⟨22,0,[.slice (itL L) L.length fl]⟩]).length=H.length+3:=by simp
 rw[e2];unfold lpB;rw[hob,e1];have hfin:=fun o d=>zqO H L fl b ob o d [];simp only[qB]at hfin;have hg:=fun d=>zdK H L fl b ob d [];simp only[qB]at hg;refine⟨.tup [],kH H L fl b ob (dpN L (as0 sq0) dp0 0 L),zsY L fl hL hn H b ob _ (.yl fun j x hx=> ?_) dp0 ⟨⟨by simp[dp0],by simp[dp0],by simp[dp0],by simp[dp0],by simp[dp0],by simp[dp0],by simp[dp0]⟩,by simp[dp0]⟩ fun d f X hd hf=> ?_,hg _ 3 om,hg _ 4 om,fun o=> ?_⟩
 ·have hx:=qW hx;obtain⟨t,_,rfl⟩:=List.mem_map.1 hx;have:Scoped (H.length+5) (slot [(3,.ptr H.length 0 0),(7,.func 103 [] [.ptr (H.length+2) 0 0])] t):=by
   simp only[slot];split
   ·exact .ptr om
   ·split
    ·exact .func (fun j x hx=>by simp at hx) (fun j x hx=>by
      have hx:=qW hx;rw[List.mem_singleton]at hx;rw[hx];exact .ptr om)
    ·exact .undef
  exact this
 ·have hf1:=hf.1.toL;have f0:=zb1 f hf1;have f1:=zce f;have f2:=zvH f hf1;have f3:=zvI f hf1;have f4:qO 145 (zx f)=zx f:=qG om;obtain⟨Y,hY⟩:∃ Y:Obj→Dp→za,∀ ob d,kH H L fl b ob d++X=Y ob d:=⟨_,fun _ _=>rfl⟩;have yl:∀ ob d,(Y ob d).length=H.length+5+X.length:=fun ob d=>by rw[←hY,qK,zc5]
  have yd:∀ ob d,DpH (Y ob d) H.length (H.length+1) d:=fun ob d=>by rw[←hY];exact zt3 H L fl b ob d X
  have yt:∀ ob d d',tw (Y ob d) H.length (H.length+1) (dpB (H.length+1) d') (enB d'.en)=Y ob d':=fun ob d d'=>by rw[←hY,←hY];exact zqN H L fl b ob d d' X
  have hid:∀ ob d,(Y ob d)[H.length+4]? =some ⟨0,0,[.lp (b+1) ob]⟩:=fun ob d=>by rw[←hY];exact kH_l H L fl b ob d X
  have hset:∀ ob ob' d,(Y ob d).set (H.length+4) ⟨0,0,[.lp (b+1) ob']⟩=Y ob' d:=fun ob ob' d=>by rw[←hY,←hY];exact zqO H L fl b ob ob' d X
  have ysc:∀ ob d d',HSc (Y ob d)→HSc (Y ob d'):=fun ob d d' h=>by rw[←hY]at h ⊢;exact zqP h
  have ys0:∀ ob d d' K,d'.en=d.en→(Y ob d++K).set H.length (dpB (H.length+1) d')=Y ob d'++K:=fun ob d d' K he=>by have h1:=yt ob d d';unfold tw at h1;rw[he,zcV (by rw[qI om];exact(yd ob d).gj)]at h1;rw[qE _ _ (by rw[yl];omega),h1]
  rw[hY,hY];clear hY;subst hob;refine YldOk.introN (G:=[(3,.ptr H.length 0 0)]) hus rfl rfl rfl rfl (by show 8<26;omega) (fun t=> ?_) (hid _ _) ?_
  ·by_cases ht:t=3
   ·subst ht;exact .inr ⟨by show 3<26;omega,rfl⟩
   ·refine .inl ?_;simp only[slot];split
    ·rename_i h;exact absurd (Nat.eq_of_beq_eq_true h).symm ht
    ·rfl
  refine PWr.rg rfl rfl (fun _ _ h=>h) fun K hK=> ?_;refine sqx (nq2 f0 f1) ?_;refine hK _ _ ?_;clear hK K;refine⟨by rw[qA (by rw[yl];omega)];exact hid _ _,?_⟩;rw[qE _ _ (by rw[yl];omega),hset];generalize hbs:Obj.loop { zfC fn us _ _ _ b with state:=.busy }=bs at *;generalize hrd:Obj.loop (zfC fn us _ _ _ b)=rd at *;refine PWr.block ?_;have yF:∀ d',(Y bs d'++[⟨118,0,zx f⟩])[H.length+5+X.length]? =some ⟨118,0,zx f⟩:=fun d'=>by rw[←yl bs d'];simp
  have yD:∀ d' K,DpH (Y bs d'++K) H.length (H.length+1) d':=fun d' K=>⟨by rw[qA (by rw[yl];omega)];exact(yd bs d').gi,by rw[qA (by rw[yl];omega)];exact(yd bs d').gj,om⟩;have yT:∀ d' d'' K,tw (Y bs d'++K) H.length (H.length+1) (dpB (H.length+1) d'') (enB d''.en)=Y bs d''++K:=fun d' d'' K=>by rw[zgO _ _ _ _ _ _ (by rw[yl];omega) (by rw[yl];omega),yt]
  have yG:∀ d' K,(Y bs d'++K)[H.length]? =some ⟨113,0,[.msl (H.length+1) (d'.en.length * 147) 0 d'.en.length 147 true,.int .i64 d'.old,.int .i64 d'.new,.bool d'.wt,.int .i64 d'.lk,.int .i64 d'.sh]⟩:=fun d' K=>(yD d' K).gi;have ySs:∀ d' K B,((Y bs d'++K).set H.length B)[H.length]? =some B:=fun d' K B=>by rw[qH (by rw[qK,yl];omega)]
  refine PWr.at [3,4] (?_:PWr _ _ _ _ [(3,.ptr H.length 0 0),(4,.ptr (H.length+5+X.length) 0 0)] _ _) (by rw[←yl rd d];rfl) rfl;refine PWr.seq_to [3,4] [(3,.ptr H.length 0 0),(4,.ptr (H.length+5+X.length) 0 0)] (Y bs (d.res f.rs)++[⟨118,0,zx f⟩]) ?_ ?_
  ·(repeat refine PWr.seq ?_);refine PWr.rg rfl rfl (fun _ _ h=>h) fun K hK=> ?_;refine sqx (nq2 yF (nq2 f0 f2)) ?_;refine hK _ _ ?_;clear hK K;refine PWr.cond (t:=f.rs) rfl (fun h=> ?_) (fun h=> ?_)
   ·have fo:=zhI d H.length (H.length+1) _ (yD d [⟨118,0,zx f⟩]) (hd.mono om);rw[yT]at fo;(repeat refine PWr.seq ?_);refine PWr.rg rfl rfl (fun _ _ h=>h) fun K hK=> ?_;refine sqz ?_;refine VCx.call (fo) rfl ?_;simp(maxSteps:=3000000) (disch:=omega) only[go_sem,↓reduceIte,reduceCtorEq];refine hK _ _ ?_;clear hK K;(repeat refine PWr.seq ?_);refine PWr.rg rfl rfl (fun _ _ h=>h) fun K hK=> ?_;simp(maxSteps:=3000000) (disch:=omega) only[go_sem,↓reduceIte,reduceCtorEq,yG,ySs,qS];refine hK _ _ ?_;clear hK K;refine⟨rfl,?_⟩;rw[h];exact ys0 bs d.flush { d.flush with old:= -1,new:= -1,lk:=0 } _ rfl
   ·refine PWr.skip ⟨rfl,?_⟩;rw[h];rfl
  have g1:=ztR hd f.rs;have hstep:d.step f=((d.res f.rs).lnk f.lk).frame f:=rfl;have hsc:=ysc rd d (d.step f);rw[hstep]at hsc ⊢;generalize d.res f.rs=d1 at *;refine PWr.seq_to [3,4] [(3,.ptr H.length 0 0),(4,.ptr (H.length+5+X.length) 0 0)] (Y bs (d1.lnk f.lk)++[⟨118,0,zx f⟩]) ?_ ?_
  ·(repeat refine PWr.seq ?_);refine PWr.rg rfl rfl (fun _ _ h=>h) fun K hK=> ?_;refine sqx (nq2 yF (nq2 f0 f3)) ?_;refine hK _ _ ?_;clear hK K;refine PWr.cond (t:=f.lk != -1) rfl (fun h=> ?_) (fun h=> ?_)
   ·(repeat refine PWr.seq ?_);refine PWr.rg rfl rfl (fun _ _ h=>h) fun K hK=> ?_;refine sqx (nq2 yF (nq2 yG (nq2 f0 f3))) ?_;refine hK _ _ ?_;clear hK K;refine⟨rfl,?_⟩;have hne:f.lk≠-1:=by simpa using h
    rw[show d1.lnk f.lk={ d1 with lk:=f.lk } by unfold Dp.lnk;rw[if_pos hne]];exact ys0 bs d1 { d1 with lk:=f.lk } _ rfl
   ·refine PWr.skip ⟨rfl,?_⟩;have hne:¬ f.lk≠-1:=by simpa using h
    rw[show d1.lnk f.lk=d1 by unfold Dp.lnk;rw[if_neg hne]]
  have g2:=zt2 g1 f.lk hf.2;generalize d1.lnk f.lk=d2 at *;have fo:=zte d2 f H.length (H.length+1) _ (yD d2 [⟨118,0,zx f⟩]) (g2.mono om) hf1;rw[yT]at fo;(repeat refine PWr.seq ?_);refine PWr.rg rfl rfl (fun _ _ h=>h) fun K hK=> ?_;refine sqx (nq2 yF (nq2 f0 f4)) ?_;refine VCx.call (fo) rfl ?_;simp(maxSteps:=3000000) (disch:=omega) only[go_sem,↓reduceIte,reduceCtorEq];refine hK _ _ ?_;clear hK K;refine⟨by rw[qA (by rw[yl];omega),hbs];exact hid _ _,?_⟩;rw[hrd,qE _ _ (by rw[yl];omega),hset];exact Fin.cut rfl (by rw[yl,yl]) hsc (.id (.bool _))
 ·rw[hfin];have hstru:zaa L=(dpN L (as0 sq0) dp0 0 L).flush.en:=rfl;have hG:=zrd L hL L 0 (as0 sq0) dp0 rfl (zrB L) zuc (Nat.zero_le _);have hfl:=(zff hG).1;have hd0:=zt3 H L fl b o (dpN L (as0 sq0) dp0 0 L) [];have ht:=zqN H L fl b o (dpN L (as0 sq0) dp0 0 L) (dpN L (as0 sq0) dp0 0 L).flush [];simp only[qB]at hd0 ht;have fo:=zhI _ H.length (H.length+1) _ hd0 (hG.mono om);rw[ht]at fo;have hgd:=fun d=>zdK H L fl b o d [] 0 om;have hge:=fun d=>zdK H L fl b o d [] 1 om;have hgq:=fun d=>zdK H L fl b o d [] 3 om;simp only[qB,qT,List.getElem?_cons_zero,List.getElem?_cons_succ,kx]at hgd hge hgq;unfold dpB at hgd;refine PWM.at [3] (?_:PWM _ _ _ _ [(3,.ptr H.length 0 0)] _ _) rfl rfl;(repeat refine PWM.seq ?_);refine PWM.rg rfl rfl fun K hK=> ?_;refine sqz ?_;refine VCx.call (fo) rfl ?_;simp(maxSteps:=3000000) (disch:=omega) only[go_sem,↓reduceIte,reduceCtorEq];refine hK _ _ ?_;clear hK K;rw[hstru];generalize (dpN L (as0 sq0) dp0 0 L).flush=d at *;(repeat refine PWM.seq ?_);refine PWM.rg rfl rfl fun K hK=> ?_;refine sqx hgd ?_;refine hK _ _ ?_;clear hK K;refine PWM.ret ⟨b,H.length+3,.msl (H.length+1) (d.en.length * 147) 0 d.en.length 147 true,rfl,hgq d,rfl,?_⟩;have hcut:(kH H L fl b o d).set (H.length+3) ⟨0,0,[.lp b (.deferred none)]⟩=H++(dpB (H.length+1) d::enB d.en::[⟨22,0,[.slice (itL L) L.length fl]⟩,⟨0,0,[.lp b (.deferred none)]⟩,⟨0,0,[.lp (b+1) o]⟩]):=by unfold kH;rw[zdy];rfl
  rw[hcut];refine Fin.base (Fz.mslC (e:=71) (xs:=d.en.flatMap zn) om ?_ ?_ (FzC.refl (zbx _ _)))
  ·rw[qL om,qM];rfl
  ·rw[zfU hfl.ok.sq]
end Go.Proofs.YtpjlfoficnpfoaaGreatDoor.Sc
