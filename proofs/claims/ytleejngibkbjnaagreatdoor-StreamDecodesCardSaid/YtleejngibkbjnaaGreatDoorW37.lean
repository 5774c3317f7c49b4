/-
  Parts of the proof. No condition.
-/
import Derived.RangeFuncRecord
import Derived.RangeFuncIn
import Derived.Test.YtleejngibkbjnaaGreatDoorW03
open Array renaming length_toList → qD
open List renaming range → qA, range_eq_range' → qB
set_option linter.all false
set_option maxRecDepth 100000
set_option maxHeartbeats 32000000
namespace Go.Proofs.YtleejngibkbjnaaGreatDoor.Pm
open Go.RowKit
variable {P:Program} {C:Ctx} {H:za} {w:World} {F:Fr} {a:Act} {N:Nat}
abbrev wFe(rd:Option Nat):Fence:={ Fence.wide with round:=rd }
section lift
variable {rd:Option Nat} {Q:Exit->Act->World->Prop}
theorem rows_in{row:String}{args:Array Value}{R:Value->World->Prop}{n:Nat}(h:Rows P row args w R):RowsIn (wFe rd) n P row args w R:=by intro c cs _;obtain⟨v,w',r,s⟩:=h c cs;exact⟨v,w',r,stepsIn_wide.2 s⟩
theorem zeC{n:Nat}:(wFe rd).depth.isSome=true->1<=n:=λe=>by simp[Fence.wide]at e
theorem zuQ{o:Oper}{next:Act->World->Prop}:∀{r:Result Next},o.upon P a next Q r->o.uponIn (wFe rd) 0 P a next Q r
 | .ok v w,h=>by
  cases v<;>first
   | exact h
   | exact False.elim h
   | exact⟨zeC,callsIn_wide.2 h⟩
   | exact⟨zeC,rows_in h⟩
 | .halt p w,h=>by
  cases p<;>first
   | exact h
   | exact False.elim h
def zaQ(o:Oper):Bool:=match o.op with| .defer _=>false|_=>true
theorem zwY{o:Oper}{next:Act->World->Prop}(hd:zaQ o=true)(h:o.wp P a w next Q):o.wpIn (wFe rd) 0 P a w next Q:=by
 refine⟨λ_ _=>trivial,?_⟩;have e:o.semAt (wFe rd).round a.eval=execOp a.eval o:=Oper.semAt_eq _ _ _ λc hc=>by rw[zaQ,hc]at hd;cases hd
 rw[e];exact zuQ h
theorem zvD{o:Oper}{next next':Act->World->Prop}(hn:∀ a w,next a w->next' a w)(h:o.wp P a w next Q):o.wp P a w next' Q:=by
 unfold Oper.wp at *;generalize (execOp a.eval o).run P w=r at *;cases r with
 | ok v w=>cases v<;>first
   | exact hn _ _ h
   | exact False.elim h
   | (refine Calls.mono h λe w' he=> ?_;cases e<;>first|exact hn _ _ he|exact he)
   | exact Rows.mono h λ_ _ he=>hn _ _ he
 | halt p w=>cases p<;>exact h
theorem zpg{ops:Array Oper}(hd:∀ o∈ops.toList,zaQ o=true)(lo:¬ LetsOut Q):∀(l:List Oper) (k:Nat),(∀ j,j<l.length->l[j]? =ops[k+j]?)->∀(a:Act) (w:World),wpList P ops Q l a w->wpOpsIn (wFe rd) 0 P ops Q (List.range' k l.length) a w
 | [],k,_,a,w,h=>h
 | o::r,k,hj,a,w,h=>by
  have h0:ops[k]? =some o:=by have:=hj 0 sp;simpa using this.symm
  have hr:=zpg hd lo r (k+1) λj hl=>by have:=hj (j+1) (by simp;omega);grind
  rw[gZ,mC];unfold wpOpsIn;rw[h0];unfold wpList at h;have hm:zaQ o=true:=hd o (by rw[vX];exact Array.mem_of_getElem? h0);dsimp only;split
  .grind[zwY,zvD]
  .rename_i hw;rw[gC hw]at h;exact⟨λ_ _=>trivial,hr _ _ h⟩
theorem zqf{id:Nat}{ops:Array Oper}(hd:ops.toList.all zaQ=true)(lo:¬ LetsOut Q)(h:wpList P ops Q ops.toList a w):(Code.region id ops false).wpIn (wFe rd) 0 P Q a w:=by refine wpIn_region ?_;grind[qB,qD,zpg,List.all_eq_true.1]
end lift
def PWr(P:Program)(E:Env)(l:Nat)(c:Code)(F:Fr)(H:za)(Q:Exit->Fr->za->Prop):Prop:=HSc E.H0->∀(C:Ctx) (a:Act) (w:World),a.defers=[]->WRel C H w->FRel C E.N (slot F) a->c.wpIn (wFe (some l)) 0 P (Post E C w Q) a w
section rules
variable {E:Env} {l:Nat} {Q:Exit->Fr->za->Prop}
theorem PWr.skip(h:Q .normal F H):PWr P E l .skip F H Q:=λhs C a w hd hw hf=>wpIn_skip ⟨C,F,H,.refl _,hd,hw,.refl _ _,hf,h⟩
theorem PWr.seq{x y:Code}(h:PWr P E l x F H (zhV (λF' H'=>PWr P E l y F' H' Q) Q)):PWr P E l (.seq x y) F H Q:=λhs C a w hd hw hf=>by
 refine wpIn_seq (wpIn_mono (h hs C a w hd hw hf) ?_);rintro e a1 w1 ⟨C1,F1,H1,q1,q2,q3,q4,q5,q6⟩;cases e with
 | normal=>exact wpIn_mono (q6 hs C1 a1 w1 q2 q3 q5) λ_ _ _ hp=>hp.trans q1 q4
 | _=>exact⟨C1,F1,H1,q1,q2,q3,q4,q5,q6⟩
theorem PWr.cond{c:Operand}{x y:Code}{t:Bool}(hc:ev (slot F) c= .bool t)(h1:t=true->PWr P E l x F H Q)(h2:t=false->PWr P E l y F H Q):PWr P E l (.cond c x y) F H Q:=λhs C a w hd hw hf=>by have hv:=zx hf c;rw[hc]at hv;exact wpIn_cond_split (zar hv) (λht=>h1 ht hs C a w hd hw hf) (λht=>h2 ht hs C a w hd hw hf)
theorem PWr.block{id:Nat}{c:Code}(h:PWr P E l c F H (zey id Q)):PWr P E l (.block id c) F H Q:=λhs C a w hd hw hf=>by
 refine wpIn_block (wpIn_mono (h hs C a w hd hw hf) ?_);rintro e a1 w1 ⟨C1,F1,H1,q1,q2,q3,q4,q5,q6⟩;cases e with
 | exit id'=>
  simp only[zey]at q6;simp only[Exit.inBlock];split
  .rename_i he;rw[gD he]at q6;exact⟨C1,F1,H1,q1,q2,q3,q4,q5,q6⟩
  .rename_i he;rw[gC he]at q6;exact⟨C1,F1,H1,q1,q2,q3,q4,q5,q6⟩
 | _=>exact⟨C1,F1,H1,q1,q2,q3,q4,q5,q6⟩
theorem PWr.region{id:Nat}{ops:Array Oper}(hd:ops.toList.all (zT E.N)=true)(hn:ops.toList.all zaQ=true)(lo:∀ F H,¬ Q .outgrown F H)(h:zbK P ops.toList ops.toList (λF' H'=>Q .normal F' H') F H):PWr P E l (.region id ops false) F H Q:=λhs C a w hdf hw hf=>by
 refine zqf hn ?_ ?_
 .rintro⟨a,w,C',F',H',_,_,_,_,_,hq⟩;simp_all
 have:=zbM (P:=P) (all:=ops.toList) ops.toList F H hd h C a w hdf hw hf (Post E C w Q) (λC' F' H' a' w' p1 p2 p3 p4 p5 p6=>⟨C',F',H',p1.toN _,p2,p3,p4,p5,p6⟩);omega
theorem PWr.keep{c:Code}(ks:List Nat)(h:PWr P E l c (kp ks F) H Q):PWr P E l c F H Q:=λhs C a w hd hw hf=>h hs C a w hd hw (hf.keep ks)
end rules
theorem WRel.lpAt(h:WRel C H w){id l:Nat}{o:Obj}{k:Blk}(hk:H[id]? =some k)(hc:k.cells=[.lp l o]):C.mu[id]? =some none/\C.cp[id]? =some (l+1)/\C.B<=l/\w.heap[l]? =some o/\zn0 o=false:=by
 obtain⟨m,hm⟩:∃ m,C.mu[id]? =some m:=⟨C.mu[id]'(by rw[h.len];exact(gA.1 hk).1),gG _⟩;cases m with
 | none=>
  rcases h.gho id k hk hm with h0|⟨b,es,clock,q1,q2,q3,q4,q5⟩|⟨b,r,q1,q2,q3,q4⟩
  .simp_all
  .have h1:0<es.size:=by simp_all
   cases q5 0 (.lp l o) es[0] (by rw[hc];rfl) (wG h1)
  simp_all
 | some b=>obtain⟨cur,_,_,_,q6,_⟩:=h.own id k b hk hm;have:=q6 (.lp l o) (by rw[hc];simp);cases this
theorem WRel.lpAlloc(h:WRel C H w)(e v:Nat)(ob:Obj)(hcl:zn0 ob=false):CLe C (C.more none (w.heap.size+1) v)/\WRel (C.more none (w.heap.size+1) v) (H++[⟨e,v,[.lp w.heap.size ob]⟩]) (w.alloc ob)/\Below C.B w (w.alloc ob):=by
 have hle:CLe C (C.more none (w.heap.size+1) v):=C.le_more _ _ _ (λb' e=>by cases e) (h.len.trans h.lenv.symm) (h.lenc.trans h.lenv.symm);refine⟨hle,?_,(Below.refl _ _).alloc h.base _⟩;have e1:=h.len;have e2:=h.lenv;have e3:=h.lenc;refine⟨h.gl.mono hle.M,?_,?_,?_,?_,?_,?_,?_,?_,?_,?_,?_,zeN h (λp _ hp i hi hc=> ?_)⟩
 .have:=h.base;simp only[Ctx.more,World.size_alloc];omega
 .have:=h.tople;simp only[Ctx.more,World.size_alloc];omega
 .intro b o u hu;have hb:=h.imm_lt (o:=o) hu;exact(World.cell?_alloc_lt w _ ⟨b,o,none⟩ hb).trans (h.imm b o u hu)
 .simp[Ctx.more,e1]
 .simp[Ctx.more,e2]
 .simp[Ctx.more,e3]
 .intro id k hk;simp only[Ctx.more];rcases zE hk with⟨hid,hk⟩|⟨rfl,rfl⟩
  .rw[gK om];exact h.ver id k hk
  simp_all
 .intro id k hk hm;simp only[Ctx.more]at hm |-;rcases zE hk with⟨hid,hk⟩|⟨rfl,rfl⟩
  .rw[gK om]at hm |-;exact(h.gho id k hk hm).imp_right (λm=>m.mono hle rfl (λb es c hp hb=>by rw[Below.heap_alloc _ _ _ (vJ.1 hb).1];exact hb))
  .exact .inr (.inr ⟨w.heap.size,ob,by simp[<-e3],h.base,heap_alloc_new w _,rfl,hcl⟩)
 .intro id k b hk hm;simp only[Ctx.more]at hm |-;rcases zE hk with⟨hid,hk⟩|⟨rfl,rfl⟩
  .rw[gK om]at hm;obtain⟨c,q3,q4,q5,q6,q7,q8⟩:=h.own id k b hk hm;exact⟨c,by rw[gK om];exact q3,q4,by rw[Below.heap_alloc _ _ _ (h.mu_lt hm)];exact q5,q6,q7,λj x u hx hu=>(q8 j x u hx hu).mono hle⟩
  simp_all
 .intro id b hb o;simp only[Ctx.more]at hb |-;rcases zE hb with⟨hid,hb1⟩|⟨rfl,hb1⟩
  .exact h.disj id b hb1 o
  .cases hb1
 .intro i j b hi hj;simp only[Ctx.more]at hi hj;rcases zE hi with⟨li,hi⟩|⟨li,hi⟩<;>rcases zE hj with⟨lj,hj⟩|⟨lj,hj⟩
  .exact h.inj i j b hi hj
  all_goals simp_all
 .have:=h.map_lt hi hc;omega
theorem WRel.lpSet(h:WRel C H w){id l:Nat}{o:Obj}{k:Blk}(hk:H[id]? =some k)(hc:k.cells=[.lp l o])(o':Obj)(hcl:zn0 o'=false):
  WRel C (H.set id ⟨k.e,k.ver,[.lp l o']⟩) (w.putObj l o')/\Below C.B w (w.putObj l o'):=by
 obtain⟨hm,hp,hB,hb,hcl0⟩:=h.lpAt hk hc;have hid:id<H.length:=(gA.1 hk).1;have hbl:l<w.heap.size:=(vJ.1 hb).1;have e1:=h.len;have e2:=h.lenv;have e3:=h.lenc;have oth:∀ b',b'≠l->(w.heap.setIfInBounds l o')[b']? =w.heap[b']? :=λb' hne=>by grind
 refine⟨⟨h.gl,?_,?_,?_,?_,?_,?_,?_,?_,?_,h.disj,h.inj,h.minj⟩,rfl,rfl,rfl,by simp,λi hi=>oth i om⟩
 .have:=h.base;simpa using this
 .have:=h.tople;simpa using this
 .intro b' o2 u hu;have hcu:=h.imm b' o2 u hu;have hne:b'≠l:=by rintro rfl;cases o<;>first|(simp[World.cell?,hb]at hcu;done)|(simp[zn0]at hcl0;done)
  simp only[World.cell?,World.putObj]at hcu |-;rw[oth b' hne];exact hcu
 .simp[e1]
 .simp[e2]
 .simp[e3]
 .intro i k' hk';by_cases hi:i=id
  .subst hi;simp[hid]at hk';subst hk';exact h.ver i k hk
  .rw[gR om]at hk';exact h.ver i k' hk'
 .intro i k' hk' hm';by_cases hi:i=id
  .subst hi;simp[hid]at hk';subst hk';exact .inr (.inr ⟨l,o',hp,hB,World.putObj_heap_same hbl,rfl,hcl⟩)
  .rw[gR om]at hk';exact(h.gho i k' hk' hm').imp_right (λm=>m.mono (.refl _) rfl (λb2 es2 c2 hp2 hb2=>by
    have hne:b2≠l:=by rintro rfl;exact hi (h.minj i id b2 hm' hm hp2 hp)
    exact(oth b2 hne).trans hb2))
 .intro i k' b' hk' hm';by_cases hi:i=id
  .subst hi;rw[hm]at hm';cases hm'
  .rw[gR om]at hk';obtain⟨c,q3,q4,q5,q6,q7,q8⟩:=h.own i k' b' hk' hm';have hne:b'≠l:=by grind[zn0]
   exact⟨c,q3,q4,(oth b' hne).trans q5,q6,q7,q8⟩
def YldOk(P:Program)(y:PV)(args:List PV)(H:za)(v:PV)(H':za):Prop:=
 ∀(C:Ctx) (q:Value) (us:List Value) (w:World),WRel C H w->VRel C y q->VRels C args us->∃ l fn tmps assign body,q= .func (.yield l) #[] #[]/\(Instr.yield l us.toArray).run P w= .ok (.round l fn tmps assign body) w/\
  RoundIn Fence.wide 0 P l fn tmps assign body w λe w'=>∃ C' u,CLe C C'/\WRel C' H' w'/\Below C.B w w'/\e= .returned u/\VRel C' v u
def zg3(rd:Option Nat)(P:Program)(ops:Array Oper)(Q:Exit->Act->World->Prop):List Oper->Act->World->Prop
 | [],a,w=>Q .normal a w
 | o::r,a,w=>if Region.wanted o (yielded ops a.tmps)then o.wpIn (wFe rd) 0 P a w (zg3 rd P ops Q r) Q else zg3 rd P ops Q r (a.put o.dst undef) w
theorem zuH{rd:Option Nat}{ops:Array Oper}{Q:Exit->Act->World->Prop}:∀(l:List Oper) (k:Nat),(∀ j,j<l.length->l[j]? =ops[k+j]?)->∀(a:Act) (w:World),zg3 rd P ops Q l a w->wpOpsIn (wFe rd) 0 P ops Q (List.range' k l.length) a w
 | [],k,_,a,w,h=>h
 | o::r,k,hj,a,w,h=>by
  have h0:ops[k]? =some o:=by have:=hj 0 sp;simpa using this.symm
  have hr:=zuH (rd:=rd) (Q:=Q) r (k+1) λj hl=>by have:=hj (j+1) (by simp;omega);simpa[vT,sG 1 j]using this
  rw[gZ,mC];unfold wpOpsIn;rw[h0];unfold zg3 at h;dsimp only;split
  .rename_i hw;rw[gD hw]at h;have e:zg3 rd P ops Q r=zg3 rd P ops Q r:=rfl;refine⟨h.1,?_⟩;have h2:=h.2;revert h2;generalize (o.semAt (wFe rd).round a.eval).run P w=res;intro h2;cases res with
   | ok v w=>cases v<;>first
     | exact hr _ _ h2
     | exact False.elim h2
     | exact⟨h2.1,h2.2.mono λe w' he=>by cases e<;>first|exact hr _ _ he|exact he⟩
     | exact⟨h2.1,h2.2.mono λ_ _ he=>hr _ _ he⟩
   | halt p w=>cases p<;>exact h2
  .rename_i hw;rw[gC hw]at h;exact⟨λ_ _=>trivial,hr _ _ h⟩
theorem zlz{rd:Option Nat}{all:List Oper}{K:Fr->za->Prop}{D:List Deferred}{rest:List Oper}:∀(l:List Oper) (F:Fr) (H:za),l.all (zT N)=true->l.all zaQ=true->zbK P all l K F H->∀(C:Ctx) (a:Act) (w:World),a.defers=D->WRel C H w->FRel C N (slot F) a->
  ∀ Q:Exit->Act->World->Prop,(∀ C' F' H' a' w',CLe C C'->a'.defers=D->WRel C' H' w'->Below C.B w w'->FRel C' N (slot F') a'->K F' H'->zg3 rd P all.toArray Q rest a' w')->zg3 rd P all.toArray Q (l++rest) a w
 | [],F,H,_,_,h,C,a,w,hd,hw,hf,Q,hQ=>hQ C F H a w (.refl _) hd hw (.refl _ _) hf h
 | o::r,F,H,hall,hnd,h,C,a,w,hd,hw,hf,Q,hQ=>by
  simp only[dW,gB]at hall hnd;simp only[zbK]at h;rw[uZ];split at h
  .rename_i b hb;have hwant:=zaw hf hb;unfold zg3;cases b with
   | true=>
    rw[gD hwant];have h1:=h.1 rfl;have step:∀ R,zcX P o (slot F) H R->(∀ v H',R v H'->zbK P all r K (put F o.dst v) H')->o.wpIn (wFe rd) 0 P a w (zg3 rd P all.toArray Q (r++rest)) Q:=λR he hr=>by refine zwY hnd.1 (zb8 hall.1 hw hf he _ _ λC' u w' v H' q0 q1 q2 q3 q4=> ?_);rw[<-zaH]at q4;refine zlz (D:=D) (rest:=rest) r _ _ hall.2 hnd.2 (hr v H' q0) C' _ w' (by cases ho:o.dst<;>simp[Act.put,hd]) q2 q4 Q ?_;intro C'' F'' H'' a'' w'' p1 p2 p3 p4 p5 p6;exact hQ C'' F'' H'' a'' w'' (q1.trans p1) p2 p3 (q3.trans (by rw[<-q1.B];exact p4)) p5 p6
    split at h1
    .rename_i g args hc;obtain⟨R,hcall,hr⟩:=h1;exact step R (by unfold zcX;rw[hc];exact hcall) hr
    .rename_i hc;split at h1
     .rename_i v H' hp;exact step (λv' H''=>v'=v/\H''=H') (by unfold zcX;rw[hc];exact⟨v,H',hp,rfl,rfl⟩) (λv' H'' e=>by rw[e.1,e.2];exact h1)
     simp_all
   | false=>rw[gC (by rw[hwant];simp)];have h2:=h.2 rfl;have q4:=hf.put o.dst (zaX hall.1) (VRel.undefV (C:=C));rw[<-zaH]at q4;exact zlz (D:=D) (rest:=rest) r _ _ hall.2 hnd.2 h2 C _ w (by cases ho:o.dst<;>simp[Act.put,hd]) hw q4 Q hQ
  simp_all
theorem zjR{rd:Option Nat}{id:Nat}{ops:Array Oper}{Q:Exit->Act->World->Prop}(h:zg3 rd P ops Q ops.toList a w):(Code.region id ops false).wpIn (wFe rd) 0 P Q a w:=by refine wpIn_region ?_;grind[qB,qD,zuH]
theorem zpU{rd:Option Nat}{o:Oper}{x:Operand}{xs:Array Operand}{ts:Array TypeId}{v:PV}{H':za}(hd:zT N o=true)(hw:WRel C H w)(hf:FRel C N (slot F) a)(ho:o.op= .call ⟨.value x,xs,ts⟩)
  (h:YldOk P (ev (slot F) x) (xs.toList.map (ev (slot F))) H v H') (next:Act->World->Prop) (Q:Exit->Act->World->Prop)
  (hn:∀ C' u w',CLe C C'->WRel C' H' w'->Below C.B w w'->FRel C' N (slot (put F o.dst v)) (a.put o.dst u)->next (a.put o.dst u) w'):o.wpIn (wFe rd) 0 P a w next Q:=by
 obtain⟨hal,har⟩:=zeW hf xs.toList;obtain⟨l,fn,tmps,assign,body,e1,e2,e3⟩:=h C _ _ w hw (zx hf x) ⟨hal,har⟩;refine⟨λ_ _=>trivial,?_⟩;have es:o.semAt (wFe rd).round a.eval=execOp a.eval o:=Oper.semAt_eq _ _ _ λc hc=>by simp_all
 have ea:(#[]:Array Value)++xs.map a.eval=(xs.toList.map a.eval).toArray:=by grind
 have hrun:(execOp a.eval o).run P w= .ok (.round l fn tmps assign body) w:=by simp only[execOp,ho,resolve,e1,Deferred.ofValue,invoke,Sem.run_bind,Sem.run_pure,Result.andThen_ok,ea,e2]
 rw[es,hrun,Oper.uponIn_round];refine⟨zeC,?_⟩;have e3':RoundIn (wFe rd) 0 P l fn tmps assign body w _:=e3;refine e3'.mono ?_;rintro e w' ⟨C',u,q1,q2,q3,rfl,q5⟩;refine hn C' u w' q1 q2 q3 ?_;rw[zaH];exact(hf.mono q1).put _ (zaX hd) q5
section rules
variable {E:Env} {Q:Exit->Fr->za->Prop}
theorem PW.region_y{id:Nat}{ops:Array Oper}(n:Nat)(hd:ops.toList.all (zT E.N)=true)(hnd:ops.toList.all zaQ=true)
  (h:zbK P ops.toList (ops.toList.take n) (λF' H'=>∃ o r x xs ts v H'',ops.toList.drop n=o::r/\zbZ ops.toList (slot F') o=some true/\o.op= .call ⟨.value x,xs,ts⟩/\YldOk P (ev (slot F') x) (xs.toList.map (ev (slot F'))) H' v H''/\zbK P ops.toList r (λF2 H2=>Q .normal F2 H2) (put F' o.dst v) H'') F H):
  PW P E (.region id ops false) F H Q:=λhs C a w hdf hw hf=>by
 refine(wpIn_wide (n:=0)).1 (zjR (rd:=none) ?_);have hdt:(ops.toList.take n).all (zT E.N)=true:=uJ.2 λo ho=>uJ.1 hd o (vI ho);have hnt:(ops.toList.take n).all zaQ=true:=uJ.2 λo ho=>uJ.1 hnd o (vI ho);have:=zlz (rd:=none) (P:=P) (all:=ops.toList) (rest:=ops.toList.drop n) (ops.toList.take n) F H hdt hnt h C a w hdf hw hf (Post E C w Q) (λC' F' H' a' w' p1 p2 p3 p4 p5 p6=>by
  obtain⟨o,r,x,xs,ts,v,H'',e1,e2,e3,e4,e5⟩:=p6;have mem:∀ o'∈o::r,o'∈ops.toList:=λo' ho=>wL (by rw[e1];exact ho);rw[e1];unfold zg3;rw[gD (zaw p5 e2)];refine zpU (uJ.1 hd o (mem o uK)) p3 p5 e3 e4 _ _ λC2 u w2 g1 g2 g3 g4=> ?_;have hr1:r.all (zT E.N)=true:=uJ.2 λo' ho=>uJ.1 hd o' (mem o' (uM _ ho));have hr2:r.all zaQ=true:=uJ.2 λo' ho=>uJ.1 hnd o' (mem o' (uM _ ho));have:=zlz (rd:=none) (P:=P) (all:=ops.toList) (rest:=[]) r _ _ hr1 hr2 e5 C2 _ w2 (by cases ho:o.dst<;>simp[Act.put,p2]) g2 g4 (Post E C w Q) (λC3 F3 H3 a3 w3 t1 t2 t3 t4 t5 t6=>
   ⟨C3,F3,H3,((p1.trans g1).trans t1).toN _,t2,t3,(p4.trans (by rw[<-p1.B];exact g3)).trans (by rw[<-p1.B,<-g1.B];exact t4),t5,t6⟩)
  rwa[gQ]at this)
 rw[rH]at this;simpa using this
end rules
def znr(H:za)(H':za)(id:Nat)(e ver l:Nat)(r:Loop):Exit->Fr->za->Prop
 | .normal,_,H2=>H2[id]? =some ⟨e,ver,[.lp l (.loop { r with state:=.busy })]⟩/\Fin H (.bool true) H' (.bool true) (H2.set id ⟨e,ver,[.lp l (.loop r)]⟩)
 | _,_,_=>False
def zlg(P:Program)(E:Env)(Q:Exit->Fr->za->Prop)(id:Nat)(e ver l:Nat)(r:Loop):Exit->Fr->za->Prop
 | .normal,F1,H1=>H1[id]? =some ⟨e,ver,[.lp l (.loop r)]⟩/\PWr P E l r.body F1 (H1.set id ⟨e,ver,[.lp l (.loop { r with state:=.busy })]⟩) Q
 | _,_,_=>False
theorem zpw{v v':PV}{Hout:za}{C1:Ctx}{u:Value}(hw:WRel C H w)(hle:CLe C C1){H':za}{w':World}(hw':WRel C1 H' w')(hB:Below C.B w w')(hv:VRel C1 v' u)(h:Fin H v Hout v' H'):
  ∃ C2,CLe C C2/\WRel C2 Hout w'/\VRel C2 v u:=by
 rcases h with⟨rfl,rfl⟩|⟨K,d,rfl,rfl,hfz⟩|h
 .exact⟨C1,hle,hw',hv⟩
 .obtain⟨g1,g2⟩:=WRel.give hw hle hw';exact⟨_,g1,g2,zgE hw' _ d _ _ _ hv hfz⟩
 .obtain⟨hlen,hc,hfz⟩:=h hw.hsc;obtain⟨g1,g2⟩:=hw'.cutN hc;exact⟨_,((hle.toN H.length).trans (g1.less hlen)).full hw.lenv,g2,hfz.sound hw' hv⟩
theorem YldOk.intro{l id e ver:Nat}{us:List Value}{fs:List PV}{r:Loop}{p:Nat}{x:PV}{G:Fr}{H':za}(hr1:r.tmps=us.toArray)(hr2:r.state= .ready)(hr3:r.pending=none)(hps:r.params= #[p])(hp:p<us.length)
  (hG:∀ t,slot G t= .undef\/(t<us.length/\fs[t]? =some (slot G t))) (hid:H[id]? =some ⟨e,ver,[.lp l (.loop r)]⟩)
  (h:PWr P ⟨us.length,H⟩ l r.assign ((p,x)::G) H (zlg P ⟨us.length,H⟩ (znr H H' id e ver l r) id e ver l r)):YldOk P (.yl l us fs) [x] H (.bool true) H':=by
 intro C q args w hw hy hargs;cases hy with
 | yl hl hR=>
 obtain⟨u,rfl⟩:∃ u,args=[u]:=by
  match args,hargs.1 with
  | [u],_=>exact⟨u,rfl⟩
 have hx:VRel C x u:=hargs.2 0 x u rfl rfl;obtain⟨m1,m2,m3,m4,m5⟩:=hw.lpAt hid rfl;refine⟨l,r.fn,r.tmps.setIfInBounds p u,r.assign,r.body,rfl,?_,?_⟩
 .rw[run_yield m4 (by rw[hps];rfl),hps];simp
 have hfr0:FRel C us.length (slot G) { tmps:=r.tmps,defers:=[] }:=by
  refine⟨by simp[hr1],λt=> ?_⟩;rcases hG t with h0|⟨h1,h2⟩
  .rw[h0];exact .undef _
  .have h3:t<fs.length:=(gA.1 h2).1;have e3:us[t]? =some (r.tmps.getD t Go.undef):=by simp_all
   grind
 have hfr:FRel C us.length (slot ((p,x)::G)) { tmps:=r.tmps.setIfInBounds p u,defers:=[] }:=by have:=hfr0.put (some p) (λt ht=>by cases ht;exact hp) hx;rw[<-zaH]at this;exact this
 have lo:∀{e1:Exit} {F1:Fr} {H1:za},zlg P ⟨us.length,H⟩ (znr H H' id e ver l r) id e ver l r e1 F1 H1->e1= .normal:=fun{e1 _ _} hq=>by cases e1<;>first|rfl|exact hq.elim
 refine roundIn_of_wpIn trivial (wpIn_mono (h hw.hsc C _ w rfl hw hfr) ?_);rintro e1 a1 w1 ⟨C1,F1,H1,q1,q2,q3,q4,q5,q6⟩;cases lo q6;obtain⟨k1,k2⟩:=q6;obtain⟨n1,n2,n3,n4,n5⟩:=q3.lpAt k1 rfl;obtain⟨s1,s2⟩:=q3.lpSet k1 rfl (.loop { r with state:=.busy }) rfl;refine⟨_,run_beginRound n4 hr2,?_⟩;refine wpIn_mono (k2 hw.hsc C1 a1 _ q2 s1 q5) ?_;rintro e2 a2 w2 ⟨C2,F2,H2,t1,t2,t3,t4,t5,t6⟩;have:e2= .normal:=by cases e2<;>first|rfl|exact t6.elim
 subst this;obtain⟨j1,j2⟩:=t6;obtain⟨o1,o2,o3,o4,o5⟩:=t3.lpAt j1 rfl;have er:({ r with state:=(if(none:Option Code).isNone then LoopState.ready else .done),pending:=none }:Loop)=r:=by cases r;simp only at hr2 hr3;subst hr2;subst hr3;rfl
 obtain⟨v1,v2⟩:=t3.lpSet j1 rfl (.loop r) rfl;refine⟨.bool true,w2.putObj l (.loop r),?_,?_⟩
 .have:=run_endRound (P:=P) none o4;simp only[Option.isNone_none,wN]at this |-;rw[this];have e4:({ state:=.ready,pending:=none,fn:=r.fn,tmps:=r.tmps,params:=r.params,assign:=r.assign,body:=r.body,defers:=r.defers }:Loop)=r:=by simp_all
  simp only[e4]
 have b1:C1.B=C.B:=q1.B;have b2:C2.B=C.B:=t1.B.trans b1;have hB:Below C.B w (w2.putObj l (.loop r)):=((q4.trans (by rw[<-b1];exact s2)).trans (by rw[<-b1];exact t4)).trans (by rw[<-b2];exact v2);have hle:CLe C C2:=(q1.trans t1).full hw.lenv;obtain⟨C3,g1,g2,g3⟩:=zpw hw hle v1 hB (VRel.bool true) j2;exact⟨C3,_,g1,g2,hB,rfl,g3⟩
def PostM(E:Env)(C:Ctx)(w:World)(Q:Exit->List Deferred->Fr->za->Prop):Exit->Act->World->Prop:=λe a' w'=>∃ C' F' H',CLeN E.H0.length C C'/\WRel C' H' w'/\Below C.B w w'/\FRel C' E.N (slot F') a'/\Q e a'.defers F' H'
def PWM(P:Program)(E:Env)(c:Code)(D:List Deferred)(F:Fr)(H:za)(Q:Exit->List Deferred->Fr->za->Prop):Prop:=HSc E.H0->∀(C:Ctx) (a:Act) (w:World),a.defers=D->WRel C H w->FRel C E.N (slot F) a->c.wpIn Fence.wide 0 P (PostM E C w Q) a w
def zzy(K:List Deferred->Fr->za->Prop)(Q:Exit->List Deferred->Fr->za->Prop):Exit->List Deferred->Fr->za->Prop
 | .normal,D,F,H=>K D F H
 | e,D,F,H=>Q e D F H
def zuo(id:Nat)(Q:Exit->List Deferred->Fr->za->Prop):Exit->List Deferred->Fr->za->Prop
 | .exit id',D,F,H=>if id'=id then Q .normal D F H else Q (.exit id') D F H
 | e,D,F,H=>Q e D F H
section rules
variable {E:Env} {D:List Deferred} {Q:Exit->List Deferred->Fr->za->Prop}
theorem PostM.trans{C C1:Ctx}{w w1:World}(h1:CLeN E.H0.length C C1)(h2:Below C.B w w1){e:Exit}{a':Act}{w':World}(h:PostM E C1 w1 Q e a' w'):PostM E C w Q e a' w':=by obtain⟨C',F',H',q1,q3,q4,q5,q6⟩:=h;exact⟨C',F',H',h1.trans q1,q3,h2.trans (by rw[<-h1.B];exact q4),q5,q6⟩
theorem PWM.ret(h:Q .ret D F H):PWM P E .ret D F H Q:=λhs C a w hd hw hf=>wpIn_ret ⟨C,F,H,.refl _,hw,.refl _ _,hf,hd.symm▸h⟩
theorem PWM.seq{x y:Code}(h:PWM P E x D F H (zzy (λD' F' H'=>PWM P E y D' F' H' Q) Q)):PWM P E (.seq x y) D F H Q:=λhs C a w hd hw hf=>by
 refine wpIn_seq (wpIn_mono (h hs C a w hd hw hf) ?_);rintro e a1 w1 ⟨C1,F1,H1,q1,q3,q4,q5,q6⟩;cases e with
 | normal=>exact wpIn_mono (q6 hs C1 a1 w1 rfl q3 q5) λ_ _ _ hp=>hp.trans q1 q4
 | _=>exact⟨C1,F1,H1,q1,q3,q4,q5,q6⟩
theorem PWM.block{id:Nat}{c:Code}(h:PWM P E c D F H (zuo id Q)):PWM P E (.block id c) D F H Q:=λhs C a w hd hw hf=>by
 refine wpIn_block (wpIn_mono (h hs C a w hd hw hf) ?_);rintro e a1 w1 ⟨C1,F1,H1,q1,q3,q4,q5,q6⟩;cases e with
 | exit id'=>
  simp only[zuo]at q6;simp only[Exit.inBlock];split
  .rename_i he;rw[gD he]at q6;exact⟨C1,F1,H1,q1,q3,q4,q5,q6⟩
  .rename_i he;rw[gC he]at q6;exact⟨C1,F1,H1,q1,q3,q4,q5,q6⟩
 | _=>exact⟨C1,F1,H1,q1,q3,q4,q5,q6⟩
theorem PWM.region{id:Nat}{ops:Array Oper}(hd:ops.toList.all (zT E.N)=true)(hnd:ops.toList.all zaQ=true)(h:zbK P ops.toList ops.toList (λF' H'=>Q .normal D F' H') F H):PWM P E (.region id ops false) D F H Q:=λhs C a w hdf hw hf=>by refine zjR (rd:=none) ?_;have:=zlz (rd:=none) (P:=P) (all:=ops.toList) (rest:=[]) ops.toList F H hd hnd h C a w hdf hw hf (PostM E C w Q) (λC' F' H' a' w' p1 p2 p3 p4 p5 p6=>⟨C',F',H',p1.toN _,p3,p4,p5,p2.symm▸p6⟩);simp_all
theorem PWM.keep{c:Code}(ks:List Nat)(h:PWM P E c D (kp ks F) H Q):PWM P E c D F H Q:=λhs C a w hd hw hf=>h hs C a w hd hw (hf.keep ks)
def zgt(fn:FuncId)(us:List Value)(ps:Array Tmp)(assign body:Code)(d:Nat):Loop:={ state:=.ready,pending:=none,fn,tmps:=us.toArray,params:=ps,assign,body,defers:=d }
def lpB(fn:FuncId)(us:List Value)(ps:Array Tmp)(assign body:Code)(d:Nat):za:=[⟨0,0,[.lp d (.deferred (some []))]⟩,⟨0,0,[.lp (d+1) (.loop (zgt fn us ps assign body d))]⟩]
theorem PWM.range{g:Operand}{ps:Array Tmp}{assign body:Code}{f:FuncId}{first captured:List PV}(hg:ev (slot F) g= .func f first captured)
  (h:∀(fn:FuncId) (us:List Value) (d:Nat),us.length=E.N->∃ v K,CallOk P f (first++[.yl (d+1) us ((qA E.N).map (slot F))]++captured) (H++lpB fn us ps assign body d) v K/\
   K[H.length]? =some ⟨0,0,[.lp d (.deferred (some []))]⟩/\K[H.length+1]? =some ⟨0,0,[.lp (d+1) (.loop (zgt fn us ps assign body d))]⟩/\
   ∀ o,Q .normal [{ target:=.collected d,args:= #[] }] F (K.set (H.length+1) ⟨0,0,[.lp (d+1) o]⟩)):
  PWM P E (.rangeFunc g ps assign body) [] F H Q:=λhs C a w hd hw hf=>by
 refine wpIn_rangeFunc λfn _=> ?_;obtain⟨v,K,hcall,k1,k2,hq⟩:=h fn a.tmps.toList w.heap.size (by simpa using hf.1);have hv:=zx hf g;rw[hg]at hv;obtain⟨us,ws,hl,hl',hR,hR',he⟩:∃ us ws,us.length=first.length/\ws.length=captured.length/\Rel C first us/\Rel C captured ws/\a.eval g= .func (.func f) us.toArray ws.toArray:=by
  generalize a.eval g=q at hv;cases hv with
  | func hl hl' hR hR'=>exact⟨_,_,hl,hl',hR,hR',rfl⟩
 have er:zgt fn a.tmps.toList ps assign body w.heap.size={ state:=.ready,pending:=none,fn,tmps:=a.tmps,params:=ps,assign,body,defers:=w.heap.size }:=by simp[zgt]
 obtain⟨a1,a2,a3⟩:=hw.lpAlloc 0 0 (.deferred (some [])) rfl;obtain⟨C2,hle,b2,t1⟩:∃ C2,CLe C C2/\WRel C2 (H++lpB fn a.tmps.toList ps assign body w.heap.size) ((w.alloc (.deferred (some []))).alloc (.loop (zgt fn a.tmps.toList ps assign body w.heap.size)))/\Below C.B w ((w.alloc (.deferred (some []))).alloc (.loop (zgt fn a.tmps.toList ps assign body w.heap.size))):=by obtain⟨b1,b2,b3⟩:=a2.lpAlloc 0 0 (.loop (zgt fn a.tmps.toList ps assign body w.heap.size)) rfl;rw[World.size_alloc]at b1 b2;rw[gU]at b2;exact⟨_,a1.trans b1,b2,a3.trans b3⟩
 have hent:=run_enterLoop_outer (P:=P) (w:=w) fn a.tmps ps assign body;rw[<-er]at hent;generalize (w.alloc (.deferred (some []))).alloc (.loop (zgt fn a.tmps.toList ps assign body w.heap.size))=W at *;refine⟨w.heap.size+1,[{ target:=.collected w.heap.size,args:= #[] }],W,{ target:=.fn (.func f) ws.toArray,args:=us.toArray++ #[Value.func (.yield (w.heap.size+1)) #[] #[]] },W,f,(us++[Value.func (.yield (w.heap.size+1)) #[] #[]]++ws).toArray,W,hent,?_,λ_ _=>trivial,?_,zeC,?_⟩
 .simp only[resolve,he,Deferred.ofValue,Sem.run_bind,Sem.run_pure,Result.andThen_ok];simp[Act.eval]
 .simp only[invoke];rw[show us.toArray++ #[Value.func (.yield (w.heap.size+1)) #[] #[]]++ws.toArray=(us++[Value.func (.yield (w.heap.size+1)) #[] #[]]++ws).toArray by apply sT;simp];exact zdz hcall.1
 refine callsIn_wide.2 ?_;have hyl:VRel C (.yl (w.heap.size+1) a.tmps.toList ((qA E.N).map (slot F))) (.func (.yield (w.heap.size+1)) #[] #[]):=by
  refine .yl (by simpa using hf.1) λj x u hx hu=> ?_;have hj:j<E.N:=by grind
  have e1:x=slot F j:=by simp_all
  have e2:u=a.tmps.getD j Go.undef:=by simp_all
  rw[e1,e2];exact hf.2 j
 have hargs:VRels C2 (first++[.yl (w.heap.size+1) a.tmps.toList ((qA E.N).map (slot F))]++captured) (us++[Value.func (.yield (w.heap.size+1)) #[] #[]]++ws):=by
  refine⟨by simp[hl,hl'],?_⟩;have r1:Rel C2 first us:=λj x u hx hu=>(hR j x u hx hu).mono hle
  have r2:Rel C2 captured ws:=λj x u hx hu=>(hR' j x u hx hu).mono hle;have r3:Rel C2 [.yl (w.heap.size+1) a.tmps.toList ((qA E.N).map (slot F))] [Value.func (.yield (w.heap.size+1)) #[] #[]]:=λj x u hx hu=>by
   cases j with
   | zero=>cases hx;cases hu;exact hyl.mono hle
   | succ j=>simp at hx
  exact Rel.append (by simp[hl]) (Rel.append hl r1 r3) r2
 refine(hcall.2 C2 _ _ b2 hargs).mono ?_;rintro e w3 ⟨C3,u,q1,q2,q3,rfl,q5⟩;obtain⟨n1,n2,n3,n4,n5⟩:=q2.lpAt k2 rfl;obtain⟨s1,s2⟩:=q2.lpSet k2 rfl (.loop { zgt fn a.tmps.toList ps assign body w.heap.size with state:=.exhausted }) rfl;refine⟨none,_,run_endLoop n4 (by simp[zgt]),?_⟩;have hB2:C2.B=C.B:=hle.B;have hB3:C3.B=C.B:=q1.B.trans hB2;refine⟨C3,F,_,(hle.trans q1).toN _,s1,?_,(hf.mono (hle.trans q1)),?_⟩
 .exact(t1.trans (by rw[<-hB2];exact q3)).trans (by rw[<-hB3];exact s2)
 .rw[show({ tmps:=a.tmps,defers:=[{ target:=.collected w.heap.size,args:= #[] }]++a.defers }:Act).defers=[{ target:=.collected w.heap.size,args:= #[] }] by simp[hd]];exact hq _
def retM(P:Program)(rs:List ResultVar)(H:za)(v:PV)(Hout:za):Exit->List Deferred->Fr->za->Prop
 | .ret,D,F,H'=>∃ d id v',D=[{ target:=.collected d,args:= #[] }]/\H'[id]? =some ⟨0,0,[.lp d (.deferred (some []))]⟩/\zw P rs (slot F) (H'.set id ⟨0,0,[.lp d (.deferred none)]⟩)=some v'/\Fin H v Hout v' (H'.set id ⟨0,0,[.lp d (.deferred none)]⟩)
 | _,_,_,_=>False
theorem CallOk.bodyM{f:FuncId}{fn:Func}{c:Code}{rs:Array ResultVar}{F0:Fr}{args:List PV}{v:PV}{Hout:za}(hf:P.funcs[f]? =some fn)(hb:fn.body=some c)(hN:fn.ntmps=N)(hrs:fn.results=rs)(hF:zb9 args 0=F0)
  (hcall:zaC P f=true) (hn:Nat.ble args.length N=true) (h:PWM P ⟨N,H⟩ c [] F0 H (retM P rs.toList H v Hout)):CallOk P f args H v Hout:=by
 subst hN hrs hF;have hn':=wB hn;refine⟨hcall,λC us w hw hargs=>callsIn_wide (n:=0).1 (callsIn_of_wp_marks hf hb trivial ?_)⟩;have hfr:FRel C fn.ntmps (slot (zb9 args 0)) { tmps:=us.toArray++Array.replicate (fn.ntmps - us.toArray.size) Go.undef,defers:=[] }:=by
  refine⟨by simp[hargs.1];omega,λt=> ?_⟩;rw[zdk];simp only[vU,wN,dM];by_cases ht:t<args.length
  .have htu:t<us.length:=by rw[hargs.1];exact ht
   have e1:args.getD t .undef=args[t]:=by simp_all
   have e2:(us.toArray++Array.replicate (fn.ntmps - us.toArray.size) Go.undef).getD t Go.undef=us[t]:=by simp_all[vO,dT]
   rw[e1,e2];exact hargs.2 t _ _ (gG ht) (gG htu)
  .have e1:args.getD t .undef= .undef:=by simp_all
   rw[e1];exact .undef _
 refine wpIn_mono (h hw.hsc C _ w rfl hw hfr) ?_;rintro e a' w' ⟨C',F',H',q1,q3,q4,q5,q6⟩;have:e= .ret:=by cases e<;>first|rfl|exact q6.elim
 subst this;obtain⟨d,id,v',hD,hid,hv',hfin⟩:=q6;obtain⟨m1,m2,m3,m4,m5⟩:=q3.lpAt hid rfl;obtain⟨s1,s2⟩:=q3.lpSet hid rfl (.deferred none) rfl;show LeavesInM Fence.wide 0 P fn a'.tmps _ a'.defers .returning w';rw[hD];refine⟨by simp,.inl ⟨d,_,rfl,run_takeDeferred m4,?_⟩⟩;obtain⟨u,hu,hr⟩:=zby s1 q5 hv';have hB:Below C.B w (w'.putObj d (.deferred none)):=q4.trans (by rw[<-q1.B];exact s2);obtain⟨C3,g1,g2,g3⟩:=zpw hw (q1.full hw.lenv) s1 hB hu hfin;exact⟨u,hr,C3,u,g1,g2,hB,rfl,g3⟩
end rules
end Go.Proofs.YtleejngibkbjnaaGreatDoor.Pm
