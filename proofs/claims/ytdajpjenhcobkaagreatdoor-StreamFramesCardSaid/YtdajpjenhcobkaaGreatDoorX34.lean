/-
  Parts of the proof. No condition.
-/
import Derived.Test.YtdajpjenhcobkaaGreatDoorX33
import Derived.Test.YtdajpjenhcobkaaGreatDoorX24
open Array renaming toList → qI
open List renaming not_mem_nil → qB, mem_cons → qF, mapM_cons → qG, mapM_nil → qH, getElem?_eq_some_iff → qJ, length_append → qK, append_assoc → qL, length_set → qM, append_nil → qN, drop_of_length_le → qP
open Nat renaming sub_self → qQ
open Option renaming bind_eq_bind → qA, bind_some → qD, pure_def → qE
open Go.Proofs.Tryz renaming prog → qO
set_option linter.all false
set_option maxRecDepth 100000
set_option maxHeartbeats 32000000
namespace Go.Proofs.YtdajpjenhcobkaaGreatDoor.Sc
open Pm Ty Go.RowKit
theorem _root_.Go.Proofs.YtdajpjenhcobkaaGreatDoor.Pm.WRel.short{C:Ctx}{H:za}{w:World}{i m:Nat}{k:Blk}(hw:WRel C H w)(hk:H[i]? =some k)(hint:∃(j:Nat) (t:IntKind) (n:Int),k.cells[j]? =some (.int t n)):WRel C (H.set i ⟨k.e,k.ver,k.cells.take m⟩) w:=by
 have hi:i<H.length:=(qJ.1 hk).1;have g:∀(id:Nat) (x:Blk),(H.set i ⟨k.e,k.ver,k.cells.take m⟩)[id]? =some x->(id=i/\x=⟨k.e,k.ver,k.cells.take m⟩)\/(id≠i/\H[id]? =some x):=λid x h=>by
  by_cases e:i=id
  .subst e;rw[List.getElem?_set_self hi]at h;injection h with h;exact .inl ⟨rfl,h.symm⟩
  .rw[List.getElem?_set_ne e]at h;exact .inr ⟨λe'=>e e'.symm,h⟩
 obtain⟨a0,a1,a2,a3,a4,a5,a6,a7,a8,a9,a10,a11,a12⟩:=hw;refine⟨a0,a1,a2,a3,by rw[qM];exact a4,by rw[qM];exact a5,by rw[qM];exact a6,λid x h=> ?_,λid x h hm=> ?_,λid x b h hm=> ?_,a10,a11,a12⟩
 .rcases g id x h with⟨rfl,rfl⟩|⟨_,h⟩
  .exact a7 id k hk
  .exact a7 _ _ h
 .rcases g id x h with⟨rfl,rfl⟩|⟨_,h⟩
  .obtain⟨j,t,n,hj⟩:=hint;rcases a8 _ _ hk hm with⟨_,e⟩|⟨b,es,cl,q1,q2,q3,q4,q5⟩|hlp
   .rw[e]at hj;cases hj
   .have hjl:=(qJ.1 hj).1;obtain⟨e,he⟩:∃ e,es[j]? =some e:=⟨_,Array.getElem?_eq_getElem om⟩;have:=q5 j _ e hj he;cases this
   .obtain⟨b,o,_,_,_,e,_⟩:=hlp;rw[e]at hj;cases j<;>simp at hj
  .exact a8 _ _ h hm
 .rcases g id x h with⟨rfl,rfl⟩|⟨_,h⟩
  .obtain⟨cur,q1,q2,q3,q4,q5,q6⟩:=a9 _ _ b hk hm;exact⟨cur,q1,q2,q3,λx hx=>q4 x (List.mem_of_mem_take hx),by simp only[List.length_take];omega,λj x u hx hu=>q6 j x u (by
    simp only[List.getElem?_take]at hx;split at hx
    .exact hx
    .cases hx) hu⟩
  .exact a9 _ _ b h hm
theorem _root_.Go.Proofs.YtdajpjenhcobkaaGreatDoor.Pm.CallEx.short{P:Program}{f:FuncId}{args:List PV}{H Ho:za}{R:PV->za->Prop}{v0:PV}{i m:Nat}(h:CallEx P f args H R)(hr:∀ v H',R v H'->v=v0/\∃ k,H'[i]? =some k/\(∃(j:Nat) (t:IntKind) (n:Int),k.cells[j]? =some (.int t n))/\Ho=H'.set i ⟨k.e,k.ver,k.cells.take m⟩):CallOk P f args H v0 Ho:=
 ⟨h.1,λC us w hw hargs=>(h.2 C us w hw hargs).mono λe w' ⟨C',u,v,H',q0,q1,q2,q3,q4,q5⟩=>by
  obtain⟨rfl,k,h1,h2,rfl⟩:=hr v H' q0;exact⟨C',u,q1,q2.short h1 h2,q3,q4,q5⟩⟩
def rT(j v n:Nat):Blk:=⟨320,0,[.msl j v 0 n 1 true]⟩
def rO{α:Type}(j v n:Nat):Rr α->Blk
 | .ok _ a=>rR j v n a
 | .er _ _=>rT j v n
theorem zon(i j v:Nat)(q:List UInt8)(n a:Nat)(c:Cx)(s:St)(H:za)(hA:H[i]? =some (rR j v n a))(hB:H[j]? =some (rB q v))(hne:i≠j)(ha:a<=n)(hn:n<=8 * q.length)(hq:q.length<=100000000):
  CallOk qO 166 [.ptr i 0 0,.agg (cxc c),.agg (stc s)] H (rvM (zdp c s q n a)) (H.set i (rO j v n (zdp c s q n a))):=by
 have h:=zpS i j v q n a c s H hA hB hne ha hn hq;have hi:=(qJ.1 hA).1;cases hm:zdp c s q n a with
 | ok y a1=>
  rw[hm]at h;exact(h.mono λv H' hR=>hR).one
 | er e a1=>rw[hm]at h;refine CallEx.short (i:=i) (m:=1) h λv' H' hR=>⟨hR.1,?_⟩;obtain⟨a2,_,rfl⟩:=hR.2;exact⟨rR j v n a2,by simp[hi],⟨1,.i64,(a2:Int),rfl⟩,by rw[List.set_set];rfl⟩
def sqL(c:Cx)(q:List UInt8)(n:Nat):Nat->St->Nat->Rr (List Mb×List Int)
 | 0,_,a=>.ok ([],[]) a
 | r+1,s,a=>(zdp c s q n a).bind λy a1=>(sqL c q n r y.2 a1).bind λz a2=>.ok (y.1::z.1,y.2.q::z.2) a2
def sqT(s:Sq)(p:Pi)(b:Bool)(t:Int)(q:List UInt8):Rr (Nat×List Mb×List Int):=
 if zci s p b&&(decide (1<=t)&&decide (t<1+zaq s p))then
  (if q.length=0\/zbn q=0 then .er 2 0 else if nb q<5 then .er 3 0 else if vl q 0 5=0 then .er 2 0 else
   (sqL (cxP s p b) q (nb q) (wmb s) (st0 (vl q 0 5:Int)) 5).bind λz a=>if a=nb q then .ok (vl q 0 5,z.1,z.2) a else .er 2 a)else .er 0 0
def qC(l:List Int):List PV:=l.map (PV.int .i64)
theorem zl9(l:List Int):(qC l).length=l.length:=by simp[qC]
theorem zti(l:List Int)(x:Int):qC (l++[x])=qC l++[.int .i64 x]:=by simp[qC]
theorem znr(l:List Int)(n:Nat):∀ x∈qC l,Scoped n x:=λx hx=>by obtain⟨y,_,rfl⟩:=List.mem_map.1 hx;exact .int _ _
def ag0:PV:=.agg [.int .i64 0,.slice [] 0 true,.slice [] 0 true]
def agS(v:Int)(D:List Mb)(qs:List Int):PV:=.agg [.int .i64 v,.slice (D.flatMap mbc) D.length false,.slice (qC qs) qs.length false]
def rvQ:Rr (Nat×List Mb×List Int)->PV
 | .ok x _=>.tup [agS (x.1:Int) x.2.1 x.2.2,.int .i64 0]
 | .er e _=>.tup [ag0,ecd e]
theorem zs3(s:St)(n:Nat):∀ x∈stc s,Scoped n x:=λx hx=>by simp only[stc,qF,qB,or_false]at hx;rcases hx with rfl|rfl|rfl|rfl|rfl|rfl|rfl|rfl;all_goals exact .int _ _
def ulH(H:za)(s:Sq)(p:Pi)(t:Int)(q:List UInt8)(f:Bool)(V n a v k:Nat)(st:St)(D:List Mb)(qs:List Int):za:=H++[⟨26,0,sqc s⟩,⟨33,0,pic p⟩,⟨55,0,[.int .i64 t,.slice (bs q) q.length f]⟩,⟨130,0,[.int .i64 0,.slice [] 0 true,.slice [] 0 true]⟩,rB q V,rR (H.length+4) V n a,
 ⟨130,0,[.int .i64 (v:Int),.msl (H.length+8) (k * 408) 0 k 408 true,.msl (H.length+9) k 0 k 1 true]⟩,⟨253,0,stc st⟩,⟨109,k * 408,D.flatMap mbc⟩,⟨3,k,qC qs⟩]
theorem zvg(t:Int)(q:List UInt8)(f:Bool)(n:Nat):∀ x∈([.int .i64 t,.slice (bs q) q.length f]:List PV),Scoped n x:=λx hx=>by
 simp only[qF,qB,or_false]at hx;rcases hx with rfl|rfl
 .exact .int _ _
 .exact zr (zh _ _)
theorem ztN(H:za)(s:Sq)(p:Pi)(t:Int)(q:List UInt8)(f:Bool)(V n a v k:Nat)(st:St)(D:List Mb)(qs:List Int)(h:HSc H):HSc (ulH H s p t q f V n a v k st D qs):=zh0 (λb hb x hx=>by
 simp only[qF,qB,or_false]at hb;simp only[List.length_cons,List.length_nil];rcases hb with rfl|rfl|rfl|rfl|rfl|rfl|rfl|rfl|rfl|rfl
 .exact zbE _ _ x hx
 .exact ztr _ _ x hx
 .exact zvg _ _ _ _ x hx
 .simp only[qF,qB,or_false]at hx;rcases hx with rfl|rfl|rfl
  .exact .int _ _
  .exact zr (λx hx=>by cases hx)
  .exact zr (λx hx=>by cases hx)
 .exact zh _ _ x hx
 .simp only[rR,qF,qB,or_false]at hx;rcases hx with rfl|rfl
  .exact .msl om
  .exact .int _ _
 .simp only[qF,qB,or_false]at hx;rcases hx with rfl|rfl|rfl
  .exact .int _ _
  .exact .msl om
  .exact .msl om
 .exact zs3 _ _ x hx
 .exact zeN _ _ x hx
 .exact znr _ _ x hx) h
theorem zpk(n:Nat)(e:Int):Scoped n (.tup [ag0,.int .i64 e]):=.tup (zO λx hx=>by
 simp only[qF,qB,or_false]at hx;rcases hx with rfl|rfl
 .exact .agg (zO λx hx=>by
   simp only[qF,qB,or_false]at hx;rcases hx with rfl|rfl|rfl
   .exact .int _ _
   .exact zr (λx hx=>by cases hx)
   .exact zr (λx hx=>by cases hx))
 .exact .int _ _)
theorem zor(s:Sq)(p:Pi)(b:Bool)(t:Int)(q:List UInt8)(f:Bool)(H:za)(hs:SqOk s)(ht:zex t)(hq:q.length<=100000000):
  CallOk qO 98 [.agg (sqc s),.agg (pic p),.bool b,.agg [.int .i64 t,.slice (bs q) q.length f]] H (rvQ (sqT s p b t q)) H:=by
 have fo:=λK=>zli s p b K hs;have ro:=λK=>ziK s p K hs;have co:=λK=>zj9 s p b K hs;have h1:=zah s;have h2:=zax s hs;have h3:=zbD s hs;have h4:=zni s;have p6:(pic p).length=6:=rfl;have t6:List.take 6 (pic p)=pic p:=rfl;have l8:∀ t,(stc t).length=8:=λ_=>rfl;have c8:∀ t,(stc t).all PV.cell=true:=λ_=>rfl;have tk8:∀ t,List.take 8 (stc t)=stc t:=λ_=>rfl;have dk8:∀ t,List.drop 8 (stc t)=[]:=λ_=>rfl;generalize hres:sqT s p b t q=res;unfold sqT at hres;refine .go Tryz.func98 Tryz.ntmps98 Tryz.results98 ?_;refine .f (λK k=>by simp(maxSteps:=3000000) (disch:=omega) only[go_sem,h1,pic];exact k) ?_;suffices hrest:PW qO _ _ [(2,.bool b),(4,.ptr H.length 0 0),(5,.ptr (H.length+1) 0 0),(7,.ptr (H.length+2) 0 0),(8,.ptr (H.length+3) 0 0),(39,.bool (!(zci s p b&&(decide (1<=t)&&decide (t<1+zaq s p)))))] (H++[⟨26,0,sqc s⟩,⟨33,0,pic p⟩,⟨55,0,[.int .i64 t,.slice (bs q) q.length f]⟩,⟨130,0,[.int .i64 0,.slice [] 0 true,.slice [] 0 true]⟩]) _ by
  refine .e ?_;cases hf:zci s p b with
  | false=>
   rw[hf]at fo hrest;(repeat refine .seq ?_);refine .rg rfl λK hK=> ?_;simp(maxSteps:=3000000) (disch:=omega) only[go_sem,h2,h3,p6,t6];refine VCx.call (fo _) rfl ?_;simp(maxSteps:=3000000) (disch:=omega) only[go_sem];refine hK _ _ ?_;clear hK K;exact .at [2,4,5,7,8,39] hrest rfl rfl
  | true=>
   rw[hf]at fo hrest;rw[Bool.true_and]at hrest;by_cases ht1:1<=t
   .have d1:decide (t<1)=false:=decide_eq_false om;have hpr:=zqA (s:=s) (p:=p);have w1:IntKind.i64.wrap (t - 1)=t - 1:=w64 _ (by unfold zex at ht;omega);have d2:decide (zaq s p<=t - 1)= !decide (t<1+zaq s p):=by grind
    rw[decide_eq_true ht1,Bool.true_and,<-d2]at hrest;(repeat refine .seq ?_);refine .rg rfl λK hK=> ?_;simp(maxSteps:=3000000) (disch:=omega) only[go_sem,h2,h3,p6,t6];refine VCx.call (fo _) rfl ?_;simp(maxSteps:=3000000) (disch:=omega) only[go_sem,d1,h2,h3,p6,t6,w1];refine VCx.call (ro _) rfl ?_;simp(maxSteps:=3000000) (disch:=omega) only[go_sem];refine hK _ _ ?_;clear hK K;exact .at [2,4,5,7,8,39] hrest rfl rfl
   .have d1:decide (t<1)=true:=decide_eq_true om;rw[decide_eq_false ht1,Bool.false_and]at hrest;(repeat refine .seq ?_);refine .rg rfl λK hK=> ?_;simp(maxSteps:=3000000) (disch:=omega) only[go_sem,h2,h3,p6,t6];refine VCx.call (fo _) rfl ?_;simp(maxSteps:=3000000) (disch:=omega) only[go_sem,d1];refine hK _ _ ?_;clear hK K;exact .at [2,4,5,7,8,39] hrest rfl rfl
 cases hc:(zci s p b&&(decide (1<=t)&&decide (t<1+zaq s p)))with
 | false=>
  rw[hc,if_neg (by decide)]at hres;refine .t ?_;refine .e ?_;refine .ret ⟨.tup [ag0,.int .i64 1],by simp(maxSteps:=3000000) (disch:=omega) only[go_sem,zk,zo,qG,qH,qE,qA,qD,qI,ag0],?_⟩;rw[<-hres];exact .base (.id (zpk _ _))
 | true=>
  rw[hc,if_pos rfl]at hres;rw[Bool.and_eq_true]at hc;have hw:1<=wmb s/\wmb s<=4/\s.w.tdiv 16=((wmb s:Nat):Int):=by
   have hv:zP s p=true:=by simp_all[zci,Bool.and_eq_true]
   have:=zaC hv;grind[Int.tdiv_eq_ediv_of_nonneg,wmb]
  clear fo ro hc;refine .us ?_;by_cases hb:q.length=0\/zbn q=0
  .rw[if_pos hb]at hres;have nr:=λK=>zq2 q f K hq hb;refine .k nr ?_;refine .e ?_;refine .t ?_;refine .e ?_;refine .ret ⟨.tup [ag0,.int .i64 3],by simp(maxSteps:=3000000) (disch:=omega) only[go_sem,zk,zo,qG,qH,qE,qA,qD,qI,ag0],?_⟩;rw[<-hres];exact .base (.id (zpk _ _))
  rw[if_neg hb]at hres;obtain⟨hb1,hb2⟩:=not_or.1 hb;have nr:=λK=>ztx q f K hq hb1 hb2;obtain⟨_,n2,_⟩:=zmz q hb1 hb2;obtain⟨V,hV⟩:∃ V,V=8 * q.length:=⟨_,rfl⟩;rw[<-hV]at nr n2;generalize nb q=n at *;refine .k nr ?_;refine .e ?_;refine .us ?_;have gr:=λa X=>(apn H ([⟨26,0,sqc s⟩,⟨33,0,pic p⟩,⟨55,0,[.int .i64 t,.slice (bs q) q.length f]⟩,⟨130,0,[.int .i64 0,.slice [] 0 true,.slice [] 0 true]⟩,rB q V,rR (H.length+4) V n a]++X) 5);have gb:=λa X=>(apn H ([⟨26,0,sqc s⟩,⟨33,0,pic p⟩,⟨55,0,[.int .i64 t,.slice (bs q) q.length f]⟩,⟨130,0,[.int .i64 0,.slice [] 0 true,.slice [] 0 true]⟩,rB q V,rR (H.length+4) V n a]++X) 4);by_cases h5:n<5
  .rw[if_pos h5]at hres;have tk:=zfP (H.length+5) (H.length+4) V q n 0 5 _ (gr 0 []) (gb 0 []) om om om om;refine .f (λK k=>by simp(maxSteps:=3000000) (disch:=omega) only[go_sem];refine VCx.call (tk) rfl ?_;simp(maxSteps:=3000000) (disch:=omega) only[go_sem];exact k) ?_;refine .e ?_;refine .t ?_;refine .e ?_;refine .ret ⟨.tup [ag0,.int .i64 4],by simp(maxSteps:=3000000) (disch:=omega) only[go_sem,zk,zo,qG,qH,qE,qA,qD,qI,ag0],?_⟩;rw[<-hres];exact .base (.id (zpk _ _))
  rw[if_neg h5]at hres;have tk:=zeb (H.length+5) (H.length+4) V q n 0 5 _ (gr 0 []) (gb 0 []) om om om om om;rw[aps]at tk;simp only[qN,List.cons_append,List.nil_append,List.set_cons_succ,List.set_cons_zero,Nat.zero_add]at tk;have hvl:=zgg q 0 5;generalize vl q 0 5=v at *;refine .f (λK k=>by simp(maxSteps:=3000000) (disch:=omega) only[go_sem];refine VCx.call (tk) rfl ?_;simp(maxSteps:=3000000) (disch:=omega) only[go_sem];exact k) ?_;refine .e ?_;refine .us ?_;by_cases hv0:v=0
  .rw[if_pos hv0]at hres;have d1:((v:Int)==0)=true:=by simp[hv0]
   refine .g d1 ?_;refine .t ?_;refine .e ?_;refine .ret ⟨.tup [ag0,.int .i64 3],by simp(maxSteps:=3000000) (disch:=omega) only[go_sem,zk,zo,qG,qH,qE,qA,qD,qI,ag0],?_⟩;rw[<-hres];exact .base (.id (zpk _ _))
  rw[if_neg hv0]at hres;have d1:((v:Int)==0)=false:=by simp_all
  refine .g d1 ?_;refine .us ?_;have co1:=λK=>co K;generalize cxP s p b=c at *;obtain⟨w1,w2,w3⟩:=hw;generalize wmb s=w at *;refine .f (λK k=>by simp(maxSteps:=3000000) (disch:=omega) only[go_sem,apn,aps];exact k) ?_;refine .f (λK k=>by simp(maxSteps:=3000000) (disch:=omega) only[go_sem,apn,aps,qK,List.length_cons,List.length_nil,Nat.reduceAdd];exact k) ?_;refine .e ?_;refine .eq rfl (show _=H++[⟨26,0,sqc s⟩,⟨33,0,pic p⟩,⟨55,0,[.int .i64 t,.slice (bs q) q.length f]⟩,⟨130,0,[.int .i64 0,.slice [] 0 true,.slice [] 0 true]⟩,rB q V,rR (H.length+4) V n 5,⟨130,0,[.int .i64 (v:Int),.slice [] 0 true,.slice [] 0 true]⟩,⟨253,0,stc (st0 v)⟩]from rfl) ?_;(repeat refine .seq ?_);refine .view (Vs.ghostH (id:=H.length+6) (j:=1) 109 408 (apn _ _ 6) rfl) ?_;refine .eq rfl (show _=H++[⟨26,0,sqc s⟩,⟨33,0,pic p⟩,⟨55,0,[.int .i64 t,.slice (bs q) q.length f]⟩,⟨130,0,[.int .i64 0,.slice [] 0 true,.slice [] 0 true]⟩,rB q V,rR (H.length+4) V n 5,⟨130,0,[.int .i64 (v:Int),.msl (H.length+8) 0 0 0 408 true,.slice [] 0 true]⟩,⟨253,0,stc (st0 v)⟩,⟨109,0,[]⟩] by rw[aps,qL];simp) ?_;refine .view (Vs.ghostH (id:=H.length+6) (j:=2) 3 1 (apn _ _ 6) rfl) ?_;refine .eq rfl (?_:_=ulH H s p t q f V n 5 v 0 (st0 v) [] []) ?_
  .rw[aps,qL];simp[ulH,qC]
  refine .l ?_;suffices hl1:∀(k:Nat) (D:List Mb) (qs:List Int) (st:St) (a:Nat),k<=w->D.length=k->qs.length=k->(∀ x∈D,x.lv.length=384)->a<=n->((sqL c q n (w - k) st a).bind λz a=>if a=n then Rr.ok (v,D++z.1,qs++z.2) a else .er 2 a)=res->
    PL qO _ _ [(2,.bool b),(4,.ptr H.length 0 0),(5,.ptr (H.length+1) 0 0),(8,.ptr (H.length+3) 0 0),(11,.ptr (H.length+5) 0 0),(14,.ptr (H.length+6) 0 0),(15,.ptr (H.length+7) 0 0),(16,.int .i64 (k:Int))] (ulH H s p t q f V n a v k st D qs) _ by
   exact .at [2,4,5,8,11,14,15,16] (hl1 0 [] [] (st0 v) 5 om rfl rfl (λx hx=>by cases hx) om hres) rfl rfl
  clear hres gr gb tk nr;have fz:∀(H1:za) (k:Nat) (F:Fr) (K:za),H1.length=H.length+10->slot F 2= .bool b->slot F 4= .ptr H.length 0 0->slot F 5= .ptr (H.length+1) 0 0->slot F 8= .ptr (H.length+3) 0 0->slot F 11= .ptr (H.length+5) 0 0->slot F 14= .ptr (H.length+6) 0 0->slot F 15= .ptr (H.length+7) 0 0->slot F 16= .int .i64 (k:Int)->FzF H1.length K F [(2,.bool b),(4,.ptr H.length 0 0),(5,.ptr (H.length+1) 0 0),(8,.ptr (H.length+3) 0 0),(11,.ptr (H.length+5) 0 0),(14,.ptr (H.length+6) 0 0),(15,.ptr (H.length+7) 0 0),(16,.int .i64 (k:Int))]:=λH1 k F K hl q1 q2 q3 q4 q5 q6 q7 q8=>by
   refine⟨?_,?_,?_,?_,?_,?_,?_,?_,trivial⟩
   .rw[q1];exact .id (.bool _)
   .rw[q2];exact .id (.ptr om)
   .rw[q3];exact .id (.ptr om)
   .rw[q4];exact .id (.ptr om)
   .rw[q5];exact .id (.ptr om)
   .rw[q6];exact .id (.ptr om)
   .rw[q7];exact .id (.ptr om)
   .rw[q8];exact .id (.int _ _)
  intro k D qs st a hk hD hQ hDl ha hres;induction hd:w - k using Nat.strongRecOn generalizing k D qs st a with
  | _ d ih=>
   refine .round ?_;refine .f (λK k=>by simp(maxSteps:=3000000) (disch:=omega) only[go_sem,ulH,h4,h2,w3,w64];exact k) ?_;refine .c (λh=> ?_) (λh=> ?_)
   .have h5k:k<w:=by grind
    obtain⟨r,hr⟩:∃ r,d=r+1:=⟨d - 1,om⟩;subst hr;have hr2:w - (k+1)=r:=om;rw[hd,sqL,Rr.bind_bind]at hres;have td:=λL hL hL'=>zon (H.length+5) (H.length+4) V q n a c st L hL hL' om ha om hq;refine .skip ?_;refine .b ?_;(repeat refine .seq ?_);refine .view (Vs.place 109) ?_;refine .view (Vs.place 253) ?_;refine .eq rfl (show _=H++[⟨26,0,sqc s⟩,⟨33,0,pic p⟩,⟨55,0,[.int .i64 t,.slice (bs q) q.length f]⟩,⟨130,0,[.int .i64 0,.slice [] 0 true,.slice [] 0 true]⟩,rB q V,rR (H.length+4) V n a,⟨130,0,[.int .i64 (v:Int),.msl (H.length+8) (k * 408) 0 k 408 true,.msl (H.length+9) k 0 k 1 true]⟩,⟨253,0,stc st⟩,⟨109,k * 408,D.flatMap mbc⟩,⟨3,k,qC qs⟩,⟨109,0,[]⟩,⟨253,0,[]⟩] by simp[ulH]) ?_;have hzl:=zdb;have hzc:=zeW;have dz:List.drop 408 zmv=[]:=qP om;cases hm:zdp c st q n a with
    | er e a1=>
     rw[hm]at td hres;simp only[rO,rvM,ecd]at td;rw[Rr.bind_er]at hres;have d0:((e:Int)+1 !=0)=true:=by simp;omega
     (repeat refine .seq ?_);refine .drawi [H.length+5,H.length+10,H.length+11] [(11,[0]),(77,[0]),(17,[1]),(18,[2])] [(17,1),(18,2)] [81] mix kr (by simp<;>omega) λK hK=> ?_;simp(maxSteps:=3000000) (disch:=omega) only[go_sem,apn,h2,h3,p6,t6,l8,tk8];refine VCj.read (λ_ _=>co1 _) rfl ?_;simp(maxSteps:=3000000) (disch:=omega) only[go_sem,apn,aps,l8,tk8];refine VCj.wr1 (apn _ _ 5) (λL hL hG=>td L hL ((hG.out _ sp).trans (apn _ _ 4))) (by simp(maxSteps:=3000000) (disch:=omega) only[go_sem]) (.inl rfl) rfl ?_;simp(maxSteps:=3000000) (disch:=omega) only[go_sem,apn,aps,l8,tk8,hzl,hzc,dz,c8,dk8];refine hK _ _ ?_;clear hK K;refine .g d0 ?_;refine .t ?_;refine .f (λK k=>by simp(maxSteps:=3000000) (disch:=omega) only[go_sem,apn,aps];exact k) ?_;refine .ret ⟨.tup [ag0,.int .i64 ((e:Int)+1)],by simp(maxSteps:=3000000) (disch:=omega) only[go_sem,zk,zo,qG,qH,qE,qA,qD,qI,ag0,apn,aps],?_⟩;rw[<-hres];exact .base (.id (zpk _ _))
    | ok y a1=>
     rw[hm]at td hres;simp only[rO,rvM]at td;obtain⟨b1,b2⟩:=zmA hm ha;rw[Rr.bind_ok,Rr.bind_bind]at hres;have m408:=zu y.1 b2;have mcl:=zcu y.1;have dm:List.drop 408 (mbc y.1)=[]:=qP om;have tm:List.take 408 (mbc y.1)=mbc y.1:=List.take_of_length_le om;have lD:=zaH mbc 408 D (λx hx=>zu x (hDl x hx));rw[hD]at lD;have lQ:(qC qs).length=k:=by rw[zl9];exact hQ
     have y0:(stc y.2)[0]? =some (.int .i64 y.2.q):=rfl;(repeat refine .seq ?_);refine .drawi [H.length+5,H.length+10,H.length+11] [(11,[0]),(77,[0]),(17,[1]),(18,[2])] [(17,1),(18,2)] [81] mix kr (by simp<;>omega) λK hK=> ?_;simp(maxSteps:=3000000) (disch:=omega) only[go_sem,apn,h2,h3,p6,t6,l8,tk8];refine VCj.read (λ_ _=>co1 _) rfl ?_;simp(maxSteps:=3000000) (disch:=omega) only[go_sem,apn,aps,l8,tk8];refine VCj.wr1 (apn _ _ 5) (λL hL hG=>td L hL ((hG.out _ sp).trans (apn _ _ 4))) (by simp(maxSteps:=3000000) (disch:=omega) only[go_sem]) (.inl rfl) rfl ?_;simp(maxSteps:=3000000) (disch:=omega) only[go_sem,apn,aps,l8,tk8,hzl,hzc,dz,c8,dk8,m408,mcl,dm];refine hK _ _ ?_;clear hK K;refine .e ?_;refine .us ?_;refine .f (λK k=>by simp(maxSteps:=3000000) (disch:=omega) only[go_sem,apn,aps,l8,tk8,c8,dk8];exact k) ?_;(repeat refine .seq ?_);refine .drawi [H.length+6,H.length+8,H.length+9] [(14,[0]),(92,[0]),(97,[0]),(103,[0]),(104,[0]),(93,[1]),(96,[1]),(98,[2]),(102,[2])] [] [] mix kr (by simp<;>omega) λK hK=> ?_;have lA:(D.flatMap mbc++mbc y.1).length=(k+1) * 408:=by rw[qK,lD,m408];omega
     have lB:(qC qs++[PV.int .i64 y.2.q]).length=k+1:=by rw[qK,lQ];rfl
     simp(maxSteps:=3000000) (disch:=omega) only[go_sem,apn,aps,lD,lQ,m408,mcl,tm,y0,lA,lB];refine hK _ _ ?_;clear hK K;refine .e ?_;have eH:H++[⟨26,0,sqc s⟩,⟨33,0,pic p⟩,⟨55,0,[.int .i64 t,.slice (bs q) q.length f]⟩,⟨130,0,[.int .i64 0,.slice [] 0 true,.slice [] 0 true]⟩,rB q V,rR (H.length+4) V n a1,⟨130,0,[.int .i64 (v:Int),.msl (H.length+8) ((k+1) * 408) 0 (k+1) 408 true,.msl (H.length+9) (k+1) 0 (k+1) 1 true]⟩,⟨253,0,stc y.2⟩,⟨109,(k+1) * 408,D.flatMap mbc++mbc y.1⟩,⟨3,k+1,qC qs++[PV.int .i64 y.2.q]⟩,⟨109,1,mbc y.1⟩,⟨253,1,stc y.2⟩]
       =ulH H s p t q f V n a1 v (k+1) y.2 (D++[y.1]) (qs++[y.2.q])++[⟨109,1,mbc y.1⟩,⟨253,1,stc y.2⟩]:=by
      unfold ulH;rw[zti,List.flatMap_append];simp
     refine .view (Vs.trim (F1:=[(2,.bool b),(4,.ptr H.length 0 0),(5,.ptr (H.length+1) 0 0),(8,.ptr (H.length+3) 0 0),(11,.ptr (H.length+5) 0 0),(14,.ptr (H.length+6) 0 0),(15,.ptr (H.length+7) 0 0),(16,.int .i64 ((k+1:Nat):Int))]) (ztN H s p t q f V n a1 v (k+1) y.2 (D++[y.1]) (qs++[y.2.q])) (by simp[ulH]) eH (fz _ (k+1) _ _ (by simp[ulH]) rfl rfl rfl rfl rfl rfl rfl rfl)) (ih r om (k+1) (D++[y.1]) (qs++[y.2.q]) y.2 a1 om (by simp[hD]) (by simp[hQ]) (λx hx=> ?_) b1 ?_ hr2)
     .rcases List.mem_append.1 hx with hx|hx
      .exact hDl x hx
      .rw[List.mem_singleton]at hx;grind
     .rw[hr2,<-hres];congr 1;funext z a';simp only[Rr.bind,qL,List.cons_append,List.nil_append]
   .have h6:k=w:=by grind
    subst h6;refine .exit ?_;rw[qQ]at hd;subst hd;rw[qQ,sqL,Rr.bind_ok]at hres;have lf:=zee (H.length+5) (H.length+4) V q n a (ulH H s p t q f V n a v k st D qs) (apn _ _ 5) (apn _ _ 4) ha om;have lD:=zaH mbc 408 D (λx hx=>zu x (hDl x hx));rw[hD]at lD;have lQ:(qC qs).length=k:=by rw[zl9];exact hQ
    unfold ulH at lf;by_cases han:a=n
    .rw[if_pos han]at hres;rw[han,qQ]at lf;subst han;(repeat refine .seq ?_);refine .rg rfl λK hK=> ?_;simp(maxSteps:=3000000) (disch:=omega) only[go_sem,ulH];refine VCx.call (lf) rfl ?_;simp(maxSteps:=3000000) (disch:=omega) only[go_sem];refine hK _ _ ?_;clear hK K;refine .us ?_;refine .f (λK k=>by simp(maxSteps:=3000000) (disch:=omega) only[go_sem,apn,aps];exact k) ?_;refine .ret ⟨.tup [.agg [.int .i64 (v:Int),.msl (H.length+8) (k * 408) 0 k 408 true,.msl (H.length+9) k 0 k 1 true],.int .i64 0],by simp(maxSteps:=3000000) (disch:=omega) only[go_sem,zk,zo,qG,qH,qE,qA,qD,qI,apn,aps],?_⟩;rw[<-hres];refine .base (Fz.tupC ⟨Fz.aggC ⟨.id (.int _ _),?_,?_,trivial⟩,.id (.int _ _),trivial⟩)
     .rw[qN,hD];exact Fz.mslC (e:=109) (xs:=D.flatMap mbc) om (apn _ _ 8) (by rw[lD]) (FzC.refl (zeN D _))
     .dsimp only;rw[qN,hQ];exact Fz.mslC (e:=3) (xs:=qC qs) om (apn _ _ 9) (by rw[lQ,Nat.mul_one]) (FzC.refl (znr qs _))
    .rw[if_neg han]at hres;have d0:decide ((0:Int)<((n - a:Nat):Int))=true:=by simp;omega
     (repeat refine .seq ?_);refine .rg rfl λK hK=> ?_;simp(maxSteps:=3000000) (disch:=omega) only[go_sem,ulH];refine VCx.call (lf) rfl ?_;simp(maxSteps:=3000000) (disch:=omega) only[go_sem,d0];refine hK _ _ ?_;clear hK K;refine .t ?_;refine .f (λK k=>by simp(maxSteps:=3000000) (disch:=omega) only[go_sem,apn,aps];exact k) ?_;refine .ret ⟨.tup [ag0,.int .i64 3],by simp(maxSteps:=3000000) (disch:=omega) only[go_sem,zk,zo,qG,qH,qE,qA,qD,qI,ag0,apn,aps],?_⟩;rw[<-hres];exact .base (.id (zpk _ _))
end Go.Proofs.YtdajpjenhcobkaaGreatDoor.Sc
