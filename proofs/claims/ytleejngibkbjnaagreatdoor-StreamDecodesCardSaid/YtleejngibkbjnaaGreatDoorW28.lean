/-
  Parts of the proof. No condition.
-/
import Derived.Test.YtleejngibkbjnaaGreatDoorW27
import Derived.Test.YtleejngibkbjnaaGreatDoorW20
open Go.Proofs.YtleejngibkbjnaaGreatDoor.Pm.PV renaming int → O
open Go.IntKind renaming i64 → J
open Go.Proofs.Tryz
set_option linter.all false
set_option maxRecDepth 100000
set_option maxHeartbeats 32000000
namespace Go.Proofs.YtleejngibkbjnaaGreatDoor.Sc
open Pm Ty Go.RowKit
theorem _root_.Go.Proofs.YtleejngibkbjnaaGreatDoor.Pm.WRel.short{C:Ctx}{H:za}{w:World}{i m:Nat}{k:Blk}(hw:WRel C H w)(hk:H[i]? =some k)(hint:∃(j:Nat) (t:IntKind) (n:Int),k.cells[j]? =some (.int t n)):WRel C (H.set i ⟨k.e,k.ver,k.cells.take m⟩) w:=by
 have hi:i<H.length:=(gA.1 hk).1;have g:∀(id:Nat) (x:Blk),(H.set i ⟨k.e,k.ver,k.cells.take m⟩)[id]? =some x->(id=i/\x=⟨k.e,k.ver,k.cells.take m⟩)\/(id≠i/\H[id]? =some x):=λid x h=>by
  by_cases e:i=id
  .subst e;rw[vN hi]at h;injection h with h;exact .inl ⟨rfl,h.symm⟩
  .rw[gR e]at h;exact .inr ⟨λe'=>e e'.symm,h⟩
 obtain⟨a0,a1,a2,a3,a4,a5,a6,a7,a8,a9,a10,a11,a12⟩:=hw;refine⟨a0,a1,a2,a3,by rw[gS];exact a4,by rw[gS];exact a5,by rw[gS];exact a6,λid x h=> ?_,λid x h hm=> ?_,λid x b h hm=> ?_,a10,a11,a12⟩
 .rcases g id x h with⟨rfl,rfl⟩|⟨_,h⟩
  .exact a7 id k hk
  .exact a7 _ _ h
 .rcases g id x h with⟨rfl,rfl⟩|⟨_,h⟩
  .obtain⟨j,t,n,hj⟩:=hint;rcases a8 _ _ hk hm with⟨_,e⟩|⟨b,es,cl,q1,q2,q3,q4,q5⟩|hlp
   .rw[e]at hj;cases hj
   .have hjl:=(gA.1 hj).1;obtain⟨e,he⟩:∃ e,es[j]? =some e:=⟨_,wG om⟩;have:=q5 j _ e hj he;cases this
   .obtain⟨b,o,_,_,_,e,_⟩:=hlp;rw[e]at hj;cases j<;>simp at hj
  .exact a8 _ _ h hm
 .rcases g id x h with⟨rfl,rfl⟩|⟨_,h⟩
  .obtain⟨cur,q1,q2,q3,q4,q5,q6⟩:=a9 _ _ b hk hm;exact⟨cur,q1,q2,q3,λx hx=>q4 x (vI hx),by simp only[wA];omega,λj x u hx hu=>q6 j x u (by
    simp only[vZ]at hx;split at hx
    .exact hx
    .cases hx) hu⟩
  .exact a9 _ _ b h hm
theorem _root_.Go.Proofs.YtleejngibkbjnaaGreatDoor.Pm.CallEx.short{P:Program}{f:FuncId}{args:List PV}{H Ho:za}{R:PV->za->Prop}{v0:PV}{i m:Nat}(h:CallEx P f args H R)(hr:∀ v H',R v H'->v=v0/\∃ k,H'[i]? =some k/\(∃(j:Nat) (t:IntKind) (n:Int),k.cells[j]? =some (.int t n))/\Ho=H'.set i ⟨k.e,k.ver,k.cells.take m⟩):CallOk P f args H v0 Ho:=
 ⟨h.1,λC us w hw hargs=>(h.2 C us w hw hargs).mono λe w' ⟨C',u,v,H',q0,q1,q2,q3,q4,q5⟩=>by
  obtain⟨rfl,k,h1,h2,rfl⟩:=hr v H' q0;exact⟨C',u,q1,q2.short h1 h2,q3,q4,q5⟩⟩
def rT(j v n:Nat):Blk:=⟨346,0,[.msl j v 0 n 1 true]⟩
def rO{α:Type}(j v n:Nat):Rr α->Blk
 | .ok _ a=>rR j v n a
 | .er _ _=>rT j v n
theorem zp0(i j v:Nat)(q:List UInt8)(n a:Nat)(c:Cx)(s:St)(H:za)(hA:H[i]? =some (rR j v n a))(hB:H[j]? =some (rB q v))(hne:i≠j)(ha:a<=n)(hn:n<=8 * q.length)(hq:q.length<=100000000):
  CallOk prog 231 [.ptr i 0 0,.agg (cxc c),.agg (stc s)] H (rvM (zdH c s q n a)) (H.set i (rO j v n (zdH c s q n a))):=by
 have h:=zrA i j v q n a c s H hA hB hne ha hn hq;have hi:=(gA.1 hA).1;cases hm:zdH c s q n a with
 | ok y a1=>
  rw[hm]at h;exact(h.mono λv H' hR=>hR).one
 | er e a1=>rw[hm]at h;refine CallEx.short (i:=i) (m:=1) h λv' H' hR=>⟨hR.1,?_⟩;obtain⟨a2,_,rfl⟩:=hR.2;exact⟨rR j v n a2,by simp[hi],⟨1,.i64,(a2:Int),rfl⟩,by rw[vL];rfl⟩
def sqL(c:Cx)(q:List UInt8)(n:Nat):Nat->St->Nat->Rr (List Mb×List Int)
 | 0,_,a=>.ok ([],[]) a
 | r+1,s,a=>(zdH c s q n a).bind λy a1=>(sqL c q n r y.2 a1).bind λz a2=>.ok (y.1::z.1,y.2.q::z.2) a2
def sqT(s:Sq)(p:Pi)(b:Bool)(t:Int)(q:List UInt8):Rr (Nat×List Mb×List Int):=
 if zcq s p b&&(decide (1<=t)&&decide (t<1+zaq s p))then
  (if q.length=0\/zbo q=0 then .er 2 0 else if nb q<5 then .er 3 0 else if vl q 0 5=0 then .er 2 0 else
   (sqL (cxP s p b) q (nb q) (wmb s) (st0 (vl q 0 5:Int)) 5).bind λz a=>if a=nb q then .ok (vl q 0 5,z.1,z.2) a else .er 2 a)else .er 0 0
def qC(l:List Int):List PV:=l.map (PV.int .i64)
theorem znt(l:List Int):(qC l).length=l.length:=by simp[qC]
theorem zvp(l:List Int)(x:Int):qC (l++[x])=qC l++[O J x]:=by simp[qC]
theorem zoX(l:List Int)(n:Nat):∀ x∈qC l,Scoped n x:=λx hx=>by obtain⟨y,_,rfl⟩:=vW.1 hx;exact .int _ _
def ag0:PV:=.agg [O J 0,.slice [] 0 true,.slice [] 0 true]
def agS(v:Int)(D:List Mb)(qs:List Int):PV:=.agg [O J v,.slice (D.flatMap mbc) D.length false,.slice (qC qs) qs.length false]
def rvQ:Rr (Nat×List Mb×List Int)->PV
 | .ok x _=>.tup [agS (x.1:Int) x.2.1 x.2.2,O J 0]
 | .er e _=>.tup [ag0,ecd e]
theorem zu8(s:St)(n:Nat):∀ x∈stc s,Scoped n x:=λx hx=>by simp only[stc,gM,gL,uA]at hx;rcases hx with rfl|rfl|rfl|rfl|rfl|rfl|rfl|rfl;all_goals exact .int _ _
def ulH(H:za)(s:Sq)(p:Pi)(t:Int)(q:List UInt8)(f:Bool)(V n a v k:Nat)(st:St)(D:List Mb)(qs:List Int):za:=H++[⟨37,0,sqc s⟩,⟨41,0,pic p⟩,⟨49,0,[O J t,.slice (bs q) q.length f]⟩,⟨210,0,[O J 0,.slice [] 0 true,.slice [] 0 true]⟩,rB q V,rR (H.length+4) V n a,
 ⟨210,0,[O J (v:Int),.msl (H.length+8) (k * 408) 0 k 408 true,.msl (H.length+9) k 0 k 1 true]⟩,⟨319,0,stc st⟩,⟨142,k * 408,D.flatMap mbc⟩,⟨3,k,qC qs⟩]
theorem zxE(t:Int)(q:List UInt8)(f:Bool)(n:Nat):∀ x∈([O J t,.slice (bs q) q.length f]:List PV),Scoped n x:=λx hx=>by
 simp only[gM,gL,uA]at hx;rcases hx with rfl|rfl
 .exact .int _ _
 .exact zk (zh _ _)
theorem zvQ(H:za)(s:Sq)(p:Pi)(t:Int)(q:List UInt8)(f:Bool)(V n a v k:Nat)(st:St)(D:List Mb)(qs:List Int)(h:HSc H):HSc (ulH H s p t q f V n a v k st D qs):=zfi (λb hb x hx=>by
 simp only[gM,gL,uA]at hb;simp only[gZ,uS];rcases hb with rfl|rfl|rfl|rfl|rfl|rfl|rfl|rfl|rfl|rfl
 .exact zaf _ _ x hx
 .exact zvw _ _ x hx
 .exact zxE _ _ _ _ x hx
 .simp only[gM,gL,uA]at hx;rcases hx with rfl|rfl|rfl
  .exact .int _ _
  .exact zk (λx hx=>by cases hx)
  .exact zk (λx hx=>by cases hx)
 .exact zh _ _ x hx
 .simp only[rR,gM,gL,uA]at hx;rcases hx with rfl|rfl
  .exact .msl om
  .exact .int _ _
 .simp only[gM,gL,uA]at hx;rcases hx with rfl|rfl|rfl
  .exact .int _ _
  .exact .msl om
  .exact .msl om
 .exact zu8 _ _ x hx
 .exact zfg _ _ x hx
 .exact zoX _ _ x hx) h
theorem zqV(n:Nat)(e:Int):Scoped n (.tup [ag0,O J e]):=.tup (zO λx hx=>by
 simp only[gM,gL,uA]at hx;rcases hx with rfl|rfl
 .exact .agg (zO λx hx=>by
   simp only[gM,gL,uA]at hx;rcases hx with rfl|rfl|rfl
   .exact .int _ _
   .exact zk (λx hx=>by cases hx)
   .exact zk (λx hx=>by cases hx))
 .exact .int _ _)
theorem zp4(s:Sq)(p:Pi)(b:Bool)(t:Int)(q:List UInt8)(f:Bool)(H:za)(hs:SqOk s)(ht:zgD t)(hq:q.length<=100000000):
  CallOk prog 177 [.agg (sqc s),.agg (pic p),.bool b,.agg [O J t,.slice (bs q) q.length f]] H (rvQ (sqT s p b t q)) H:=by
 have fo:=λK=>zmu s p b K hs;have ro:=λK=>zjw s p K hs;have co:=λK=>zk6 s p b K hs;have h1:=zab s;have h2:=zaj s hs;have h3:=zbu s hs;have h4:=zoM s;have p6:(pic p).length=6:=rfl;have t6:List.take 6 (pic p)=pic p:=rfl;have l8:∀ t,(stc t).length=8:=λ_=>rfl;have c8:∀ t,(stc t).all PV.cell=true:=λ_=>rfl;have tk8:∀ t,List.take 8 (stc t)=stc t:=λ_=>rfl;have dk8:∀ t,List.drop 8 (stc t)=[]:=λ_=>rfl;generalize hres:sqT s p b t q=res;unfold sqT at hres;refine .go func177 ntmps177 results177 ?_;refine .g (nq2 h1 @pic.eq_1) ?_;suffices hrest:PW prog _ _ [(2,.bool b),(4,.ptr H.length 0 0),(5,.ptr (H.length+1) 0 0),(7,.ptr (H.length+2) 0 0),(8,.ptr (H.length+3) 0 0),(39,.bool (!(zcq s p b&&(decide (1<=t)&&decide (t<1+zaq s p)))))] (H++[⟨37,0,sqc s⟩,⟨41,0,pic p⟩,⟨49,0,[O J t,.slice (bs q) q.length f]⟩,⟨210,0,[O J 0,.slice [] 0 true,.slice [] 0 true]⟩]) _ by
  refine .e ?_;cases hf:zcq s p b with
  | false=>
   rw[hf]at fo hrest;refine .x λK hK=> ?_;simp(maxSteps:=9^9) (disch:=omega) only[go_sem,h2,h3,p6,t6];refine VCx.call (fo _) rfl ?_;simp(maxSteps:=9^9) (disch:=omega) only[go_sem];refine hK _ _ ?_;clear hK K;exact .a hrest
  | true=>
   rw[hf]at fo hrest;rw[uP]at hrest;by_cases ht1:1<=t
   .have d1:decide (t<1)=false:=gW om;have hpr:=zsm (s:=s) (p:=p);have w1:IntKind.i64.wrap (t - 1)=t - 1:=w64 _ (by unfold zgD at ht;omega);have d2:decide (zaq s p<=t - 1)= !decide (t<1+zaq s p):=by grind
    rw[gX ht1,uP,<-d2]at hrest;refine .x λK hK=> ?_;simp(maxSteps:=9^9) (disch:=omega) only[go_sem,h2,h3,p6,t6];refine VCx.call (fo _) rfl ?_;simp(maxSteps:=9^9) (disch:=omega) only[go_sem,d1,h2,h3,p6,t6,w1];refine VCx.call (ro _) rfl ?_;simp(maxSteps:=9^9) (disch:=omega) only[go_sem];refine hK _ _ ?_;clear hK K;exact .a hrest
   .have d1:decide (t<1)=true:=gX om;rw[gW ht1,vB]at hrest;refine .x λK hK=> ?_;simp(maxSteps:=9^9) (disch:=omega) only[go_sem,h2,h3,p6,t6];refine VCx.call (fo _) rfl ?_;simp(maxSteps:=9^9) (disch:=omega) only[go_sem,d1];refine hK _ _ ?_;clear hK K;exact .a hrest
 cases hc:(zcq s p b&&(decide (1<=t)&&decide (t<1+zaq s p)))with
 | false=>
  rw[hc,gC (by decide)]at hres;refine .t (.e ?_);refine .w (.tup [ag0,O J 1]) @ag0.eq_1 ?_;rw[<-hres];exact .base (.id (zqV _ _))
 | true=>
  rw[hc,gD rfl]at hres;rw[gB]at hc;have hw:1<=wmb s/\wmb s<=4/\s.w.tdiv 16=((wmb s:Nat):Int):=by
   have hv:zB s p=true:=by simp_all[zcq,gB]
   have:=zaz hv;grind[Int.tdiv_eq_ediv_of_nonneg,wmb]
  clear fo ro hc;refine .us ?_;by_cases hb:q.length=0\/zbo q=0
  .rw[gD hb]at hres;have nr:=λK=>zsL q f K hq hb;refine .k nr ?_;refine .e (.t ?_);refine .e (.w (.tup [ag0,O J 3]) @ag0.eq_1 ?_);rw[<-hres];exact .base (.id (zqV _ _))
  rw[gC hb]at hres;obtain⟨hb1,hb2⟩:=not_or.1 hb;have nr:=λK=>zvC q f K hq hb1 hb2;obtain⟨_,n2,_⟩:=znQ q hb1 hb2;obtain⟨V,hV⟩:∃ V,V=8 * q.length:=⟨_,rfl⟩;rw[<-hV]at nr n2;generalize nb q=n at *;refine .k nr ?_;refine .e (.us ?_);have gr:=λa X=>(apn H ([⟨37,0,sqc s⟩,⟨41,0,pic p⟩,⟨49,0,[O J t,.slice (bs q) q.length f]⟩,⟨210,0,[O J 0,.slice [] 0 true,.slice [] 0 true]⟩,rB q V,rR (H.length+4) V n a]++X) 5);have gb:=λa X=>(apn H ([⟨37,0,sqc s⟩,⟨41,0,pic p⟩,⟨49,0,[O J t,.slice (bs q) q.length f]⟩,⟨210,0,[O J 0,.slice [] 0 true,.slice [] 0 true]⟩,rB q V,rR (H.length+4) V n a]++X) 4);by_cases h5:n<5
  .rw[gD h5]at hres;have tk:=zgp (H.length+5) (H.length+4) V q n 0 5 _ (gr 0 []) (gb 0 []) om om om om;refine .f (λK k=>by simp(maxSteps:=9^9) (disch:=omega) only[go_sem];refine VCx.call (tk) rfl ?_;simp(maxSteps:=9^9) (disch:=omega) only[go_sem];exact k) ?_;refine .e (.t ?_);refine .e (.w (.tup [ag0,O J 4]) @ag0.eq_1 ?_);rw[<-hres];exact .base (.id (zqV _ _))
  rw[gC h5]at hres;have tk:=zeG (H.length+5) (H.length+4) V q n 0 5 _ (gr 0 []) (gb 0 []) om om om om om;rw[aps]at tk;simp only[gQ,uZ,vC,rE,rV,wF]at tk;have hvl:=zgQ q 0 5;generalize vl q 0 5=v at *;refine .f (λK k=>by simp(maxSteps:=9^9) (disch:=omega) only[go_sem];refine VCx.call (tk) rfl ?_;simp(maxSteps:=9^9) (disch:=omega) only[go_sem];exact k) ?_;refine .e (.us ?_);by_cases hv0:v=0
  .rw[gD hv0]at hres;have d1:((v:Int)==0)=true:=by simp[hv0]
   refine .g d1 ?_;refine .t (.e ?_);refine .w (.tup [ag0,O J 3]) @ag0.eq_1 ?_;rw[<-hres];exact .base (.id (zqV _ _))
  rw[gC hv0]at hres;have d1:((v:Int)==0)=false:=by simp_all
  refine .g d1 ?_;refine .us ?_;have co1:=λK=>co K;generalize cxP s p b=c at *;obtain⟨w1,w2,w3⟩:=hw;generalize wmb s=w at *;refine .g (nq2 @apn @aps) ?_;refine .f (λK k=>by simp(maxSteps:=9^9) (disch:=omega) only[go_sem,apn,aps,gP,gZ,uS,Nat.reduceAdd];exact k) ?_;refine .e (.eq rfl (show _=H++[⟨37,0,sqc s⟩,⟨41,0,pic p⟩,⟨49,0,[O J t,.slice (bs q) q.length f]⟩,⟨210,0,[O J 0,.slice [] 0 true,.slice [] 0 true]⟩,rB q V,rR (H.length+4) V n 5,⟨210,0,[O J (v:Int),.slice [] 0 true,.slice [] 0 true]⟩,⟨319,0,stc (st0 v)⟩]from rfl) ?_);(repeat refine .seq ?_);refine .view (Vs.ghostH (id:=H.length+6) (j:=1) 142 408 (apn _ _ 6) rfl) ?_;refine .eq rfl (show _=H++[⟨37,0,sqc s⟩,⟨41,0,pic p⟩,⟨49,0,[O J t,.slice (bs q) q.length f]⟩,⟨210,0,[O J 0,.slice [] 0 true,.slice [] 0 true]⟩,rB q V,rR (H.length+4) V n 5,⟨210,0,[O J (v:Int),.msl (H.length+8) 0 0 0 408 true,.slice [] 0 true]⟩,⟨319,0,stc (st0 v)⟩,⟨142,0,[]⟩] by rw[aps,gU];simp) ?_;refine .view (Vs.ghostH (id:=H.length+6) (j:=2) 3 1 (apn _ _ 6) rfl) ?_;refine .eq rfl (?_:_=ulH H s p t q f V n 5 v 0 (st0 v) [] []) ?_
  .rw[aps,gU];simp[ulH,qC]
  refine .l ?_;suffices hl1:∀(k:Nat) (D:List Mb) (qs:List Int) (st:St) (a:Nat),k<=w->D.length=k->qs.length=k->(∀ x∈D,x.lv.length=384)->a<=n->((sqL c q n (w - k) st a).bind λz a=>if a=n then Rr.ok (v,D++z.1,qs++z.2) a else .er 2 a)=res->
    PL prog _ _ [(2,.bool b),(4,.ptr H.length 0 0),(5,.ptr (H.length+1) 0 0),(8,.ptr (H.length+3) 0 0),(11,.ptr (H.length+5) 0 0),(14,.ptr (H.length+6) 0 0),(15,.ptr (H.length+7) 0 0),(16,O J (k:Int))] (ulH H s p t q f V n a v k st D qs) _ by
   exact .a (hl1 0 [] [] (st0 v) 5 om rfl rfl (λx hx=>by cases hx) om hres)
  clear hres gr gb tk nr;have fz:∀(H1:za) (k:Nat) (F:Fr) (K:za),H1.length=H.length+10->slot F 2= .bool b->slot F 4= .ptr H.length 0 0->slot F 5= .ptr (H.length+1) 0 0->slot F 8= .ptr (H.length+3) 0 0->slot F 11= .ptr (H.length+5) 0 0->slot F 14= .ptr (H.length+6) 0 0->slot F 15= .ptr (H.length+7) 0 0->slot F 16= O J (k:Int)->FzF H1.length K F [(2,.bool b),(4,.ptr H.length 0 0),(5,.ptr (H.length+1) 0 0),(8,.ptr (H.length+3) 0 0),(11,.ptr (H.length+5) 0 0),(14,.ptr (H.length+6) 0 0),(15,.ptr (H.length+7) 0 0),(16,O J (k:Int))]:=λH1 k F K hl q1 q2 q3 q4 q5 q6 q7 q8=>by
   refine⟨?_,?_,?_,?_,?_,?_,?_,?_,trivial⟩
   .rw[q1];exact .id (.bool _)
   .rw[q2];exact .id (.ptr om)
   .rw[q3];exact .id (.ptr om)
   .rw[q4];exact .id (.ptr om)
   .rw[q5];exact .id (.ptr om)
   .rw[q6];exact .id (.ptr om)
   .rw[q7];exact .id (.ptr om)
   .rw[q8];exact .id (.int _ _)
  intro k D qs st a hk hD hQ hDl ha hres;induction hd:w - k using Nat.strongRecOn generalizing k D qs st a with
  | _ d ih=>
   refine .round (.g (nq2 @ulH.eq_1 (nq2 h4 (nq2 h2 (nq2 w3 @w64)))) ?_);refine .c (λh=> ?_) (λh=> ?_)
   .have h5k:k<w:=by grind
    obtain⟨r,hr⟩:∃ r,d=r+1:=⟨d - 1,om⟩;subst hr;have hr2:w - (k+1)=r:=om;rw[hd,sqL,Rr.bind_bind]at hres;have td:=λL hL hL'=>zp0 (H.length+5) (H.length+4) V q n a c st L hL hL' om ha om hq;refine .skip (.b ?_);(repeat refine .seq ?_);refine .view (Vs.place 142) ?_;refine .view (Vs.place 319) ?_;refine .eq rfl (show _=H++[⟨37,0,sqc s⟩,⟨41,0,pic p⟩,⟨49,0,[O J t,.slice (bs q) q.length f]⟩,⟨210,0,[O J 0,.slice [] 0 true,.slice [] 0 true]⟩,rB q V,rR (H.length+4) V n a,⟨210,0,[O J (v:Int),.msl (H.length+8) (k * 408) 0 k 408 true,.msl (H.length+9) k 0 k 1 true]⟩,⟨319,0,stc st⟩,⟨142,k * 408,D.flatMap mbc⟩,⟨3,k,qC qs⟩,⟨142,0,[]⟩,⟨319,0,[]⟩] by simp[ulH]) ?_;have hzl:=zdq;have hzc:=zfq;have dz:List.drop 408 zmv=[]:=uB om;cases hm:zdH c st q n a with
    | er e a1=>
     rw[hm]at td hres;simp only[rO,rvM,ecd]at td;rw[Rr.bind_er]at hres;have d0:((e:Int)+1 !=0)=true:=by simp;omega
     refine .y [H.length+5,H.length+10,H.length+11] [(11,[0]),(77,[0]),(17,[1]),(18,[2])] [(17,1),(18,2)] [81] λK hK=> ?_;refine sqx (nq2 @apn (nq2 h2 (nq2 h3 (nq2 p6 (nq2 t6 (nq2 l8 tk8)))))) ?_;refine VCj.read (λ_ _=>co1 _) rfl ?_;refine sqx (nq2 @apn (nq2 @aps (nq2 l8 tk8))) ?_;refine VCj.wr1 (apn _ _ 5) (λL hL hG=>td L hL ((hG.out _ sp).trans (apn _ _ 4))) (by simp(maxSteps:=9^9) (disch:=omega) only[go_sem]) (.inl rfl) rfl ?_;refine sqx (nq2 @apn (nq2 @aps (nq2 l8 (nq2 tk8 (nq2 hzl (nq2 hzc (nq2 dz (nq2 c8 dk8)))))))) ?_;refine hK _ _ ?_;clear hK K;refine .g d0 ?_;refine .t (.g (nq2 @apn @aps) ?_);refine .w (.tup [ag0,O J ((e:Int)+1)]) (nq2 @ag0.eq_1 (nq2 @apn @aps)) ?_;rw[<-hres];exact .base (.id (zqV _ _))
    | ok y a1=>
     rw[hm]at td hres;simp only[rO,rvM]at td;obtain⟨b1,b2⟩:=znR hm ha;rw[Rr.bind_ok,Rr.bind_bind]at hres;have m408:=zu y.1 b2;have mcl:=zcC y.1;have dm:List.drop 408 (mbc y.1)=[]:=uB om;have tm:List.take 408 (mbc y.1)=mbc y.1:=gH om;have lD:=zac mbc 408 D (λx hx=>zu x (hDl x hx));rw[hD]at lD;have lQ:(qC qs).length=k:=by rw[znt];exact hQ
     have y0:(stc y.2)[0]? =some (O J y.2.q):=rfl;refine .y [H.length+5,H.length+10,H.length+11] [(11,[0]),(77,[0]),(17,[1]),(18,[2])] [(17,1),(18,2)] [81] λK hK=> ?_;refine sqx (nq2 @apn (nq2 h2 (nq2 h3 (nq2 p6 (nq2 t6 (nq2 l8 tk8)))))) ?_;refine VCj.read (λ_ _=>co1 _) rfl ?_;refine sqx (nq2 @apn (nq2 @aps (nq2 l8 tk8))) ?_;refine VCj.wr1 (apn _ _ 5) (λL hL hG=>td L hL ((hG.out _ sp).trans (apn _ _ 4))) (by simp(maxSteps:=9^9) (disch:=omega) only[go_sem]) (.inl rfl) rfl ?_;refine sqx (nq2 @apn (nq2 @aps (nq2 l8 (nq2 tk8 (nq2 hzl (nq2 hzc (nq2 dz (nq2 c8 (nq2 dk8 (nq2 m408 (nq2 mcl dm))))))))))) ?_;refine hK _ _ ?_;clear hK K;refine .e (.us ?_);refine .g (nq2 @apn (nq2 @aps (nq2 l8 (nq2 tk8 (nq2 c8 dk8))))) ?_;refine .y [H.length+6,H.length+8,H.length+9] [(14,[0]),(92,[0]),(97,[0]),(103,[0]),(104,[0]),(93,[1]),(96,[1]),(98,[2]),(102,[2])] [] [] λK hK=> ?_;have lA:(D.flatMap mbc++mbc y.1).length=(k+1) * 408:=by grind
     have lB:(qC qs++[PV.int .i64 y.2.q]).length=k+1:=by simp_all
     refine sqx (nq2 @apn (nq2 @aps (nq2 lD (nq2 lQ (nq2 m408 (nq2 mcl (nq2 tm (nq2 y0 (nq2 lA lB))))))))) ?_;refine hK _ _ ?_;clear hK K;refine .e ?_;have eH:H++[⟨37,0,sqc s⟩,⟨41,0,pic p⟩,⟨49,0,[O J t,.slice (bs q) q.length f]⟩,⟨210,0,[O J 0,.slice [] 0 true,.slice [] 0 true]⟩,rB q V,rR (H.length+4) V n a1,⟨210,0,[O J (v:Int),.msl (H.length+8) ((k+1) * 408) 0 (k+1) 408 true,.msl (H.length+9) (k+1) 0 (k+1) 1 true]⟩,⟨319,0,stc y.2⟩,⟨142,(k+1) * 408,D.flatMap mbc++mbc y.1⟩,⟨3,k+1,qC qs++[PV.int .i64 y.2.q]⟩,⟨142,1,mbc y.1⟩,⟨319,1,stc y.2⟩]
       =ulH H s p t q f V n a1 v (k+1) y.2 (D++[y.1]) (qs++[y.2.q])++[⟨142,1,mbc y.1⟩,⟨319,1,stc y.2⟩]:=by
      unfold ulH;rw[zvp,nG];simp
     refine .view (Vs.trim (F1:=[(2,.bool b),(4,.ptr H.length 0 0),(5,.ptr (H.length+1) 0 0),(8,.ptr (H.length+3) 0 0),(11,.ptr (H.length+5) 0 0),(14,.ptr (H.length+6) 0 0),(15,.ptr (H.length+7) 0 0),(16,O J ((k+1:Nat):Int))]) (zvQ H s p t q f V n a1 v (k+1) y.2 (D++[y.1]) (qs++[y.2.q])) (by simp[ulH]) eH (fz _ (k+1) _ _ (by simp[ulH]) rfl rfl rfl rfl rfl rfl rfl rfl)) (ih r om (k+1) (D++[y.1]) (qs++[y.2.q]) y.2 a1 om (by simp[hD]) (by simp[hQ]) (λx hx=> ?_) b1 ?_ hr2)
     .grind
     simp_all[Rr.bind,gU,uZ,vC]
   .have h6:k=w:=by grind
    subst h6;refine .exit ?_;rw[vK]at hd;subst hd;rw[vK,sqL,Rr.bind_ok]at hres;have lf:=zeJ (H.length+5) (H.length+4) V q n a (ulH H s p t q f V n a v k st D qs) (apn _ _ 5) (apn _ _ 4) ha om;have lD:=zac mbc 408 D (λx hx=>zu x (hDl x hx));rw[hD]at lD;have lQ:(qC qs).length=k:=by rw[znt];exact hQ
    unfold ulH at lf;by_cases han:a=n
    .rw[gD han]at hres;rw[han,vK]at lf;subst han;refine .x λK hK=> ?_;simp(maxSteps:=9^9) (disch:=omega) only[go_sem,ulH];refine VCx.call (lf) rfl ?_;simp(maxSteps:=9^9) (disch:=omega) only[go_sem];refine hK _ _ ?_;clear hK K;refine .us (.g (nq2 @apn @aps) ?_);refine .w (.tup [.agg [O J (v:Int),.msl (H.length+8) (k * 408) 0 k 408 true,.msl (H.length+9) k 0 k 1 true],O J 0]) (nq2 @apn @aps) ?_;rw[<-hres];refine .base (Fz.tupC ⟨Fz.aggC ⟨.id (.int _ _),?_,?_,trivial⟩,.id (.int _ _),trivial⟩)
     .rw[gQ,hD];exact Fz.mslC (e:=142) (xs:=D.flatMap mbc) om (apn _ _ 8) (by rw[lD]) (FzC.refl (zfg D _))
     .dsimp only;rw[gQ,hQ];exact Fz.mslC (e:=3) (xs:=qC qs) om (apn _ _ 9) (by rw[lQ,sL]) (FzC.refl (zoX qs _))
    .rw[gC han]at hres;have d0:decide ((0:Int)<((n - a:Nat):Int))=true:=by simp;omega
     refine .x λK hK=> ?_;simp(maxSteps:=9^9) (disch:=omega) only[go_sem,ulH];refine VCx.call (lf) rfl ?_;simp(maxSteps:=9^9) (disch:=omega) only[go_sem,d0];refine hK _ _ ?_;clear hK K;refine .t (.g (nq2 @apn @aps) ?_);refine .w (.tup [ag0,O J 3]) (nq2 @ag0.eq_1 (nq2 @apn @aps)) ?_;rw[<-hres];exact .base (.id (zqV _ _))
end Go.Proofs.YtleejngibkbjnaaGreatDoor.Sc
