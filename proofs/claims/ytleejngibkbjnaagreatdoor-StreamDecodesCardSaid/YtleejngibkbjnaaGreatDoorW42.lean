/-
  Parts of the proof. No condition.
-/
import Derived.Test.YtleejngibkbjnaaGreatDoorW36
import Derived.Test.YtleejngibkbjnaaGreatDoorW40
open Go.Proofs.YtleejngibkbjnaaGreatDoor.Pm.PV renaming int → O
open Go.IntKind renaming i64 → J
open Array renaming toList → qE
open List renaming take → qA, replicate → qB, drop → qD
open Go.Proofs.Tryz
set_option linter.all false
set_option maxRecDepth 100000
set_option maxHeartbeats 32000000
namespace Go.Proofs.YtleejngibkbjnaaGreatDoor.Sc
open Pm Ty Go.RowKit
def shc(x:Sho):List PV:=fmc x.fr++[O J x.f,O J x.l,O J x.ty,.bool x.ok,O J x.fi,.bool x.tf]
theorem zhh(x:Sho):(shc x).length=11:=rfl
theorem zh8(x:Sho):(shc x).all PV.cell=true:=rfl
theorem zrV(n:Nat)(x:Sho):∀ y∈shc x,Scoped n y:=λy hy=>by
 rcases uF.1 hy with hy|hy
 .exact zan _ _ _ _ _ _ _ _ _ _ _ _ y hy
 .simp only[gM,gL,uA]at hy;rcases hy with rfl|rfl|rfl|rfl|rfl|rfl<;>first|exact .int _ _|exact .bool _
def shL(l:List Sho):List PV:=l.flatMap shc
theorem zeF(l:List Sho):(shL l).length=l.length * 11:=zac shc 11 l λ_ _=>rfl
theorem zrW(l:List Sho)(k:Nat)(hk:k<l.length):qA 11 (qD (k * 11) (shL l))=shc l[k]:=zbE shc 11 l k hk λ_ _=>rfl
theorem zkh(n:Nat)(l:List Sho):∀ x∈shL l,Scoped n x:=λx hx=>by obtain⟨u,_,hx⟩:=wM.1 hx;exact zrV _ _ x hx
theorem zmN{α:Type}(enc:α->List PV)(N:Nat)(v:α):∀(l:List α) (k:Nat),k<l.length->(∀ x∈l,(enc x).length=N)->(enc v).length=N->zM (l.flatMap enc) (k * N) (enc v)=(l.set k v).flatMap enc
 | [],k,hk,_,_=>by simp at hk
 | a::r,0,_,h,hv=>by
  unfold zM;simp_all
 | a::r,k+1,hk,h,hv=>by
  have ih:=zmN enc N v r k (by simpa using hk) (λx hx=>h x (uM _ hx)) hv;have ha:=h a (uK ..);unfold zM at ih |-;have e:(k+1) * N=(enc a).length+k * N:=by grind
  rw[wP,e,mA,uW,gH om,vT,<-dL,List.drop_left,gU,gU,<-gU (qA _ _),ih,rE,wP]
theorem zoO(l:List Sho)(k:Nat)(x:Sho)(hk:k<l.length):zM (shL l) (k * 11) (shc x)=shL (l.set k x):=zmN shc 11 x l k hk (λ_ _=>rfl) rfl
def zsh:List PV:=[O J 0,O J 0,.slice [] 0 true,.slice [] 0 true,.slice [] 0 true,O J 0,O J 0,O J 0,.bool false,O J 0,.bool false]
theorem zqW(n:Nat)(H:za):FzC n H zsh (shc zkg):=⟨.id (.int _ _),.id (.int _ _),Fz.sliceC (xs:=[]) (ys:=[]) trivial (λh=>by cases h),Fz.sliceC (xs:=[]) (ys:=[]) trivial (λh=>by cases h),Fz.sliceC (xs:=[]) (ys:=[]) trivial (λh=>by cases h),.id (.int _ _),.id (.int _ _),.id (.int _ _),.id (.bool _),.id (.int _ _),.id (.bool _),trivial⟩
theorem zjT(n:Nat)(H:za):∀ k:Nat,FzC n H ((qB k zsh).flatten) (shL (qB k zkg))
 | 0=>trivial
 | k+1=>by rw[wT,wT,rX];exact FzC.append (zqW n H) (zjT n H k)
theorem zvh(S:List Ent)(out:List Sho)(n:Int)(i j o:Nat)(K:za)(hi:K[i]? =some ⟨24,0,[.msl o 0 0 out.length 11 true]⟩)(hj:K[j]? =some ⟨50,0,[.slice (S.flatMap entc) S.length false]⟩)(ho:K[o]? =some ⟨31,0,shL out⟩)
  (hsq:∀ e∈S,SqL e.2.1) (hn:n<S.length) (hs:∀(j:Nat) (e:Ent),S[j]? =some e->0<=e.1.sh/\e.1.sh<out.length):CallOk prog 10 [O J n,.ptr i 0 0,.ptr j 0 0] K (.agg (shc (zvi S out n))) K:=by
 have hi':∀ X,(K++X)[i]? =some ⟨24,0,[.msl o 0 0 out.length 11 true]⟩:=λX=>by rw[gK (gA.1 hi).1];exact hi
 have hj':∀ X,(K++X)[j]? =some ⟨50,0,[.slice (S.flatMap entc) S.length false]⟩:=λX=>by rw[gK (gA.1 hj).1];exact hj
 have ho':∀ X,(K++X)[o]? =some ⟨31,0,shL out⟩:=λX=>by rw[gK (gA.1 ho).1];exact ho
 unfold zvi;refine .go func10 ntmps10 results10 ?_;refine .e (.e ?_);by_cases h0:n<0
 .rw[gD h0];refine .c (λh=> ?_) (λh=> ?_);rotate_left
  .exact absurd h0 (vH h)
  refine .e (.ret ⟨.agg zsh,by simp(maxSteps:=9^9) (disch:=omega) only[go_sem,zw,zJ,uR,vA,uN,uD,uO,qE,zsh],?_⟩);exact .base (Fz.aggC (zqW _ _))
 .rw[gC h0];obtain⟨m,rfl⟩:∃ m:Nat,n=(m:Int):=⟨n.toNat,om⟩;have hm:m<S.length:=om;have e1:=gG hm;rw[uV,e1];dsimp only;have hsh:=hs m _ e1;have g5:(S.flatMap entc)[m * 147+5]? =some (O J S[m].1.sh):=zbD entc 147 S m 5 hm (λe he=>zcG e (hsq e he)) om;have ln:=ziM hsq;generalize S[m]=e at *;obtain⟨q,hq⟩:∃ q:Nat,e.1.sh=(q:Int):=⟨e.1.sh.toNat,om⟩;rw[hq]at g5 hsh |-;have hql:q<out.length:=om;have e2:=gG hql;rw[uV,e2,rK];have g6:=zrW out q hql;have l2:=zeF out;generalize out[q]=x at *;refine .c (λh=> ?_) (λh=> ?_)
  .exact absurd (vF h) h0
  refine .skip ?_;(repeat refine .seq ?_);refine .drawt [] [] mix kr λK hK=> ?_;simp(maxSteps:=9^9) (disch:=omega) only[go_sem,hi',hj',ho',g5,g6,ln,l2];refine hK _ _ ?_;clear hK K;refine .ret ⟨.agg (shc x),by simp(maxSteps:=9^9) (disch:=omega) only[go_sem,zw,zJ,uR,vA,uN,uD,uO,qE,zhh,show qA 11 (shc x)=shc x from rfl],?_⟩;exact .base (.id (zn (zrV _ x)))
theorem zk5{L:List It}(hL:∀ x∈L,SqOk x.s):∀ n,n<=L.length->SqOk (cur L n)
 | 0,_=>by
  show SqOk sq0;exact⟨by decide,by decide,by decide,by decide,by decide,by decide,rfl,rfl⟩
 | n+1,h=>by
  rw[zf4 (show n<L.length from om)];split
  .simp_all
  .exact zk5 hL n om
theorem zoJ{L:List It}(hL:∀ x∈L,SqOk x.s){j:Nat}{e:Ent}(he:(zd7 L)[j]? =some e):SqOk e.2.1:=by obtain⟨n,m,hn,hm,_,_,_,_,_,_,h,_⟩:=((zh1 L).e j e he).1;rw[h];exact zk5 hL n om
theorem znk{L:List It}(hL:∀ x∈L,SqOk x.s):(zd7 L).length<=L.length:=(zf0 (zt1 L hL L 0 (as0 sq0) dp0 rfl (zuw L) zxj (vU _))).1.ok.n
def dH(H:za)(S:List Ent)(out:List Sho):za:=H++[⟨50,0,[.slice (S.flatMap entc) S.length false]⟩,⟨31,0,shL out⟩,⟨24,0,[.msl (H.length+1) 0 0 S.length 11 true]⟩]
theorem ztv(H:za)(S:List Ent)(out:List Sho)(h:HSc H):HSc (dH H S out):=zfi (λb hb x hx=>by
 simp only[gM,gL,uA]at hb;rcases hb with rfl|rfl|rfl
 .rw[uX]at hx;rw[hx];exact zk λx hx=>zdO _ _ x hx
 .exact zkh _ _ x hx
 .rw[uX]at hx;rw[hx];exact .msl sp) h
theorem zeM{L:List It}{j:Nat}{e:Ent}(h:EOk L j e):∃(n m:Nat),e.1.f=(n:Int)/\e.1.l=(m:Int)/\n<=m/\m<=n+1/\m<L.length/\(zbm L e).length=m+1 - n/\∀ i,i<m+1 - n->∃ x,L[n+i]? =some x/\(zbm L e)[i]? =some (zcI x):=by
 obtain⟨⟨n,m,hn,hm,e1,e2,e3,_⟩,_⟩:=h;have hml:m=n\/m=n+1:=by omega
 refine⟨n,m,e1,e2,om,om,hm,?_,λi hi=> ?_⟩
 .unfold zbm;grind
 .refine⟨L[n+i]'om,gG _,?_⟩;unfold zbm;grind[Int.toNat_natCast,List.getElem?_eq_getElem]
theorem zyS(e:Ent)(h:SqL e.2.1):qA 135 (qD 6 (entc e))=sqc e.2.1:=by show qA 135 (sqc e.2.1++pic e.2.2)=_;exact wZ (zP _ h)
theorem ztW(e:Ent)(h:SqL e.2.1)(n:Nat):(entc e)[141+n]? =(pic e.2.2)[n]? :=by
 have e1:qD 141 (entc e)=pic e.2.2:=by show qD 135 (sqc e.2.1++pic e.2.2)=_;exact dE (zP _ h)
 grind
theorem zmS(L:List It)(fl:Bool)(hL:∀ x∈L,SqOk x.s)(hc:∀ x∈L,CdOk (zcI x))(hn:L.length<=800000)(H:za):CallOk prog 5 [.slice (itL L) L.length fl] H (.slice (shL (zk0 L)) (zk0 L).length false) H:=by
 have so:=λK=>zu4 L fl hL hn K;have hI:=zh1 L;have hsq:=fun(j:Nat) (e:Ent) (he:(zd7 L)[j]? =some e)=>zoJ hL he;have hlen:=znk hL;have hdl:=ziR L;have hli:=zbg L hL;unfold zk0 at hdl |-;generalize zd7 L=S at *;have hsl:∀ e∈S,SqL e.2.1:=λe he=>by obtain⟨j,hj⟩:=sM he;exact(hsq j e hj).toL
 have ln:=ziM hsl;have hz:(qB S.length zsh).flatten=(qB S.length zsh).flatten:=rfl;refine .go func5 ntmps5 results5 ?_;refine .e (.k so ?_);refine .e (.e ?_);refine .e ?_;refine .a (?_:PW _ _ _ [(0,.slice (itL L) L.length fl),(4,.ptr (H.length+2) 0 0),(5,.func 10 [] [.ptr (H.length+2) 0 0,.ptr H.length 0 0]),(22,.slice (S.flatMap entc) S.length false),(23,O J (S.length:Int)),(24,O J 0)] (H++[⟨50,0,[.slice (S.flatMap entc) S.length false]⟩,⟨31,0,(qB S.length zsh).flatten⟩,⟨24,0,[.msl (H.length+1) 0 0 S.length 11 true]⟩]) _);refine .view (Vs.cut (F1:=[(0,.slice (itL L) L.length fl),(4,.ptr (H.length+2) 0 0),(5,.func 10 [] [.ptr (H.length+2) 0 0,.ptr H.length 0 0]),(22,.slice (S.flatMap entc) S.length false),(23,O J (S.length:Int)),(24,O J 0)]) (H1:=dH H S (zcm L S 0)) (by simp[dH]) (λhs=> ?_) ?_) ?_
 .have:=CutH.of (A:=H) (L:=[⟨50,0,[.slice (S.flatMap entc) S.length false]⟩,⟨31,0,(qB S.length zsh).flatten⟩,⟨24,0,[.msl (H.length+1) 0 0 S.length 11 true]⟩]) (K:=[]) (L1:=[⟨50,0,[.slice (S.flatMap entc) S.length false]⟩,⟨31,0,shL (zcm L S 0)⟩,⟨24,0,[.msl (H.length+1) 0 0 S.length 11 true]⟩]) hs ⟨rfl,rfl,⟨.id (zk λx hx=>zdO _ _ x hx),trivial⟩,rfl,rfl,zjT _ _ _,rfl,rfl,⟨.id (.msl sp),trivial⟩,trivial⟩;rw[gQ]at this;exact this
 .have hl:(dH H S (zcm L S 0)).length=H.length+3:=by simp[dH]
  rw[hl];exact⟨.id (zk (zdJ _ _)),.id (.ptr om),.id (.func (λj x hx=>by simp at hx) (λj x hx=>by
   have hx:=uE hx;simp only[gM,gL,uA]at hx;rcases hx with rfl|rfl
   .exact .ptr om
   .exact .ptr om)),.id (zk λx hx=>zdO _ _ x hx),.id (.int _ _),.id (.int _ _),trivial⟩
 refine .l ?_;suffices hl1:∀ k:Nat,k<=S.length->PL prog _ _ [(0,.slice (itL L) L.length fl),(4,.ptr (H.length+2) 0 0),(5,.func 10 [] [.ptr (H.length+2) 0 0,.ptr H.length 0 0]),(22,.slice (S.flatMap entc) S.length false),(23,O J (S.length:Int)),(24,O J (k:Int))] (dH H S (zcm L S k)) _ by exact .a (hl1 0 om)
 clear so;refine cnt S.length (λk hk ih=> ?_) ?_;rotate_left
 .refine .round (.f (λK k=>by simp(maxSteps:=9^9) (disch:=omega) only[go_sem,zcP S.length];exact k) ?_);refine .u (.exit ?_);refine .f (λK k=>by simp(maxSteps:=9^9) (disch:=omega) only[go_sem,dH];exact k) ?_;refine .v (.msl (H.length+1) 0 0 S.length 11 true) ?_;have hon:=zb6 L S S.length;rw[hdl];exact .base (Fz.mslC (e:=31) (xs:=shL (zcm L S S.length)) om (apn _ _ 1) (by rw[zeF,hon]) (FzC.refl (zkh _ _)))
 have ct:=zco hk;have he:=gG hk;have hE:=hI.e k _ he;have hsE:=hsq k _ he;have hshE:=hI.s k _ he;have r1:=zoU hI (show k<=S.length from om) (n:=S[k].1.pa) ⟨hE.2.2.1.1,hE.2.2.1.2⟩;have r2:=zoU hI (show k<=S.length from om) (n:=S[k].1.fu) ⟨hE.2.2.2.1.1,hE.2.2.2.1.2⟩;have hol:=zb6 L S k;have ro:=fun(n:Int) (hn:n<S.length) K (h1) (h2) (h3)=>zvh S (zcm L S k) n (H.length+2) H.length (H.length+1) K h1 h2 h3 hsl hn λj e he=>by rw[hol];exact hI.s j e he
 have rA:=λK h1 h2 h3=>ro S[k].1.pa (by have:=hE.2.2.1.2;omega) K h1 h2 h3;have rB:=λK h1 h2 h3=>ro S[k].1.fu (by have:=hE.2.2.2.1.2;omega) K h1 h2 h3;rw[r1]at rA;rw[r2]at rB;clear ro r1 r2;have ia:qA 147 (qD (k * 147) (S.flatMap entc))=entc S[k]:=zbE entc 147 S k hk λe he=>zcG e (hsl e he);rw[zcm,he]at ih;dsimp only at ih;rw[zzQ]at ih;obtain⟨n,m,e1,e2,hnm,hm1,hmL,hPl,hPa⟩:=zeM hE;have hfr:=λK=>ztG S[k].2.1 (zbm L S[k]) (zbc (dvN L S k) S[k].1.pa).fr (zbc (dvN L S k) S[k].1.fu).fr false hsE (λc hcm=>by
  obtain⟨i,hi⟩:=sM hcm;obtain⟨x,hx,hx2⟩:=hPa i (by have:=(gA.1 hi).1;omega);rw[hx2]at hi;injection hi with hi;rw[<-hi];exact hc x (uE hx)) om K
 have hsl':=hsE.toL;generalize zbc (dvN L S k) S[k].1.pa=ra at *;generalize zbc (dvN L S k) S[k].1.fu=rb at *;generalize zbm L S[k]=P at *;generalize S[k]=e at *;generalize zcm L S k=out at *;obtain⟨q,hq⟩:∃ q:Nat,e.1.sh=(q:Int):=⟨e.1.sh.toNat,om⟩;have x1:=zcG e hsl';have x2:(entc e)[0]? =some (O J (n:Int)):=by rw[<-e1];rfl
 have x3:(entc e)[1]? =some (O J (m:Int)):=by rw[<-e2];rfl
 have x4:(entc e)[2]? =some (O J e.1.ty):=rfl;have x5:(entc e)[3]? =some (O J e.1.pa):=rfl;have x6:(entc e)[4]? =some (O J e.1.fu):=rfl;have x7:(entc e)[5]? =some (O J (q:Int)):=by rw[<-hq];rfl
 have x8:=zyS e hsl';have x9:(entc e)[144]? =some (.bool e.2.2.tf):=ztW e hsl' 3;have x10:(entc e)[145]? =some (.bool e.2.2.rp):=ztW e hsl' 4;have x11:(entc e).all PV.cell=true:=by simp[entc,zbv,PV.cell,pic]
 have x12:qA 147 (entc e)=entc e:=gH om;refine .round (.g ct ?_);refine .t (.skip ?_);refine .b (.g (nq2 ln (nq2 ia (nq2 x1 (nq2 x11 x12)))) ?_);refine .e (.g (nq2 x1 x2) ?_);refine .view (Vs.ghost 8 45 8 rfl) ?_;have hdl3:(dH H S out).length=H.length+3:=by simp[dH]
 refine .a (?_:PW _ _ _ [(0,.slice (itL L) L.length fl),(4,.ptr (H.length+2) 0 0),(5,.func 10 [] [.ptr (H.length+2) 0 0,.ptr H.length 0 0]),(7,.ptr (H.length+3) 0 0),(8,.msl (H.length+4) 0 0 0 8 true),(9,O J (n:Int)),(22,.slice (S.flatMap entc) S.length false),(23,O J (S.length:Int)),(24,O J (k:Int))] (dH H S out++[⟨55,0,entc e⟩,⟨45,0,[]⟩]) _) (by simp[kp,slot,Nat.beq,dH]) sp;refine .l ?_;suffices hl2:∀ j:Nat,j<=P.length->PL prog _ _ [(0,.slice (itL L) L.length fl),(4,.ptr (H.length+2) 0 0),(5,.func 10 [] [.ptr (H.length+2) 0 0,.ptr H.length 0 0]),(7,.ptr (H.length+3) 0 0),(8,.msl (H.length+4) (cdL (P.take j)).length 0 j 8 true),(9,O J ((n+j:Nat):Int)),(22,.slice (S.flatMap entc) S.length false),(23,O J (S.length:Int)),(24,O J (k:Int))] (dH H S out++[⟨55,0,entc e⟩,⟨45,(cdL (P.take j)).length,cdL (P.take j)⟩]) _ by exact .a (hl2 0 om)
 intro j hj;induction hd:P.length - j using Nat.strongRecOn generalizing j with
 | _ d ih2=>
  have hlk:(cdL (P.take j)).length=j * 8:=by rw[zpG,wA,Nat.min_eq_left hj]
  by_cases hjl:j<P.length
  .have d1:decide (((n+j:Nat):Int)<=(m:Int))=true:=gX om;have hnext:=ih2 (P.length - (j+1)) om (j+1) om rfl;obtain⟨x,hx,hPx⟩:=hPa j om;have hnj:n+j<L.length:=om;have hxe:L[n+j]=x:=by grind
   have ec:=zeP L hL (n+j) 139 8 hnj om;rw[hxe,zto _ (hL x (uE hx))]at ec;have et:cdL (P.take (j+1))=cdL (P.take j)++cdE (zcI x):=by rw[List.take_add_one,hPx];simp[cdL]
   have ec':qA 8 (qD ((n+j) * 148+139) (itL L))=cdE (zcI x):=ec;rw[et]at hnext;have hA:∀ y∈cdL (P.take j),Scoped H.length y:=ziY _ _;generalize cdL (P.take j)=A at *;have y5:(cdE (zcI x)).length=8:=rfl;have y6:qA 8 (cdE (zcI x))=cdE (zcI x):=rfl;have y7:(cdE (zcI x)).all PV.cell=true:=rfl;generalize cdE (zcI x)=B at *;refine .round (.f (λK k=>by simp(maxSteps:=9^9) (disch:=omega) only[go_sem,dH,x1,x3,d1];exact k) ?_);refine .t (.skip ?_);refine .b (.f (λK k=>by simp(maxSteps:=9^9) (disch:=omega) only[go_sem,hli,ec',y5,y6,y7,hlk];exact k) ?_);refine .e ?_;exact .a hnext (by simp[kp,slot,Nat.beq];omega) (by simp[dH])
  .have hjl':j=P.length:=om;subst hjl';have d1:decide (((n+P.length:Nat):Int)<=(m:Int))=false:=gW om;rw[List.take_length]at hlk |-;clear ih2;refine .round (.f (λK k=>by simp(maxSteps:=9^9) (disch:=omega) only[go_sem,dH,x1,x3,d1];exact k) ?_);refine .u (.exit ?_);refine .view (Vs.trim (F1:=[(0,.slice (itL L) L.length fl),(4,.ptr (H.length+2) 0 0),(5,.func 10 [] [.ptr (H.length+2) 0 0,.ptr H.length 0 0]),(7,.ptr (H.length+3) 0 0),(8,.slice (cdL P) P.length false),(22,.slice (S.flatMap entc) S.length false),(23,O J (S.length:Int)),(24,O J (k:Int))]) (H1:=dH H S out++[⟨55,0,entc e⟩]) (K:=[⟨45,(cdL P).length,cdL P⟩]) (λhh=>zfi (λb hb x hx=> ?_) (ztv H S out hh)) (by simp[dH]) (by simp[dH]) ?_) ?_
   .rw[uX]at hb;subst hb;exact zdO _ [e] x (by simpa[enB]using hx)
   .have hl:(dH H S out++[⟨55,0,entc e⟩]:za).length=H.length+4:=by simp[dH]
    rw[hl];exact⟨.id (zk (zdJ _ _)),.id (.ptr om),.id (.func (λj x hx=>by simp at hx) (λj x hx=>by
     have hx:=uE hx;simp only[gM,gL,uA]at hx;rcases hx with rfl|rfl
     .exact .ptr om
     .exact .ptr om)),.id (.ptr om),Fz.mslC (e:=45) (xs:=cdL P) om sp hlk (FzC.refl (ziY _ _)),.id (zk λx hx=>zdO _ _ x hx),.id (.int _ _),.id (.int _ _),trivial⟩
   have b1:(H++[⟨50,0,[.slice (S.flatMap entc) S.length false]⟩,⟨31,0,shL out⟩,⟨24,0,[.msl (H.length+1) 0 0 S.length 11 true]⟩,⟨55,0,entc e⟩,⟨31,0,[]⟩,⟨31,0,[]⟩]:za)[H.length+2]? =some ⟨24,0,[.msl (H.length+1) 0 0 out.length 11 true]⟩:=by rw[hol];exact apn _ _ 2
   have b2:(H++[⟨50,0,[.slice (S.flatMap entc) S.length false]⟩,⟨31,0,shL out⟩,⟨24,0,[.msl (H.length+1) 0 0 S.length 11 true]⟩,⟨55,0,entc e⟩,⟨31,0,[]⟩,⟨31,0,[]⟩]:za)[H.length]? =some ⟨50,0,[.slice (S.flatMap entc) S.length false]⟩:=apn _ _ 0;have b3:(H++[⟨50,0,[.slice (S.flatMap entc) S.length false]⟩,⟨31,0,shL out⟩,⟨24,0,[.msl (H.length+1) 0 0 S.length 11 true]⟩,⟨55,0,entc e⟩,⟨31,0,[]⟩,⟨31,0,[]⟩]:za)[H.length+1]? =some ⟨31,0,shL out⟩:=apn _ _ 1;have s1:=zhh;have s2:=zh8;have s3:∀ x:Sho,qA 11 (shc x)=shc x:=λ_=>rfl;have s4:∀ x:Sho,qA 5 (shc x)=fmc x.fr:=λ_=>rfl;have s5:∀ x:Sho,(shc x)[8]? =some (.bool x.ok):=λ_=>rfl;have F7:∀ g:Fm,(fmc g).length=5:=λ_=>rfl;have F5:∀ g:Fm,(fmc g).all PV.cell=true:=λ_=>rfl;have F8:∀ g:Fm,qA 5 (fmc g)=fmc g:=λ_=>rfl;have Z7:zfr.length=5:=rfl;have F9:∀ g:Fm,qD 5 (fmc g)=[]:=λ_=>rfl;refine .view (Vs.place 31) (PW.view (Vs.place 31) ?_);refine .a (?_:PW _ _ _ [(0,.slice (itL L) L.length fl),(4,.ptr (H.length+2) 0 0),(5,.func 10 [] [.ptr (H.length+2) 0 0,.ptr H.length 0 0]),(7,.ptr (H.length+3) 0 0),(8,.slice (cdL P) P.length false),(22,.slice (S.flatMap entc) S.length false),(23,O J (S.length:Int)),(24,O J (k:Int))] (H++[⟨50,0,[.slice (S.flatMap entc) S.length false]⟩,⟨31,0,shL out⟩,⟨24,0,[.msl (H.length+1) 0 0 S.length 11 true]⟩,⟨55,0,entc e⟩,⟨31,0,[]⟩,⟨31,0,[]⟩]) _) rfl (by simp[dH]);refine .y [H.length+4,H.length+5] [(10,[0]),(11,[1])] [(10,0),(11,1)] [50,55] λK hK=> ?_;refine sqx (nq2 x1 (nq2 x5 x6)) ?_;refine VCj.read (λX hX=>rA X ((hX.out _ sp).trans b1) ((hX.out _ sp).trans b2) ((hX.out _ sp).trans b3)) rfl ?_;refine sqx (nq2 x1 (nq2 x5 x6)) ?_;refine VCj.read (λX hX=>rB X ((hX.out _ sp).trans b1) ((hX.out _ sp).trans b2) ((hX.out _ sp).trans b3)) rfl ?_;refine sqx (nq2 s1 (nq2 s2 s3)) ?_;refine hK _ _ ?_;clear hK K;unfold shV at ih;generalize zfj e.2.1 P ra.fr rb.fr=X at hfr ih;unfold zcE at hfr;refine .m (nq2 x1 (nq2 x8 (nq2 s1 (nq2 s4 (nq2 F5 (nq2 F7 (nq2 F8 F9))))))) hfr ?_;suffices h1:PW prog _ _ [(0,.slice (itL L) L.length fl),(4,.ptr (H.length+2) 0 0),(5,.func 10 [] [.ptr (H.length+2) 0 0,.ptr H.length 0 0]),(7,.ptr (H.length+3) 0 0),(10,.ptr (H.length+4) 1 0),(11,.ptr (H.length+5) 1 0),(12,.ptr (H.length+6) 0 0),(13,.bool (X.2.1&&(decide (e.1.ty=1)||ra.ok))),(22,.slice (S.flatMap entc) S.length false),(23,O J (S.length:Int)),(24,O J (k:Int))] (H++[⟨50,0,[.slice (S.flatMap entc) S.length false]⟩,⟨31,0,shL out⟩,⟨24,0,[.msl (H.length+1) 0 0 S.length 11 true]⟩,⟨55,0,entc e⟩,⟨31,1,shc ra⟩,⟨31,1,shc rb⟩,⟨29,0,fmc X.1⟩]) _ by
    by_cases hty:e.1.ty=1
    .have d1:(e.1.ty !=1)=false:=by simp[hty]
     rw[gX hty,dO,rY]at h1;refine .g (nq2 x1 (nq2 x4 d1)) ?_;refine .us ?_;exact .a h1
    .have d1:(e.1.ty !=1)=true:=by simp_all
     rw[gW hty,dR]at h1;refine .g (nq2 x1 (nq2 x4 d1)) ?_;refine .t ?_;cases hok:X.2.1 with
     | false=>
      rw[hok]at h1;refine .e ?_;exact .a h1
     | true=>rw[hok,uP]at h1;refine .g (nq2 s1 s5) ?_;exact .a h1
   generalize (X.2.1&&(decide (e.1.ty=1)||ra.ok))=I1 at ih |-;suffices h2:PW prog _ _ [(0,.slice (itL L) L.length fl),(4,.ptr (H.length+2) 0 0),(5,.func 10 [] [.ptr (H.length+2) 0 0,.ptr H.length 0 0]),(7,.ptr (H.length+3) 0 0),(12,.ptr (H.length+6) 0 0),(13,.bool (I1&&(!decide (e.1.ty=3)||rb.ok))),(22,.slice (S.flatMap entc) S.length false),(23,O J (S.length:Int)),(24,O J (k:Int))] (H++[⟨50,0,[.slice (S.flatMap entc) S.length false]⟩,⟨31,0,shL out⟩,⟨24,0,[.msl (H.length+1) 0 0 S.length 11 true]⟩,⟨55,0,entc e⟩,⟨31,1,shc ra⟩,⟨31,1,shc rb⟩,⟨29,0,fmc X.1⟩]) _ by
    by_cases hty:e.1.ty=3
    .have d1:(e.1.ty==3)=true:=by simp[hty]
     rw[gX hty,Bool.not_true,dR]at h2;refine .g (nq2 x1 (nq2 x4 d1)) ?_;refine .t ?_;cases I1 with
     | false=>
      refine .e ?_;exact .a h2
     | true=>rw[uP]at h2;refine .g (nq2 s1 s5) ?_;exact .a h2
    .have d1:(e.1.ty==3)=false:=by simp[hty]
     rw[gW hty,mM,dO,rY]at h2;refine .g (nq2 x1 (nq2 x4 d1)) ?_;refine .us ?_;exact .a h2
   generalize (I1&&(!decide (e.1.ty=3)||rb.ok))=I2 at ih |-;suffices h3:PW prog _ _ [(0,.slice (itL L) L.length fl),(4,.ptr (H.length+2) 0 0),(5,.func 10 [] [.ptr (H.length+2) 0 0,.ptr H.length 0 0]),(7,.ptr (H.length+3) 0 0),(12,.ptr (H.length+6) 0 0),(13,.bool I2),(15,O J (if e.2.2.rp then 3 else 2)),(22,.slice (S.flatMap entc) S.length false),(23,O J (S.length:Int)),(24,O J (k:Int))] (H++[⟨50,0,[.slice (S.flatMap entc) S.length false]⟩,⟨31,0,shL out⟩,⟨24,0,[.msl (H.length+1) 0 0 S.length 11 true]⟩,⟨55,0,entc e⟩,⟨31,1,shc ra⟩,⟨31,1,shc rb⟩,⟨29,0,fmc X.1⟩]) _ by
    refine .e (.g (nq2 x1 x10) ?_);cases hrp:e.2.2.rp with
    | false=>
     rw[hrp,gC sp]at h3;refine .us ?_;exact .a h3
    | true=>rw[hrp,gD rfl]at h3;refine .t (.e ?_);exact .a h3
   generalize (if e.2.2.rp then(3:Int)else 2)=fi at ih |-;have hql:q<out.length:=om;have lsh:=zeF out;rw[hq,uV,e1,e2]at ih;refine .g (nq2 x1 (nq2 x2 (nq2 x3 (nq2 x4 (nq2 x7 (nq2 x9 (nq2 @fmc.eq_1 lsh))))))) ?_;refine .e ?_;have hp:=zoO out q ⟨X.1,(n:Int),(m:Int),e.1.ty,I2,fi,e.2.2.tf⟩ hql;have hps:zM (shL out) (q * 11) (shc ⟨X.1,(n:Int),(m:Int),e.1.ty,I2,fi,e.2.2.tf⟩)=qA (q * 11) (shL out)++(shc ⟨X.1,(n:Int),(m:Int),e.1.ty,I2,fi,e.2.2.tf⟩++qD (q * 11+11) (shL out)):=by unfold zM;rw[gU];rfl
   rw[hps]at hp;refine .a (?_:PL _ _ _ [(0,.slice (itL L) L.length fl),(4,.ptr (H.length+2) 0 0),(5,.func 10 [] [.ptr (H.length+2) 0 0,.ptr H.length 0 0]),(22,.slice (S.flatMap entc) S.length false),(23,O J (S.length:Int)),(24,O J ((k+1:Nat):Int))] (dH H S (out.set q ⟨X.1,(n:Int),(m:Int),e.1.ty,I2,fi,e.2.2.tf⟩)++[⟨55,0,entc e⟩,⟨31,1,shc ra⟩,⟨31,1,shc rb⟩,⟨29,0,fmc X.1⟩]) _) (by simp[kp,slot,Nat.beq]) (by unfold dH;rw[<-hp];simp[shc,fmc]);refine .view (Vs.trim (F1:=[(0,.slice (itL L) L.length fl),(4,.ptr (H.length+2) 0 0),(5,.func 10 [] [.ptr (H.length+2) 0 0,.ptr H.length 0 0]),(22,.slice (S.flatMap entc) S.length false),(23,O J (S.length:Int)),(24,O J ((k+1:Nat):Int))]) (H1:=dH H S (out.set q ⟨X.1,(n:Int),(m:Int),e.1.ty,I2,fi,e.2.2.tf⟩)) (ztv H S _) (by simp[dH]) rfl ?_) ih;have hl:(dH H S (out.set q ⟨X.1,(n:Int),(m:Int),e.1.ty,I2,fi,e.2.2.tf⟩)).length=H.length+3:=by simp[dH]
   rw[hl];exact⟨.id (zk (zdJ _ _)),.id (.ptr om),.id (.func (λj x hx=>by simp at hx) (λj x hx=>by
    have hx:=uE hx;simp only[gM,gL,uA]at hx;rcases hx with rfl|rfl
    .exact .ptr om
    .exact .ptr om)),.id (zk λx hx=>zdO _ _ x hx),.id (.int _ _),.id (.int _ _),trivial⟩
theorem zwc(L:List It)(fl:Bool)(hL:∀ x∈L,SqOk x.s)(i:Nat)(hi:i<=L.length)(hn:L.length<=800000)(H:za):CallOk prog 27 [.slice (itL L) L.length fl,O J (i:Int)] H (.agg (sqc (cur L i))) H:=by
 have ln:=zbg L hL;refine .go func27 ntmps27 results27 ?_;refine .e (.e ?_);refine .e (.l ?_);suffices hl1:∀ j:Nat,j<=i->PL prog _ _ [(0,.slice (itL L) L.length fl),(1,O J (i:Int)),(4,.ptr H.length 0 0),(5,.ptr (H.length+1) 0 0),(6,O J (j:Int))] (H++[⟨37,0,sqc sq0⟩,⟨37,0,sqc (cur L j)⟩]) _ by exact .a (hl1 0 om)
 refine cnt i (λj hj ih=> ?_) ?_
 .have ct:=zco hj;have hjl:j<L.length:=om;have ek:=zfU L hL j 0 hjl om;rw[ztp,vQ]at ek;rw[zf4 hjl]at ih;have ss:=zeP L hL j 1 135 hjl om;have hc:=zk5 hL j om;have hx:=hL _ (uY hjl);rw[ztl _ hx]at ss;generalize cur L j=g at *;generalize L[j]=x at *;have k2:=zaj g hc;have k3:=zab x.s;have k4:=zaj x.s hx;refine .round (.g ct ?_);refine .t (.skip ?_);refine .b ?_;by_cases h1:x.k=1
  .rw[gD h1]at ih;have d1:(x.k==1)=true:=by simp[h1]
   refine .g (nq2 ek (nq2 ln d1)) ?_;refine .t (.g (nq2 ss (nq2 ln (nq2 k2 (nq2 k3 k4)))) ?_);refine .e ?_;exact .a ih rfl (by simp[k2,k4])
  .rw[gC h1]at ih;have d1:(x.k==1)=false:=by simp[h1]
   refine .g (nq2 ek (nq2 ln d1)) ?_;refine .us (.e ?_);exact .a ih
 .refine .round (.f (λK k=>by simp(disch:=omega) only[go_sem,zcP i];exact k) ?_);refine .u (.exit ?_);have hc:=zk5 hL i hi;generalize cur L i=g at *;have k1:=zab g;have k2:=zaj g hc;have k3:=zbu g hc;have k5:qD 135 (sqc sq0)=[]:=rfl;refine .f (λK k=>by simp(disch:=omega) only[go_sem,k1,k2,k3,k5,gQ];exact k) ?_;refine .ret ⟨.agg (sqc g),by simp(disch:=omega) only[go_sem,zw,zJ,uR,vA,uN,uD,uO,qE,k2,k3,k5,gQ],?_⟩;exact .base (.id (zn (zaf _ _)))
theorem zqb(x:Sho)(H:za):CallOk prog 7 [.agg (shc x),.agg (shc x)] H (.bool true) H:=by have eq:=λK=>zqK x.fr K;have s1:=zhh x;have s2:=zh8 x;have s4:qA 5 (shc x)=fmc x.fr:=rfl;have g1:(shc x)[5]? =some (O J x.f):=rfl;have g2:(shc x)[6]? =some (O J x.l):=rfl;have g3:(shc x)[7]? =some (O J x.ty):=rfl;have g4:(shc x)[8]? =some (.bool x.ok):=rfl;have g5:(shc x)[9]? =some (O J x.fi):=rfl;have g6:(shc x)[10]? =some (.bool x.tf):=rfl;refine .go func7 ntmps7 results7 ?_;refine .g s2 ?_;refine .m (nq2 s1 (nq2 s4 (nq2 g1 (nq2 g2 (nq2 g3 (nq2 g4 (nq2 g5 g6))))))) eq ?_;(refine .ret ⟨_,rfl,?_⟩;first|refine .inl ⟨?_,rfl⟩|refine .base (.id' ?_ (.bool _))|refine .base (.id' ?_ (.int _ _)));rfl
theorem zuk{l:List It}(hok:∀ x∈l,ItOk x)(h:ltB l=true):∀ x∈l,CdOk (zcI x):=λx hx=>by unfold ltB at h;rw[gB]at h;have:=uJ.1 h.2 x hx;unfold ltI at this;simp only[gB,gY]at this;exact⟨by have:=this.1.2.2;show x.us.length<=_;omega,λu hu=>⟨(hok x hx).ut u hu,by have:=vF (uJ.1 this.2.2 u hu);omega⟩⟩
end Go.Proofs.YtleejngibkbjnaaGreatDoor.Sc
