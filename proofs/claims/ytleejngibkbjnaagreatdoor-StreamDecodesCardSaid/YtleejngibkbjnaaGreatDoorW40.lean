/-
  Parts of the proof. No condition.
-/
import Derived.Test.YtleejngibkbjnaaGreatDoorW38
import Derived.Test.YtleejngibkbjnaaGreatDoorW39
open Go.Proofs.YtleejngibkbjnaaGreatDoor.Pm.PV renaming int → O
open Go.IntKind renaming i64 → J
open List renaming take → qA, drop → qB
open Go.Proofs.Tryz
set_option linter.all false
set_option maxRecDepth 100000
set_option maxHeartbeats 32000000
namespace Go.Proofs.YtleejngibkbjnaaGreatDoor
namespace Sc
open Pm Ty Go.RowKit
theorem zqE(L:List It)(fl:Bool)(H:za):CallOk prog 18 [.slice (itL L) L.length fl] H (.func 35 [] [.ptr H.length 0 0]) (H++[⟨22,0,[.slice (itL L) L.length fl]⟩]):=by refine .go func18 ntmps18 results18 ?_;refine .e (.e ?_);refine .v (.func 35 [] [.ptr H.length 0 0]) ?_;exact .inl ⟨rfl,rfl⟩
structure AsOk(L:List It)(a:As):Prop where
 sq:SqOk a.sq
 op:OpR L a.op
 lk: -1<=a.lk/\a.lk<=2
def zzk(f:FmY):Prop:=SqOk f.sq/\-1<=f.lk/\f.lk<=2
theorem zpi(L:List It)(hL:∀ x∈L,SqOk x.s)(a:As)(k:Nat)(hk:k<L.length)(h:AsOk L a):AsOk L (a.item L k L[k]).1/\∀ f,(a.item L k L[k]).2=some f->zzk f:=by
 obtain⟨q1,q2,q3⟩:=ztk L hL a k hk h.sq h.op;have h0: -1<=(-1:Int)/\(-1:Int)<=2:=om;have hl:=h.lk;have key:(-1<=(a.item L k L[k]).1.lk/\(a.item L k L[k]).1.lk<=2)/\∀ f,(a.item L k L[k]).2=some f->-1<=f.lk/\f.lk<=2:=by
  unfold As.item;split
  .unfold As.pic;split
   .exact⟨hl,λf h=>by cases h⟩
   .split
    .exact⟨h0,λf h=>by cases h;exact hl⟩
    .split
     .exact⟨h0,λf h=>by cases h;exact hl⟩
     .split
      .exact⟨hl,λf h=>by cases h⟩
      .exact⟨hl,λf h=>by cases h⟩
  .split
   .unfold As.seq;split
    .exact⟨hl,λf h=>by cases h⟩
    .exact⟨h0,λf h=>by cases h⟩
   .split
    .unfold As.grp;split
     .exact⟨h0,λf h=>by cases h⟩
     .split
      .exact⟨by show -1<=(2:Int)/\(2:Int)<=2;omega,λf h=>by cases h⟩
      .exact⟨by show -1<=(0:Int)/\(0:Int)<=2;omega,λf h=>by cases h⟩
    .split
     .exact⟨h0,λf h=>by cases h⟩
     .exact⟨hl,λf h=>by cases h⟩
 exact⟨⟨q1,q2,key.1⟩,λf hf=>⟨q3 f hf,key.2 f hf⟩⟩
theorem DpG.mono{d:Dp}{m n:Nat}(h:DpG d m)(hm:m<=n):DpG d n:=⟨⟨h.ok.sq,by have:=h.ok.n;omega,h.ok.sh,h.ok.lk,h.ok.new,h.ok.old,h.ok.wt⟩,h.cnt⟩
theorem zwU{d:Dp}{m:Nat}(h:DpG d m)(rs:Bool):DpG (d.res rs) m:=by
 unfold Dp.res;split
 .obtain⟨⟨⟨q1,q2,q3,q4,q5,q6,q7⟩,q8⟩,q9⟩:=zf0 h;have f3:=(zf1 d).2.2.1;have f4:=zjE d;refine⟨⟨q1,q2,q3,by simp only;omega,by simp only;omega,by simp only;omega,λh=> ?_⟩,q8⟩;simp only at h;rw[f3]at h;cases h
 .exact h
theorem zw7{d:Dp}{m:Nat}(h:DpG d m)(lk:Int)(hl: -1<=lk/\lk<=2):DpG (d.lnk lk) m:=by
 unfold Dp.lnk;split
 .rename_i hne;exact⟨⟨h.ok.sq,h.ok.n,h.ok.sh,by simp only;omega,h.ok.new,h.ok.old,h.ok.wt⟩,h.cnt⟩
 .exact h
theorem zrF{d:Dp}{f:FmY}{m:Nat}(h:DpG d m)(hf:zzk f):DpG (d.step f) (m+1):=zvW (zw7 (zwU h _) _ hf.2) hf.1.toL
def kx(L:List It)(fl:Bool)(n b:Nat)(ob:Obj):za:=[⟨22,0,[.slice (itL L) L.length fl]⟩,⟨0,0,[.lp b (.deferred (some []))]⟩,⟨0,0,[.lp (b+1) ob]⟩]
def kH(H:za)(L:List It)(fl:Bool)(b:Nat)(ob:Obj)(d:Dp):za:=H++(dpB (H.length+1) d::enB d.en::kx L fl H.length b ob)
theorem zdI(H:za)(L:List It)(fl:Bool)(b:Nat)(ob:Obj)(d:Dp):(kH H L fl b ob d).length=H.length+5:=by simp[kH,kx]
theorem zep(H:za)(L:List It)(fl:Bool)(b:Nat)(ob:Obj)(d:Dp)(X:za)(j:Nat)(hj:j<5):(kH H L fl b ob d++X)[H.length+j]? =(dpB (H.length+1) d::enB d.en::kx L fl H.length b ob)[j]? :=by rw[gK (by rw[zdI];omega),kH,gN om,uW]
theorem kH_c(H:za)(L:List It)(fl:Bool)(b:Nat)(ob:Obj)(d:Dp)(X:za):(kH H L fl b ob d++X)[H.length+2]? =some ⟨22,0,[.slice (itL L) L.length fl]⟩:=zep H L fl b ob d X 2 om
theorem kH_l(H:za)(L:List It)(fl:Bool)(b:Nat)(ob:Obj)(d:Dp)(X:za):(kH H L fl b ob d++X)[H.length+4]? =some ⟨0,0,[.lp (b+1) ob]⟩:=zep H L fl b ob d X 4 om
theorem zw8(H:za)(L:List It)(fl:Bool)(b:Nat)(ob:Obj)(d:Dp)(X:za):DpH (kH H L fl b ob d++X) H.length (H.length+1) d:=⟨zep H L fl b ob d X 0 om,zep H L fl b ob d X 1 om,om⟩
theorem zea(H K:za)(j:Nat)(B:Blk):(H++K).set (H.length+j) B=H++K.set j B:=by rw[uC _ _ om,uW]
theorem zth(H:za)(L:List It)(fl:Bool)(b:Nat)(ob:Obj)(d d':Dp)(X:za):tw (kH H L fl b ob d++X) H.length (H.length+1) (dpB (H.length+1) d') (enB d'.en)=kH H L fl b ob d'++X:=by rw[zhR _ _ _ _ _ _ (by rw[zdI];omega) (by rw[zdI];omega)];congr 1;unfold tw kH;have e0:=λK B=>zea H K 0 B;simp only[vQ]at e0;rw[e0,zea];rfl
theorem zti(H:za)(L:List It)(fl:Bool)(b:Nat)(ob ob':Obj)(d:Dp)(X:za):(kH H L fl b ob d++X).set (H.length+4) ⟨0,0,[.lp (b+1) ob']⟩=kH H L fl b ob' d++X:=by rw[uL _ _ (by rw[zdI];omega)];congr 1;unfold kH;rw[zea];rfl
theorem ztj{H:za}{L:List It}{fl:Bool}{b:Nat}{ob:Obj}{d d':Dp}{X:za}(h:HSc (kH H L fl b ob d++X)):HSc (kH H L fl b ob d'++X):=by rw[<-zth H L fl b ob d d' X];exact zrb (zt2 _ _ _ (by simp[zdI];omega)) (zdO _ _) h
theorem _root_.Go.Proofs.YtleejngibkbjnaaGreatDoor.Pm.HSc.snoc{A:za}(h:HSc A){k:Blk}(hk:∀ x∈k.cells,Scoped (A.length+1) x):HSc (A++[k]):=λj k' hk' x hx=>by
 rw[gP];rcases zE hk' with⟨_,hk'⟩|⟨_,rfl⟩
 .exact(h j k' hk' x hx).mono sp
 .exact hk x hx
theorem zfO{α:Type}{l:List α}{k:Nat}{x:α}{r:List α}(h:l.drop k=x::r):∃ hk:k<l.length,l[k]=x/\l.drop (k+1)=r:=by
 have hk:k<l.length:=by
  rcases dN k l.length with h1|h1
  .exact h1
  .rw[List.drop_eq_nil_of_le h1]at h;cases h
 rw[vY hk]at h;injection h with h1 h2;exact⟨hk,h1,h2⟩
theorem zvM(L:List It)(fl:Bool)(hL:∀ x∈L,SqOk x.s)(hn:L.length<=800000)(H:za)(b:Nat)(ob:Obj)(y:PV)(hys:Scoped (H.length+5) y)(d0:Dp)(hd0:DpG d0 0)
  (hy:∀(d:Dp) (f:FmY) (X:za),DpG d 800000->zzk f->YldOk prog y [.agg (zD f)] (kH H L fl b ob d++X) (.bool true) (kH H L fl b ob (d.step f)++X)):
  CallOk prog 35 [y,.ptr (H.length+2) 0 0] (kH H L fl b ob d0) (.tup []) (kH H L fl b ob (dpN L (as0 sq0) d0 0 L)):=by
 have ln:=zbg L hL;have kc:=λd X=>kH_c H L fl b ob d X;have kc0:(kH H L fl b ob d0)[H.length+2]? =some ⟨22,0,[.slice (itL L) L.length fl]⟩:=by have:=kc d0 [];rwa[gQ]at this
 have kl:=λd=>zdI H L fl b ob d;have z0:zbt (as0 sq0)=zbt (as0 sq0):=rfl;refine .go func35 ntmps35 results35 ?_;refine .e ?_;refine .a (?_:PW _ _ _ [(0,y),(1,.ptr (H.length+2) 0 0),(3,.ptr (H.length+5) 0 0)] (kH H L fl b ob d0++[asB (as0 sq0)]) _) (by rw[<-kl d0];rfl) rfl;refine .g kc ?_;refine .l ?_;suffices hloop:∀(r:List It) (k:Nat) (a:As) (d:Dp),L.drop k=r->AsOk L a->DpG d k->k<=L.length->dpN L a d k r=dpN L (as0 sq0) d0 0 L->
   PL prog _ _ [(0,y),(1,.ptr (H.length+2) 0 0),(3,.ptr (H.length+5) 0 0),(9,O J (L.length:Int)),(10,O J (k:Int))] (kH H L fl b ob d++[asB a]) _ by
  exact .a (hloop L 0 (as0 sq0) d0 rfl ⟨⟨by decide,by decide,by decide,by decide,by decide,by decide,rfl,rfl⟩,.inl rfl,by decide⟩ hd0 om rfl)
 intro r;induction r with
 | nil=>
  intro k a d hr ha hd hk he;have hkl:k=L.length:=by have:=nB.1 hr;omega
  subst hkl;refine .round (.e ?_);refine .u (.exit ?_);rw[<-he];refine⟨_,rfl,?_⟩;refine .cut rfl (by rw[kl,kl]) (λh=> ?_) (.id (.tup sp));have:=ztj (X:=[]) (d':=d) (by rw[gQ];exact h);rwa[gQ]at this
 | cons x r ih=>
  intro k a d hr ha hd hk he;obtain⟨hkl,hx,hr2⟩:=zfO hr;refine .round (.e ?_);refine .t (.skip ?_);refine .b (.e ?_);have hi:(kH H L fl b ob d++[asB a])[H.length+5]? =some (asB a):=by rw[<-kl d];simp
  have io:=zvN L fl k hkl hL a (H.length+5) _ hi ha.sq ha.op;obtain⟨g1,g2⟩:=zpi L hL a k hkl ha;have hset:∀ b',(kH H L fl b ob d++[asB a]).set (H.length+5) (asB b')=kH H L fl b ob d++[asB b']:=λb'=>by rw[<-kl d];simp
  rw[hset]at io;have e0:dpN L a d k (x::r)=dpN L (a.item L k x).1 (d.stepO (a.item L k x).2) ((k:Int)+1) r:=rfl;rw[e0,<-hx]at he;have inext:=fun(d':Dp) (h1:DpG d' (k+1)) (h2:d'=d.stepO (a.item L k L[k]).2)=>ih (k+1) (a.item L k L[k]).1 d' hr2 g1 h1 om (by rw[<-he,h2];rfl);have scA:∀ d' b',HSc (kH H L fl b ob d0)->HSc (kH H L fl b ob d'++[asB b']):=λd' b' h0=>by
   have h1:HSc (kH H L fl b ob d'):=by have:=ztj (X:=[]) (d':=d') (by rw[gQ];exact h0);rwa[gQ]at this
   exact HSc.snoc h1 (zuu _ _)
  have trim:∀ d' b' K,Vs (⟨27,kH H L fl b ob d0⟩:Env) [(0,y),(1,.ptr (H.length+2) 0 0),(3,.ptr (H.length+5) 0 0),(9,O J (L.length:Int)),(10,O J ((k+1:Nat):Int))] ((kH H L fl b ob d'++[asB b'])++K) [(0,y),(1,.ptr (H.length+2) 0 0),(3,.ptr (H.length+5) 0 0),(9,O J (L.length:Int)),(10,O J ((k+1:Nat):Int))] (kH H L fl b ob d'++[asB b']):=λd' b' K=>by
   have hl1:(kH H L fl b ob d'++[asB b']).length=H.length+6:=by simp[zdI]
   refine Vs.trim (scA d' b') (by rw[hl1,zdI];omega) rfl ?_;rw[hl1];exact⟨.id (hys.mono om),.id (.ptr om),.id (.ptr om),.id (.int _ _),.id (.int _ _),trivial⟩
  generalize a.item L k L[k]=q at *;obtain⟨a',o⟩:=q;cases o with
  | none=>
   have z1:(zD fm0).length=145:=rfl;have z5:(zD fm0).all PV.cell=true:=rfl;have z6:qA 145 (zD fm0)=zD fm0:=rfl;unfold fmO at io;dsimp only at io;refine .f (λK k=>by simp(maxSteps:=9^9) (disch:=omega) only[go_sem,kc];refine VCx.call (io) rfl ?_;simp(maxSteps:=9^9) (disch:=omega) only[go_sem,z1,z5,z6];exact k) ?_;refine .e (.us ?_);refine .e (.keep [0,1,3,9,10] ?_);refine .view ?_ (inext d (hd.mono om) rfl);have:=trim d a' [⟨81,0,zD fm0⟩];rw[gU]at this;exact this
  | some f=>obtain⟨hf1,hf2⟩:=g2 f rfl;have z1:=zcp f hf1.toL;have z5:=zcF f;have z6:qA 145 (zD f)=zD f:=gH om;unfold fmO at io;dsimp only at io;refine .f (λK k=>by simp(maxSteps:=9^9) (disch:=omega) only[go_sem,kc];refine VCx.call (io) rfl ?_;simp(maxSteps:=9^9) (disch:=omega) only[go_sem,z1,z5,z6];exact k) ?_;have yo:=hy d f [asB a',⟨81,0,zD f⟩] (hd.mono om) ⟨hf1,hf2⟩;(repeat refine .seq ?_);refine .ry 4 rfl rfl rfl rfl λK hK=> ?_;refine sqx (nq2 z1 z6) ?_;refine⟨rfl,.bool true,_,yo,?_⟩;refine sqz ?_;refine hK _ _ ?_;clear hK K;refine .us (.e ?_);refine .keep [0,1,3,9,10] ?_;refine .view ?_ (inext (d.step f) (zrF hd ⟨hf1,hf2⟩) rfl);have:=trim (d.step f) a' [⟨81,0,zD f⟩];rw[gU]at this;exact this
theorem _root_.Go.Proofs.YtleejngibkbjnaaGreatDoor.Pm.YldOk.introN{P:Program}{H:za}{N l id e ver:Nat}{us:List Value}{fs:List PV}{r:Loop}{p:Nat}{x:PV}{G:Fr}{H':za}(hN:us.length=N)(hr1:r.tmps=us.toArray)(hr2:r.state= .ready)(hr3:r.pending=none)(hps:r.params= #[p])(hp:p<N)
  (hG:∀ t,slot G t= .undef\/(t<N/\fs[t]? =some (slot G t))) (hid:H[id]? =some ⟨e,ver,[.lp l (.loop r)]⟩)
  (h:PWr P ⟨N,H⟩ l r.assign ((p,x)::G) H (zlg P ⟨N,H⟩ (znr H H' id e ver l r) id e ver l r)):YldOk P (.yl l us fs) [x] H (.bool true) H':=by
 subst hN;exact YldOk.intro hr1 hr2 hr3 hps hp hG hid h
theorem zt1(L:List It)(hL:∀ x∈L,SqOk x.s):∀(r:List It) (k:Nat) (a:As) (d:Dp),L.drop k=r->AsOk L a->DpG d k->k<=L.length->DpG (dpN L a d k r) L.length
 | [],k,a,d,hr,_,hd,hk=>hd.mono hk
 | x::r,k,a,d,hr,ha,hd,hk=>by
  obtain⟨hkl,hx,hr2⟩:=zfO hr;obtain⟨g1,g2⟩:=zpi L hL a k hkl ha;have e:dpN L a d k (x::r)=dpN L (a.item L k x).1 (d.stepO (a.item L k x).2) ((k+1:Nat):Int) r:=rfl;rw[e,<-hx];refine zt1 L hL r (k+1) _ _ hr2 g1 ?_ om;generalize a.item L k L[k]=q at *;obtain⟨a',o⟩:=q;cases o with
  | none=>exact hd.mono om
  | some f=>exact zrF hd (g2 f rfl)
theorem zxj:DpG dp0 0:=⟨⟨by simp[dp0],by simp[dp0],by simp[dp0],by simp[dp0],by simp[dp0],by simp[dp0],by simp[dp0]⟩,by simp[dp0]⟩
theorem zuw(L:List It):AsOk L (as0 sq0):=⟨⟨by decide,by decide,by decide,by decide,by decide,by decide,rfl,rfl⟩,.inl rfl,by decide⟩
theorem zu4(L:List It)(fl:Bool)(hL:∀ x∈L,SqOk x.s)(hn:L.length<=800000)(H:za):CallOk prog 9 [.slice (itL L) L.length fl] H (.slice ((zd7 L).flatMap entc) (zd7 L).length false) H:=by
 have fo:=λK=>zqE L fl K;refine .bodyM (F0:=[(0,.slice (itL L) L.length fl)]) func9 rfl ntmps9 results9 rfl kr rfl ?_;(repeat refine PWM.seq ?_);refine PWM.rg rfl rfl λK hK=> ?_;refine sqz ?_;refine hK _ _ ?_;clear hK K;(repeat refine PWM.seq ?_);refine PWM.rg rfl rfl λK hK=> ?_;refine sqz ?_;refine hK _ _ ?_;clear hK K;refine PWM.view (Vs.ghostH (id:=H.length) (j:=0) 55 147 (hp0 _ _ _) rfl) ?_;refine PWM.at [0,3] (?_:PWM _ _ _ _ [(0,.slice (itL L) L.length fl),(3,.ptr H.length 0 0)] (H++[dpB (H.length+1) dp0,enB []]) _) rfl (by simp[dpB,enB,dp0]);(repeat refine PWM.seq ?_);refine PWM.rg rfl rfl λK hK=> ?_;refine sqz ?_;refine VCx.call (fo _) rfl ?_;simp(maxSteps:=9^9) (disch:=omega) only[go_sem];refine hK _ _ ?_;clear hK K;refine PWM.at [3,7] (?_:PWM _ _ _ _ [(3,.ptr H.length 0 0),(7,.func 35 [] [.ptr (H.length+2) 0 0])] (H++[dpB (H.length+1) dp0,enB [],⟨22,0,[.slice (itL L) L.length fl]⟩]) _) rfl sp;(repeat refine PWM.seq ?_);refine PWM.block ?_;refine PWM.range rfl λfn us b hus=> ?_;generalize hob:Obj.loop (zgt fn us _ _ _ b)=ob;have e1:H++[dpB (H.length+1) dp0,enB [],⟨22,0,[.slice (itL L) L.length fl]⟩]++[⟨0,0,[.lp b (.deferred (some []))]⟩,⟨0,0,[.lp (b+1) ob]⟩]=kH H L fl b ob dp0:=by simp[kH,kx,dp0]
 have e2:(H++[dpB (H.length+1) dp0,enB [],⟨22,0,[.slice (itL L) L.length fl]⟩]).length=H.length+3:=by simp
 rw[e2];unfold lpB;rw[hob,e1];have hfin:=λo d=>zti H L fl b ob o d [];simp only[gQ]at hfin;have hg:=λd=>zep H L fl b ob d [];simp only[gQ]at hg;refine⟨.tup [],kH H L fl b ob (dpN L (as0 sq0) dp0 0 L),zvM L fl hL hn H b ob _ (.yl λj x hx=> ?_) dp0 ⟨⟨by simp[dp0],by simp[dp0],by simp[dp0],by simp[dp0],by simp[dp0],by simp[dp0],by simp[dp0]⟩,by simp[dp0]⟩ λd f X hd hf=> ?_,hg _ 3 om,hg _ 4 om,λo=> ?_⟩
 .have hx:=uE hx;obtain⟨t,_,rfl⟩:=vW.1 hx;have:Scoped (H.length+5) (slot [(3,.ptr H.length 0 0),(7,.func 35 [] [.ptr (H.length+2) 0 0])] t):=by
   simp only[slot];split
   .exact .ptr om
   .split
    .exact .func (λj x hx=>by simp at hx) (λj x hx=>by
      have hx:=uE hx;rw[uX]at hx;rw[hx];exact .ptr om)
    .exact .undef
  exact this
 .have hf1:=hf.1.toL;have f0:=zcp f hf1;have f1:=zcF f;have f2:=zyL f hf1;have f3:=zyM f hf1;have f4:qA 145 (zD f)=zD f:=gH om;obtain⟨Y,hY⟩:∃ Y:Obj->Dp->za,∀ ob d,kH H L fl b ob d++X=Y ob d:=⟨_,λ_ _=>rfl⟩;have yl:∀ ob d,(Y ob d).length=H.length+5+X.length:=λob d=>by rw[<-hY,gP,zdI]
  have yd:∀ ob d,DpH (Y ob d) H.length (H.length+1) d:=λob d=>by rw[<-hY];exact zw8 H L fl b ob d X
  have yt:∀ ob d d',tw (Y ob d) H.length (H.length+1) (dpB (H.length+1) d') (enB d'.en)=Y ob d':=λob d d'=>by rw[<-hY,<-hY];exact zth H L fl b ob d d' X
  have hid:∀ ob d,(Y ob d)[H.length+4]? =some ⟨0,0,[.lp (b+1) ob]⟩:=λob d=>by rw[<-hY];exact kH_l H L fl b ob d X
  have hset:∀ ob ob' d,(Y ob d).set (H.length+4) ⟨0,0,[.lp (b+1) ob']⟩=Y ob' d:=λob ob' d=>by rw[<-hY,<-hY];exact zti H L fl b ob ob' d X
  have ysc:∀ ob d d',HSc (Y ob d)->HSc (Y ob d'):=λob d d' h=>by rw[<-hY]at h |-;exact ztj h
  have ys0:∀ ob d d' K,d'.en=d.en->(Y ob d++K).set H.length (dpB (H.length+1) d')=Y ob d'++K:=λob d d' K he=>by have h1:=yt ob d d';unfold tw at h1;rw[he,zdx (by rw[gR om];exact(yd ob d).gj)]at h1;rw[uL _ _ (by rw[yl];omega),h1]
  rw[hY,hY];clear hY;subst hob;refine YldOk.introN (G:=[(3,.ptr H.length 0 0)]) hus rfl rfl rfl rfl (by show 8<26;omega) (λt=> ?_) (hid _ _) ?_
  .by_cases ht:t=3
   .subst ht;exact .inr ⟨by show 3<26;omega,rfl⟩
   .refine .inl ?_;simp only[slot];split
    .rename_i h;exact absurd (wC h).symm ht
    .rfl
  refine PWr.rg rfl rfl (λ_ _ h=>h) λK hK=> ?_;refine sqx (nq2 f0 f1) ?_;refine hK _ _ ?_;clear hK K;refine⟨by rw[gK (by rw[yl];omega)];exact hid _ _,?_⟩;rw[uL _ _ (by rw[yl];omega),hset];generalize hbs:Obj.loop { zgt fn us _ _ _ b with state:=.busy }=bs at *;generalize hrd:Obj.loop (zgt fn us _ _ _ b)=rd at *;refine PWr.block ?_;have yF:∀ d',(Y bs d'++[⟨81,0,zD f⟩])[H.length+5+X.length]? =some ⟨81,0,zD f⟩:=λd'=>by rw[<-yl bs d'];simp
  have yD:∀ d' K,DpH (Y bs d'++K) H.length (H.length+1) d':=λd' K=>⟨by rw[gK (by rw[yl];omega)];exact(yd bs d').gi,by rw[gK (by rw[yl];omega)];exact(yd bs d').gj,om⟩;have yT:∀ d' d'' K,tw (Y bs d'++K) H.length (H.length+1) (dpB (H.length+1) d'') (enB d''.en)=Y bs d''++K:=λd' d'' K=>by rw[zhR _ _ _ _ _ _ (by rw[yl];omega) (by rw[yl];omega),yt]
  have yG:∀ d' K,(Y bs d'++K)[H.length]? =some ⟨76,0,[.msl (H.length+1) (d'.en.length * 147) 0 d'.en.length 147 true,O J d'.old,O J d'.new,.bool d'.wt,O J d'.lk,O J d'.sh]⟩:=λd' K=>(yD d' K).gi;have ySs:∀ d' K B,((Y bs d'++K).set H.length B)[H.length]? =some B:=λd' K B=>by rw[vN (by rw[gP,yl];omega)]
  refine PWr.at [3,4] (?_:PWr _ _ _ _ [(3,.ptr H.length 0 0),(4,.ptr (H.length+5+X.length) 0 0)] _ _) (by rw[<-yl rd d];rfl) rfl;refine PWr.seq_to [3,4] [(3,.ptr H.length 0 0),(4,.ptr (H.length+5+X.length) 0 0)] (Y bs (d.res f.rs)++[⟨81,0,zD f⟩]) ?_ ?_
  ·(repeat refine PWr.seq ?_);refine PWr.rg rfl rfl (λ_ _ h=>h) λK hK=> ?_;refine sqx (nq2 yF (nq2 f0 f2)) ?_;refine hK _ _ ?_;clear hK K;refine PWr.cond (t:=f.rs) rfl (λh=> ?_) (λh=> ?_)
   .have fo:=ziH d H.length (H.length+1) _ (yD d [⟨81,0,zD f⟩]) (hd.mono om);rw[yT]at fo;(repeat refine PWr.seq ?_);refine PWr.rg rfl rfl (λ_ _ h=>h) λK hK=> ?_;refine sqz ?_;refine VCx.call (fo) rfl ?_;simp(maxSteps:=9^9) (disch:=omega) only[go_sem];refine hK _ _ ?_;clear hK K;(repeat refine PWr.seq ?_);refine PWr.rg rfl rfl (λ_ _ h=>h) λK hK=> ?_;simp(maxSteps:=9^9) (disch:=omega) only[go_sem,yG,ySs,vL];refine hK _ _ ?_;clear hK K;refine⟨rfl,?_⟩;rw[h];exact ys0 bs d.flush { d.flush with old:= -1,new:= -1,lk:=0 } _ rfl
   .refine PWr.skip ⟨rfl,?_⟩;rw[h];rfl
  have g1:=zwU hd f.rs;have hstep:d.step f=((d.res f.rs).lnk f.lk).frame f:=rfl;have hsc:=ysc rd d (d.step f);rw[hstep]at hsc |-;generalize d.res f.rs=d1 at *;refine PWr.seq_to [3,4] [(3,.ptr H.length 0 0),(4,.ptr (H.length+5+X.length) 0 0)] (Y bs (d1.lnk f.lk)++[⟨81,0,zD f⟩]) ?_ ?_
  ·(repeat refine PWr.seq ?_);refine PWr.rg rfl rfl (λ_ _ h=>h) λK hK=> ?_;refine sqx (nq2 yF (nq2 f0 f3)) ?_;refine hK _ _ ?_;clear hK K;refine PWr.cond (t:=f.lk != -1) rfl (λh=> ?_) (λh=> ?_)
   ·(repeat refine PWr.seq ?_);refine PWr.rg rfl rfl (λ_ _ h=>h) λK hK=> ?_;refine sqx (nq2 yF (nq2 yG (nq2 f0 f3))) ?_;refine hK _ _ ?_;clear hK K;refine⟨rfl,?_⟩;have hne:f.lk≠-1:=by simpa using h
    rw[show d1.lnk f.lk={ d1 with lk:=f.lk } by unfold Dp.lnk;rw[gD hne]];exact ys0 bs d1 { d1 with lk:=f.lk } _ rfl
   .refine PWr.skip ⟨rfl,?_⟩;have hne:¬ f.lk≠-1:=by simpa using h
    rw[show d1.lnk f.lk=d1 by unfold Dp.lnk;rw[gC hne]]
  have g2:=zw7 g1 f.lk hf.2;generalize d1.lnk f.lk=d2 at *;have fo:=zv9 d2 f H.length (H.length+1) _ (yD d2 [⟨81,0,zD f⟩]) (g2.mono om) hf1;rw[yT]at fo;(repeat refine PWr.seq ?_);refine PWr.rg rfl rfl (λ_ _ h=>h) λK hK=> ?_;refine sqx (nq2 yF (nq2 f0 f4)) ?_;refine VCx.call (fo) rfl ?_;simp(maxSteps:=9^9) (disch:=omega) only[go_sem];refine hK _ _ ?_;clear hK K;refine⟨by rw[gK (by rw[yl];omega),hbs];exact hid _ _,?_⟩;rw[hrd,uL _ _ (by rw[yl];omega),hset];exact .cut rfl (by rw[yl,yl]) hsc (.id (.bool _))
 .rw[hfin];have hstru:zd7 L=(dpN L (as0 sq0) dp0 0 L).flush.en:=rfl;have hG:=zt1 L hL L 0 (as0 sq0) dp0 rfl (zuw L) zxj (vU _);have hfl:=(zf0 hG).1;have hd0:=zw8 H L fl b o (dpN L (as0 sq0) dp0 0 L) [];have ht:=zth H L fl b o (dpN L (as0 sq0) dp0 0 L) (dpN L (as0 sq0) dp0 0 L).flush [];simp only[gQ]at hd0 ht;have fo:=ziH _ H.length (H.length+1) _ hd0 (hG.mono om);rw[ht]at fo;have hgd:=λd=>zep H L fl b o d [] 0 om;have hge:=λd=>zep H L fl b o d [] 1 om;have hgq:=λd=>zep H L fl b o d [] 3 om;simp only[gQ,vQ,rG,wY,kx]at hgd hge hgq;unfold dpB at hgd;refine PWM.at [3] (?_:PWM _ _ _ _ [(3,.ptr H.length 0 0)] _ _) rfl rfl;(repeat refine PWM.seq ?_);refine PWM.rg rfl rfl λK hK=> ?_;refine sqz ?_;refine VCx.call (fo) rfl ?_;simp(maxSteps:=9^9) (disch:=omega) only[go_sem];refine hK _ _ ?_;clear hK K;rw[hstru];generalize (dpN L (as0 sq0) dp0 0 L).flush=d at *;(repeat refine PWM.seq ?_);refine PWM.rg rfl rfl λK hK=> ?_;refine sqx hgd ?_;refine hK _ _ ?_;clear hK K;refine PWM.ret ⟨b,H.length+3,.msl (H.length+1) (d.en.length * 147) 0 d.en.length 147 true,rfl,hgq d,rfl,?_⟩;have hcut:(kH H L fl b o d).set (H.length+3) ⟨0,0,[.lp b (.deferred none)]⟩=H++(dpB (H.length+1) d::enB d.en::[⟨22,0,[.slice (itL L) L.length fl]⟩,⟨0,0,[.lp b (.deferred none)]⟩,⟨0,0,[.lp (b+1) o]⟩]):=by unfold kH;rw[zea];rfl
  rw[hcut];refine .base (Fz.mslC (e:=55) (xs:=d.en.flatMap entc) om ?_ ?_ (FzC.refl (zdO _ _)))
  .rw[gN om,uW];rfl
  .rw[ziM hfl.ok.sq]
theorem zmq(a b:Pi)(H:za):CallOk prog 56 [.agg (pic a),.agg (pic b)] H (.bool (za4 a b)) H:=by
 obtain⟨ty,st,od,tf,rp,al⟩:=a;obtain⟨ty',st',od',tf',rp',al'⟩:=b;refine .body (F0:=[(0,.agg (pic ⟨ty,st,od,tf,rp,al⟩)),(1,.agg (pic ⟨ty',st',od',tf',rp',al'⟩))]) func56 rfl ntmps56 results56 rfl kr rfl ?_;(repeat'(first|refine .seq ?_|refine .skip ?_|refine .block ?_|((first|refine .rg rfl λK hK=> ?_|refine .draw mix kr λK hK=> ?_);simp(maxSteps:=9^9) (disch:=omega) only[go_sem,pic])|((first|refine zg ?_ ?_|refine zr ?_ ?_|refine uI ?_ ?_)<;>intro h<;>(try simp only[nqb]at h)<;>simp(maxSteps:=9^9) (disch:=omega) only[go_sem,pic,h])|(refine hK _ _ ?_)|(refine .cond (t:=_) rfl (λh=> ?_) (λh=> ?_)<;>(try(cases h;done))<;>(try simp only[nqb]at h))));all_goals((refine .ret ⟨_,rfl,?_⟩;first|refine .inl ⟨?_,rfl⟩|refine .base (.id' ?_ (.bool _))|refine .base (.id' ?_ (.int _ _)));simp_all[za4,slot,Nat.beq])
 grind
def enR(e:En):List PV:=[O J e.f,O J e.l,O J e.ty,O J e.pa,O J e.fu,O J e.sh]
def wtl(j:Nat)(w:Wk):List PV:=[O J w.old,O J w.new,.bool w.wt,O J w.op,O J w.no,O J w.sh,.msl j (w.out.length * 6) 0 w.out.length 6 true,.bool w.sk]
def wkc(j:Nat)(L:List It)(fl:Bool)(w:Wk):List PV:=.slice (itL L) L.length fl:: .bool w.hd::(sqc w.sq++wtl j w)
def wkB(j:Nat)(L:List It)(fl:Bool)(w:Wk):Blk:=⟨93,0,wkc j L fl w⟩
def woB(o:List En):Blk:=⟨65,o.length * 6,o.flatMap enR⟩
section
variable {j:Nat} {L:List It} {fl:Bool}
theorem zov(w:Wk)(h:SqL w.sq):(wkc j L fl w).length=145:=by simp only[wkc,wtl,gZ,gP,zP _ h,uS]
theorem zd2(w:Wk)(h:SqL w.sq)(n:Nat):(wkc j L fl w)[137+n]? =(wtl j w)[n]? :=by unfold wkc;rw[show 137+n=(135+n)+1+1 from om,wY,wY,gN (by rw[zP _ h];omega),zP _ h,uW]
theorem zcR(w:Wk)(h:SqL w.sq)(n:Nat)(v:PV):(wkc j L fl w).set (137+n) v= .slice (itL L) L.length fl:: .bool w.hd::(sqc w.sq++(wtl j w).set n v):=by unfold wkc;rw[show 137+n=(135+n)+1+1 from om,rE,rE,uC _ _ (by rw[zP _ h];omega),zP _ h,uW]
theorem zxv(w:Wk)(h:SqL w.sq):qA 135 (qB 2 (wkc j L fl w))=sqc w.sq:=wZ (zP _ h)
structure WkG(j:Nat)(L:List It)(fl:Bool)(w:Wk):Prop where
 ln:(wkc j L fl w).length=145
 lL:(wkc j L fl w)[0]? =some (.slice (itL L) L.length fl)
 hd:(wkc j L fl w)[1]? =some (.bool w.hd)
 sq:qA 135 (qB 2 (wkc j L fl w))=sqc w.sq
 old:(wkc j L fl w)[137]? =some (O J w.old)
 new:(wkc j L fl w)[138]? =some (O J w.new)
 wt:(wkc j L fl w)[139]? =some (.bool w.wt)
 op:(wkc j L fl w)[140]? =some (O J w.op)
 no:(wkc j L fl w)[141]? =some (O J w.no)
 sh:(wkc j L fl w)[142]? =some (O J w.sh)
 out:(wkc j L fl w)[143]? =some (.msl j (w.out.length * 6) 0 w.out.length 6 true)
 sk:(wkc j L fl w)[144]? =some (.bool w.sk)
theorem wkg(w:Wk)(h:SqL w.sq):WkG j L fl w:=⟨zov w h,rfl,rfl,zxv w h,zd2 w h 0,zd2 w h 1,zd2 w h 2,zd2 w h 3,zd2 w h 4,zd2 w h 5,zd2 w h 6,zd2 w h 7⟩
structure WkS(j:Nat)(L:List It)(fl:Bool)(w:Wk):Prop where
 hd:∀ v,(wkc j L fl w).set 1 (.bool v)=wkc j L fl { w with hd:=v }
 old:∀ v,(wkc j L fl w).set 137 (O J v)=wkc j L fl { w with old:=v }
 new:∀ v,(wkc j L fl w).set 138 (O J v)=wkc j L fl { w with new:=v }
 wt:∀ v,(wkc j L fl w).set 139 (.bool v)=wkc j L fl { w with wt:=v }
 op:∀ v,(wkc j L fl w).set 140 (O J v)=wkc j L fl { w with op:=v }
 no:∀ v,(wkc j L fl w).set 141 (O J v)=wkc j L fl { w with no:=v }
 sh:∀ v,(wkc j L fl w).set 142 (O J v)=wkc j L fl { w with sh:=v }
 sk:∀ v,(wkc j L fl w).set 144 (.bool v)=wkc j L fl { w with sk:=v }
theorem wks(w:Wk)(h:SqL w.sq):WkS j L fl w:=⟨λ_=>rfl,λ_=>zcR w h 0 _,λ_=>zcR w h 1 _,λ_=>zcR w h 2 _,λ_=>zcR w h 3 _,λ_=>zcR w h 4 _,λ_=>zcR w h 5 _,λ_=>zcR w h 7 _⟩
end
theorem zdN(o:List En):(o.flatMap enR).length=o.length * 6:=zac enR 6 o λ_ _=>rfl
theorem zpz(o:List En)(n:Nat)(hn:n<o.length)(v:Int):(o.flatMap enR).set (n * 6+5) (O J v)=(o.modify n (zfz v)).flatMap enR:=ziI enR 6 5 (O J v) om (zfz v) o n hn (λ_ _=>rfl) λ_ _=>rfl
structure WkH(H:za)(i j:Nat)(L:List It)(fl:Bool)(w:Wk):Prop where
 gi:H[i]? =some (wkB j L fl w)
 gj:H[j]? =some (woB w.out)
 ne:i≠j
structure WkOk(w:Wk)(m:Nat):Prop where
 sq:SqOk w.sq
 n:w.out.length<=m
 sh:0<=w.sh/\w.sh+(if w.wt then 1 else 0)<=w.out.length
 no:0<=w.no/\w.no<=2
 new: -1<=w.new/\w.new<w.out.length
 wt:w.wt=true->0<=w.new
def wR(H:za)(i j:Nat)(L:List It)(fl:Bool)(w:Wk):za:=tw H i j (wkB j L fl w) (woB w.out)
theorem wR_i(H:za)(i j:Nat)(L:List It)(fl:Bool)(w:Wk)(hil:i<H.length)(hne:i≠j):(wR H i j L fl w)[i]? =some ⟨93,0,wkc j L fl w⟩:=zrd _ _ _ _ _ ⟨hil,hne⟩
theorem zj1(H:za)(i j:Nat)(L:List It)(fl:Bool)(w w':Wk)(hne:i≠j)(he:w'.out=w.out):(wR H i j L fl w).set i ⟨93,0,wkc j L fl w'⟩=wR H i j L fl w':=by unfold wR tw;rw[dQ _ _ (by omega:j≠i),vL,he];rfl
theorem zq6(H:za)(i j:Nat)(L:List It)(fl:Bool)(w w':Wk)(hne:i≠j):wR (wR H i j L fl w) i j L fl w'=wR H i j L fl w':=zra _ _ _ _ _ _ _ hne
theorem zeB{H:za}{i j:Nat}{L:List It}{fl:Bool}{w:Wk}(h:WkH H i j L fl w):wR H i j L fl w=H:=by unfold wR tw;rw[zdx h.gi,zdx h.gj]
theorem zxx(H:za)(i j:Nat)(L:List It)(fl:Bool)(w:Wk)(hil:i<H.length)(hjl:j<H.length)(hne:i≠j):WkH (wR H i j L fl w) i j L fl w:=⟨zrd _ _ _ _ _ ⟨hil,hne⟩,zxH _ _ _ _ _ hjl,hne⟩
theorem zcY(H:za)(i j:Nat)(L:List It)(fl:Bool)(w:Wk):(wR H i j L fl w).length=H.length:=zrc _ _ _ _ _
structure WrT(H:za)(i j:Nat)(L:List It)(fl:Bool):Prop where
 gi:∀ w,(wR H i j L fl w)[i]? =some ⟨93,0,wkc j L fl w⟩
 gj:∀ w,(wR H i j L fl w)[j]? =some ⟨65,w.out.length * 6,w.out.flatMap enR⟩
 hd:∀ w v,(wR H i j L fl w).set i ⟨93,0,wkc j L fl { w with hd:=v }⟩=wR H i j L fl { w with hd:=v }
 old:∀ w v,(wR H i j L fl w).set i ⟨93,0,wkc j L fl { w with old:=v }⟩=wR H i j L fl { w with old:=v }
 new:∀ w v,(wR H i j L fl w).set i ⟨93,0,wkc j L fl { w with new:=v }⟩=wR H i j L fl { w with new:=v }
 wt:∀ w v,(wR H i j L fl w).set i ⟨93,0,wkc j L fl { w with wt:=v }⟩=wR H i j L fl { w with wt:=v }
 op:∀ w v,(wR H i j L fl w).set i ⟨93,0,wkc j L fl { w with op:=v }⟩=wR H i j L fl { w with op:=v }
 no:∀ w v,(wR H i j L fl w).set i ⟨93,0,wkc j L fl { w with no:=v }⟩=wR H i j L fl { w with no:=v }
 sh:∀ w v,(wR H i j L fl w).set i ⟨93,0,wkc j L fl { w with sh:=v }⟩=wR H i j L fl { w with sh:=v }
 sk:∀ w v,(wR H i j L fl w).set i ⟨93,0,wkc j L fl { w with sk:=v }⟩=wR H i j L fl { w with sk:=v }
theorem wrt(H:za)(i j:Nat)(L:List It)(fl:Bool)(hil:i<H.length)(hjl:j<H.length)(hne:i≠j):WrT H i j L fl:=
 ⟨λw=>wR_i _ _ _ _ _ _ hil hne,λw=>zxH _ _ _ _ _ hjl,λw v=>zj1 _ _ _ _ _ w _ hne rfl,λw v=>zj1 _ _ _ _ _ w _ hne rfl,λw v=>zj1 _ _ _ _ _ w _ hne rfl,λw v=>zj1 _ _ _ _ _ w _ hne rfl,
  λw v=>zj1 _ _ _ _ _ w _ hne rfl,λw v=>zj1 _ _ _ _ _ w _ hne rfl,λw v=>zj1 _ _ _ _ _ w _ hne rfl,λw v=>zj1 _ _ _ _ _ w _ hne rfl⟩
theorem zhL(L:List It)(fl:Bool)(w:Wk)(i j:Nat)(H:za)(h:WkH H i j L fl w)(hw:SqL w.sq):CallOk prog 53 [.ptr i 0 0] H (.tup []) (wR H i j L fl w.drop):=by
 have hil:i<H.length:=(gA.1 h.gi).1;have hjl:j<H.length:=(gA.1 h.gj).1;have t:=wrt H i j L fl hil hjl h.ne;have g:=wkg (j:=j) (L:=L) (fl:=fl) w hw;have g2:=wkg (j:=j) (L:=L) (fl:=fl) { w with sk:=true } hw;have s:=wks (j:=j) (L:=L) (fl:=fl) w hw;have s2:=wks (j:=j) (L:=L) (fl:=fl) { w with sk:=true } hw;refine .go func53 ntmps53 results53 ?_;refine .eq rfl (zeB h).symm ?_;refine .g (nq2 t.gi (nq2 g.ln g.op)) ?_;refine .c (λh=> ?_) (λh=> ?_)
 .have h0:0<=w.op:=vF h;have e:w.drop={ w with sk:=true,op:= -1 }:=by unfold Wk.drop;simp[h0]
  rw[e];refine .g (nq2 t.gi (nq2 t.sk (nq2 g.ln s.sk))) ?_;refine .g (nq2 t.gi (nq2 t.op (nq2 g2.ln s2.op))) ?_;exact⟨_,rfl,Fin.now⟩
 .have h0:¬ 0<=w.op:=vH h;have e:w.drop={ w with op:= -1 }:=by unfold Wk.drop;simp[h0]
  rw[e];refine .skip (.g (nq2 t.gi (nq2 t.op (nq2 g.ln s.op))) ?_);exact⟨_,rfl,Fin.now⟩
theorem zjg(L:List It)(fl:Bool)(w:Wk)(i j:Nat)(H:za)(h:WkH H i j L fl w)(hw:WkOk w 1000000):CallOk prog 54 [.ptr i 0 0] H (.tup []) (wR H i j L fl w.reset):=by
 have hil:i<H.length:=(gA.1 h.gi).1;have hjl:j<H.length:=(gA.1 h.gj).1;have t:=wrt H i j L fl hil hjl h.ne;have hsq:=hw.sq.toL;have g:=wkg (j:=j) (L:=L) (fl:=fl) w hsq;have hsh:=hw.sh;have hnn:=hw.n;have hnw:=hw.new;have hwt:=hw.wt;have hself:=zeB h;have hne:=h.ne;unfold Wk.reset;refine .go func54 ntmps54 results54 ?_;refine .eq rfl hself.symm ?_;refine .g (nq2 t.gi (nq2 g.ln g.wt)) ?_;unfold Wk.disp;refine .c (λh=> ?_) (λh=> ?_)
 .obtain⟨n,hn⟩:∃ n:Nat,w.new=(n:Int):=⟨w.new.toNat,by have:=hwt h;omega⟩;rw[gD h]at hsh |-;have hln:=zdN w.out;have hset:=zpz w.out n om w.sh;have gn:=g.new;rw[hn]at gn;refine .y [j] [(9,[0]),(18,[0]),(19,[0])] [] [] λK hK=> ?_;refine sqx (nq2 t.gi (nq2 t.gj (nq2 g.ln (nq2 g.out (nq2 gn (nq2 g.sh (nq2 hln hset))))))) ?_;refine hK _ _ ?_;have hb:(wR H i j L fl w).set j ⟨65,w.out.length * 6,(w.out.modify n (zfz w.sh)).flatMap enR⟩=wR H i j L fl { w with out:=w.out.modify n (zfz w.sh) }:=by unfold wR tw;rw[vL];unfold wkB woB wkc wtl;simp_all
  refine .a (?_:PW _ _ _ [(0,.ptr i 0 0)] (wR H i j L fl { w with out:=w.out.modify n (zfz w.sh) }) _) rfl hb;rw[show w.new.toNat=n from om];generalize w.out.modify n (zfz w.sh)=o at *;have g:=wkg (j:=j) (L:=L) (fl:=fl) { w with out:=o } hsq;have s:=wks (j:=j) (L:=L) (fl:=fl) { w with out:=o } hsq;have g1:=wkg (j:=j) (L:=L) (fl:=fl) { w with out:=o,sh:=w.sh+1 } hsq;have s1:=wks (j:=j) (L:=L) (fl:=fl) { w with out:=o,sh:=w.sh+1 } hsq;have g2:=wkg (j:=j) (L:=L) (fl:=fl) { w with out:=o,sh:=w.sh+1,old:= -1 } hsq;have s2:=wks (j:=j) (L:=L) (fl:=fl) { w with out:=o,sh:=w.sh+1,old:= -1 } hsq;have g3:=wkg (j:=j) (L:=L) (fl:=fl) { w with out:=o,sh:=w.sh+1,old:= -1,new:= -1 } hsq;have s3:=wks (j:=j) (L:=L) (fl:=fl) { w with out:=o,sh:=w.sh+1,old:= -1,new:= -1 } hsq;have g4:=wkg (j:=j) (L:=L) (fl:=fl) { w with out:=o,sh:=w.sh+1,old:= -1,new:= -1,wt:=false } hsq;have s4:=wks (j:=j) (L:=L) (fl:=fl) { w with out:=o,sh:=w.sh+1,old:= -1,new:= -1,wt:=false } hsq;refine .g (nq2 t.gi (nq2 t.sh (nq2 g.ln (nq2 g.sh s.sh)))) ?_;refine .g (nq2 t.gi (nq2 t.old (nq2 t.new (nq2 t.wt (nq2 t.no (nq2 g1.ln (nq2 s1.old (nq2 g2.ln (nq2 s2.new (nq2 g3.ln (nq2 s3.wt (nq2 g4.ln s4.no)))))))))))) ?_;exact⟨_,rfl,Fin.now⟩
 .rw[gC (by rw[h];simp)];have s1:=wks (j:=j) (L:=L) (fl:=fl) w hsq;have g2:=wkg (j:=j) (L:=L) (fl:=fl) { w with old:= -1 } hsq;have s2:=wks (j:=j) (L:=L) (fl:=fl) { w with old:= -1 } hsq;have g3:=wkg (j:=j) (L:=L) (fl:=fl) { w with old:= -1,new:= -1 } hsq;have s3:=wks (j:=j) (L:=L) (fl:=fl) { w with old:= -1,new:= -1 } hsq;have g4:=wkg (j:=j) (L:=L) (fl:=fl) { w with old:= -1,new:= -1,wt:=false } hsq;have s4:=wks (j:=j) (L:=L) (fl:=fl) { w with old:= -1,new:= -1,wt:=false } hsq;refine .skip (.g (nq2 t.gi (nq2 t.old (nq2 t.new (nq2 t.wt (nq2 t.no (nq2 g.ln (nq2 s1.old (nq2 g2.ln (nq2 s2.new (nq2 g3.ln (nq2 s3.wt (nq2 g4.ln s4.no)))))))))))) ?_);exact⟨_,rfl,Fin.now⟩
theorem zxw(n j:Nat)(L:List It)(fl:Bool)(w:Wk)(h:j<n):∀ x∈wkc j L fl w,Scoped n x:=λx hx=>by
 simp only[wkc,wtl,gM,uF,gL,uA]at hx;rcases hx with rfl|rfl|hx|rfl|rfl|rfl|rfl|rfl|rfl|rfl|rfl
 .exact zk (zdJ _ _)
 .exact .bool _
 .exact zaf _ _ x hx
 .exact .int _ _
 .exact .int _ _
 .exact .bool _
 .exact .int _ _
 .exact .int _ _
 .exact .int _ _
 .exact .msl h
 .exact .bool _
theorem zgf(n:Nat)(o:List En):∀ x∈(woB o).cells,Scoped n x:=λx hx=>by obtain⟨e,_,hx⟩:=wM.1 hx;simp only[enR,gM,gL,uA]at hx;rcases hx with rfl|rfl|rfl|rfl|rfl|rfl<;>exact .int _ _
theorem zcZ(H K:za)(i j:Nat)(L:List It)(fl:Bool)(w:Wk)(hi:i<H.length)(hj:j<H.length):wR (H++K) i j L fl w=wR H i j L fl w++K:=zhR _ _ _ _ _ _ hi hj
theorem zna(H K:za)(i j:Nat)(L:List It)(fl:Bool)(w:Wk)(hi:i<H.length)(hj:j<H.length):Fin H (.tup []) (wR H i j L fl w) (.tup []) (wR (H++K) i j L fl w):=by rw[zcZ _ _ _ _ _ _ _ hi hj];exact .cut rfl (by rw[zcY]) (zrb (zxw _ _ _ _ _ hj) (zgf _ _)) (.id (.tup sp))
theorem zuL(H:za)(i j:Nat)(L:List It)(fl:Bool)(w:Wk)(P E:Blk)(hi:i<H.length)(hj:j<H.length):
  (wR (H++[P,E]) i j L fl w)[H.length]? =some P/\(wR (H++[P,E]) i j L fl w)[H.length+1]? =some E/\∀ B,(wR (H++[P,E]) i j L fl w).set (H.length+1) B=wR (H++[P,B]) i j L fl w:=by
 have hl:=zcY H i j L fl w;refine⟨?_,?_,λB=> ?_⟩
 .rw[zcZ _ _ _ _ _ _ _ hi hj,gN om,hl,vK];rfl
 .rw[zcZ _ _ _ _ _ _ _ hi hj,gN om,hl,uW];rfl
 .rw[zcZ _ _ _ _ _ _ _ hi hj,zcZ _ _ _ _ _ _ _ hi hj,uC _ _ om,hl,uW];rfl
theorem zzP(o:List En)(e:En):(o++[e]).flatMap enR=o.flatMap enR++enR e:=by simp_all
theorem zox(H:za)(i j:Nat)(L:List It)(fl:Bool)(w:Wk)(e:En)(hne:i≠j)(hsq:SqL w.sq):
  ((wR H i j L fl w).set j ⟨65,(w.out.flatMap enR++enR e).length,w.out.flatMap enR++enR e⟩).set i ⟨93,0,(wkc j L fl w).set 143 (.msl j (w.out.flatMap enR++enR e).length 0 (w.out.length+1) 6 true)⟩=wR H i j L fl { w with out:=w.out++[e] }:=by
 have e1:(w.out.flatMap enR++enR e).length=(w.out.length+1) * 6:=by rw[gP,zdN];show _+6=_;omega
 have e2:(wkc j L fl w).set 143 (.msl j ((w.out.length+1) * 6) 0 (w.out.length+1) 6 true)=wkc j L fl { w with out:=w.out++[e] }:=by rw[zcR w hsq 6];unfold wkc wtl;simp_all
 rw[e1,e2];unfold wR tw;rw[vL,dQ _ _ (by omega:j≠i),vL];unfold wkB woB;simp only[zzP,gP,gZ,uS]
theorem zpW(L:List It)(fl:Bool)(hL:∀ x∈L,SqOk x.s)(w:Wk)(k:Nat)(hk:k<L.length)(last:Int)(i j:Nat)(H:za)(h:WkH H i j L fl w)(hw:WkOk w 900000):
  CallOk prog 171 [.ptr i 0 0,O J (k:Int),O J last] H (.tup []) (wR H i j L fl (w.frame (k:Int) last L[k].p.ty)):=by
 have hil:i<H.length:=(gA.1 h.gi).1;have hjl:j<H.length:=(gA.1 h.gj).1;have hne:=h.ne;have t0:=wrt H i j L fl hil hjl h.ne;have hsq:=hw.sq.toL;have g:=wkg (j:=j) (L:=L) (fl:=fl) w hsq;have s:=wks (j:=j) (L:=L) (fl:=fl) w hsq;have hsh:=hw.sh;have hnn:=hw.n;have hnw:=hw.new;have hwt:=hw.wt;have hno:=hw.no;have ln:=zbg L hL;have ip:=zeQ L hL k hk;have hself:=zeB h;generalize hr:w.frame (k:Int) last L[k].p.ty=r;unfold Wk.frame at hr;generalize L[k].p=p at *;have p1:(pic p).length=6:=rfl;have p2:(pic p).all PV.cell=true:=rfl;have p3:qA 6 (pic p)=pic p:=rfl;have p4:(pic p)[0]? =some (O J p.ty):=rfl;refine .go func171 ntmps171 results171 ?_;refine .eq rfl hself.symm ?_;refine .g (nq2 t0.gi (nq2 g.ln (nq2 g.lL (nq2 ln (nq2 ip p2))))) ?_;have hYl:=zcY H i j L fl w;have ta:∀ K,(wR H i j L fl w++K)[i]? =some ⟨93,0,wkc j L fl w⟩:=λK=>by rw[gK om];exact t0.gi w
 refine .dg λK hK=> ?_;simp(maxSteps:=9^9) (disch:=omega) only[go_sem,ta,g.ln,g.new,p1,p4];refine hK _ _ ?_;clear hK K;have t:=λP E=>wrt (H++[P,E]) i j L fl (by simp;omega) (by simp;omega) hne;have hl:=λw P E=>zuL H i j L fl w P E hil hjl;obtain⟨e0,he0⟩:∃ e:En,e=⟨(k:Int),last,p.ty,w.new,-1,0⟩:=⟨_,rfl⟩;have hfin:=λP E w=>zna H [P,E] i j L fl w hil hjl;refine .a (?_:PW _ _ _ [(0,.ptr i 0 0),(6,.ptr H.length 0 0),(7,.ptr (H.length+1) 0 0)] (wR (H++[⟨41,0,pic p⟩,⟨65,0,enR e0⟩]) i j L fl w) _) (by rw[<-hYl];rfl) (by rw[zcZ _ _ _ _ _ _ _ hil hjl,he0];rfl);have a0:=λw E=>(hl w ⟨41,0,pic p⟩ E).1;have a1:=λw E=>(hl w ⟨41,0,pic p⟩ E).2.1;have a2:=λw E=>(hl w ⟨41,0,pic p⟩ E).2.2;have t:=λE=>t ⟨41,0,pic p⟩ E;have hfin:=λE w=>hfin ⟨41,0,pic p⟩ E w;have tgi:=λE w=>(t E).gi w;have tgj:=λE w=>(t E).gj w;have tsk:=λE w v=>(t E).sk w v;have tsh:=λE w v=>(t E).sh w v;have tol:=λE w v=>(t E).old w v;have tne:=λE w v=>(t E).new w v;have twt:=λE w v=>(t E).wt w v;have tno:=λE w v=>(t E).no w v;have hln:=zdN w.out;refine .g (nq2 a0 (nq2 p1 p4)) ?_;refine .b (.e ?_);by_cases h3:p.ty=3
 .rw[gD h3]at hr;refine .c (λh=> ?_) (λh=> ?_);rotate_left
  .simp[h3]at h
  suffices hrest:∀ b,(b=true↔(w.no>0\/w.old<0\/w.new<0))->PW prog _ _ [(0,.ptr i 0 0),(6,.ptr H.length 0 0),(7,.ptr (H.length+1) 0 0),(48,.bool b)] (wR (H++[⟨41,0,pic p⟩,⟨65,0,enR e0⟩]) i j L fl w) _ by
   refine .x λK hK=> ?_;simp(maxSteps:=9^9) (disch:=omega) only[go_sem,tgi,g.ln,g.no,g.old,g.new];(repeat'((first|refine zg ?_ ?_|refine zr ?_ ?_|refine VOg_cond ?_ ?_|refine VOh_cond ?_ ?_|refine zV ?_ ?_|refine uI ?_ ?_)<;>intro h<;>(try simp only[nqb]at h)<;>simp(maxSteps:=9^9) (disch:=omega) only[go_sem,tgi,g.ln,g.no,g.old,g.new,h]));all_goals(refine hK _ _ ?_;clear hK K)
   all_goals(refine .a (hrest _ ?_))
   all_goals grind
  intro b hb;refine .c (λh=> ?_) (λh=> ?_)
  .subst h;rw[gD (hb.1 rfl)]at hr;subst hr;refine .g (nq2 tgi (nq2 g.ln (nq2 s.sk tsk))) ?_;exact .ret ⟨_,rfl,hfin _ _⟩
  .subst h;rw[gC (λh=>by have:=hb.2 h;cases this)]at hr;refine .skip (.y [H.length+1] [(7,[0]),(64,[0]),(66,[0]),(68,[0]),(65,[0]),(67,[0])] [] [] λK hK=> ?_);refine sqx (nq2 tgi (nq2 g.ln (nq2 g.old (nq2 g.new (nq2 g.sh (nq2 a1 (nq2 a2 @enR.eq_1))))))) ?_;refine hK _ _ ?_;clear hK K;obtain⟨e1,he1⟩:∃ e:En,e=⟨(k:Int),last,p.ty,w.old,w.new,w.sh⟩:=⟨_,rfl⟩;refine .a (?_:PW _ _ _ [(0,.ptr i 0 0),(6,.ptr H.length 0 0),(7,.ptr (H.length+1) 0 0)] (wR (H++[⟨41,0,pic p⟩,⟨65,0,enR e1⟩]) i j L fl w) _) rfl (by rw[he1,he0];rfl);refine .g (nq2 tgi (nq2 g.ln (nq2 g.sh (nq2 s.sh tsh)))) ?_;have g1:=wkg (j:=j) (L:=L) (fl:=fl) { w with sh:=w.sh+1 } hsq;have l6:(enR e1).length=6:=rfl;have t6:qA 6 (enR e1)=enR e1:=rfl;have c6:(enR e1).all PV.cell=true:=rfl;have tji:∀ E w B,((wR (H++[⟨41,0,pic p⟩,E]) i j L fl w).set j B)[i]? =some ⟨93,0,wkc j L fl w⟩:=λE w B=>by rw[gR om];exact tgi E w
   have tjj:∀ E w B,((wR (H++[⟨41,0,pic p⟩,E]) i j L fl w).set j B)[j]? =some B:=λE w B=>by rw[vN (by rw[zcY];simp;omega)]
   refine .y [j,i] [(78,[0]),(81,[0]),(0,[1]),(74,[1]),(75,[1]),(76,[1]),(77,[1]),(82,[1]),(83,[1])] [] [] λK hK=> ?_;refine sqx (nq2 tgi (nq2 tgj (nq2 tji (nq2 tjj (nq2 a1 (nq2 g1.ln (nq2 g1.out (nq2 hln (nq2 l6 (nq2 t6 c6)))))))))) ?_;refine hK _ _ ?_;clear hK K;have hq:=zox (H++[⟨41,0,pic p⟩,⟨65,0,enR e1⟩]) i j L fl { w with sh:=w.sh+1 } e1 hne hsq;dsimp only at hq;refine .eq rfl hq ?_;refine .ret ⟨_,rfl,?_⟩;rw[<-he1]at hr;subst hr;exact hfin _ _
 rw[gC h3]at hr;refine .c (λh=> ?_) (λh=> ?_)
 .simp[h3]at h
 refine .e ?_;suffices hrest:¬(p.ty=2/\w.new<0)->PW prog _ _ [(0,.ptr i 0 0),(6,.ptr H.length 0 0),(7,.ptr (H.length+1) 0 0)] (wR (H++[⟨41,0,pic p⟩,⟨65,0,enR e0⟩]) i j L fl w) _ by
  by_cases h2:p.ty=2
  .refine .c (λh=> ?_) (λh=> ?_);rotate_left
   .simp[h2]at h
   refine .g (nq2 tgi (nq2 g.ln g.new)) ?_;refine .c (λh=> ?_) (λh=> ?_)
   .have hc:p.ty=2/\w.new<0:=⟨h2,vF h⟩;rw[gD hc]at hr;subst hr;refine .g (nq2 tgi (nq2 g.ln (nq2 s.sk tsk))) ?_;exact .ret ⟨_,rfl,hfin _ _⟩
   .have hc:¬ w.new<0:=vH h;refine .skip ?_;exact .a (hrest om)
  .refine .c (λh=> ?_) (λh=> ?_)
   .simp[h2]at h
   refine .skip ?_;exact .a (hrest om)
 intro hc;rw[gC hc]at hr;have l6:(enR e0).length=6:=rfl;have t6:qA 6 (enR e0)=enR e0:=rfl;have c6:(enR e0).all PV.cell=true:=rfl;have tji:∀ E w B,((wR (H++[⟨41,0,pic p⟩,E]) i j L fl w).set j B)[i]? =some ⟨93,0,wkc j L fl w⟩:=λE w B=>by rw[gR om];exact tgi E w
 have tjj:∀ E w B,((wR (H++[⟨41,0,pic p⟩,E]) i j L fl w).set j B)[j]? =some B:=λE w B=>by rw[vN (by rw[zcY];simp;omega)]
 refine .y [j,i] [(98,[0]),(101,[0]),(0,[1]),(94,[1]),(95,[1]),(96,[1]),(97,[1]),(102,[1]),(103,[1])] [] [] λK hK=> ?_;refine sqx (nq2 tgi (nq2 tgj (nq2 tji (nq2 tjj (nq2 a1 (nq2 g.ln (nq2 g.out (nq2 hln (nq2 l6 (nq2 t6 c6)))))))))) ?_;refine hK _ _ ?_;clear hK K;have hq:=zox (H++[⟨41,0,pic p⟩,⟨65,0,enR e0⟩]) i j L fl w e0 hne hsq;rw[<-he0]at hr;refine .a (?_:PW _ _ _ [(0,.ptr i 0 0)] (wR (H++[⟨41,0,pic p⟩,⟨65,0,enR e0⟩]) i j L fl { w with out:=w.out++[e0] }) _) rfl hq;generalize (⟨65,0,enR e0⟩:Blk)=EB at *;have hol:(w.out++[e0]).length=w.out.length+1:=by simp
 clear hq;generalize w.out++[e0]=o at *;have g2:=wkg (j:=j) (L:=L) (fl:=fl) { w with out:=o } hsq;refine .g (nq2 tgi (nq2 g2.ln g2.wt)) ?_;suffices hrest:∀ d:Wk,d=Wk.disp { w with out:=o }->PW prog _ _ [(0,.ptr i 0 0)] (wR (H++[⟨41,0,pic p⟩,EB]) i j L fl d) _ by
  by_cases hwt1:w.wt=true
  .obtain⟨n,hn⟩:∃ n:Nat,w.new=(n:Int):=⟨w.new.toNat,by have:=hwt hwt1;omega⟩;have hrest:=hrest _ rfl;unfold Wk.disp at hrest;dsimp only at hrest;rw[gD hwt1,show w.new.toNat=n from om]at hrest;rw[gD hwt1]at hsh;refine .c (λh=> ?_) (λh=> ?_);rotate_left
   .simp_all
   have hln2:=zdN o;have hset:=zpz o n om w.sh;have gn:(wkc j L fl { w with out:=o })[138]? =some (O J (n:Int)):=g2.new.trans (by rw[hn]);refine .y [j] [(111,[0]),(120,[0]),(121,[0])] [] [] λK hK=> ?_;refine sqx (nq2 tgi (nq2 tgj (nq2 g2.ln (nq2 g2.out (nq2 gn (nq2 g2.sh (nq2 hln2 hset))))))) ?_;refine hK _ _ ?_;clear hK K;have hb:(wR (H++[⟨41,0,pic p⟩,EB]) i j L fl { w with out:=o }).set j ⟨65,o.length * 6,(o.modify n (zfz w.sh)).flatMap enR⟩=wR (H++[⟨41,0,pic p⟩,EB]) i j L fl { w with out:=o.modify n (zfz w.sh) }:=by unfold wR tw;rw[vL];unfold wkB woB wkc wtl;simp_all
   refine .a (?_:PW _ _ _ [(0,.ptr i 0 0)] (wR (H++[⟨41,0,pic p⟩,EB]) i j L fl { w with out:=o.modify n (zfz w.sh) }) _) rfl hb;have g3:=wkg (j:=j) (L:=L) (fl:=fl) { w with out:=o.modify n (zfz w.sh) } hsq;have s3:=wks (j:=j) (L:=L) (fl:=fl) { w with out:=o.modify n (zfz w.sh) } hsq;refine .g (nq2 tgi (nq2 g3.ln (nq2 g3.sh (nq2 s3.sh tsh)))) ?_;exact .a hrest
  .have hrest:=hrest _ rfl;unfold Wk.disp at hrest;dsimp only at hrest;rw[gC hwt1]at hrest;refine .c (λh=> ?_) (λh=> ?_)
   .simp_all
   refine .skip ?_;exact .a hrest
 intro d hd;rw[<-hd]at hr;have hdsq:SqL d.sq:=by rw[hd,(zev _).2.2.2.2.2.1];exact hsq
 have hdl:d.out.length=w.out.length+1:=by rw[hd];unfold Wk.disp;grind
 have hdn:d.no=w.no:=by rw[hd,(zev _).2.2.2.1]
 have hdl2:((d.out.length:Nat):Int) - 1=(w.out.length:Int):=om;clear hd;have k1:=wkg (j:=j) (L:=L) (fl:=fl) d hdsq;have m1:=wks (j:=j) (L:=L) (fl:=fl) d hdsq;have k2:=wkg (j:=j) (L:=L) (fl:=fl) { d with old:=d.new } hdsq;have m2:=wks (j:=j) (L:=L) (fl:=fl) { d with old:=d.new } hdsq;have k3:=wkg (j:=j) (L:=L) (fl:=fl) { d with old:=d.new,new:=(w.out.length:Int) } hdsq;have m3:=wks (j:=j) (L:=L) (fl:=fl) { d with old:=d.new,new:=(w.out.length:Int) } hdsq;have k4:=wkg (j:=j) (L:=L) (fl:=fl) { d with old:=d.new,new:=(w.out.length:Int),wt:=true } hdsq;have m4:=wks (j:=j) (L:=L) (fl:=fl) { d with old:=d.new,new:=(w.out.length:Int),wt:=true } hdsq;refine .y [i] [(0,[0]),(129,[0]),(130,[0]),(131,[0]),(132,[0]),(133,[0]),(134,[0]),(136,[0]),(137,[0]),(138,[0]),(142,[0]),(143,[0]),(144,[0]),(145,[0]),(146,[0]),(147,[0])] [] [] λK hK=> ?_;simp(maxSteps:=9^9) (disch:=omega) only[go_sem,tgi,tgj,tol,tne,twt,k1.ln,k1.new,k1.out,m1.old,k2.ln,m2.new,k3.ln,m3.wt,hdl2,zy];refine hK _ _ ?_;clear hK K;refine .g (nq2 tgi (nq2 tno (nq2 k4.ln (nq2 k4.no m4.no)))) ?_;have hm:(if d.no - 1>0 then d.no - 1 else 0)=max 0 (d.no - 1):=om;subst hr;refine⟨_,rfl,?_⟩;rw[hm];exact hfin _ _
end Sc
namespace Sc
open Pm Ty Go.RowKit
theorem WkOk.mono{w:Wk}{m n:Nat}(h:WkOk w m)(hm:m<=n):WkOk w n:=⟨h.sq,by have:=h.n;omega,h.sh,h.no,h.new,h.wt⟩
theorem zds{w:Wk}{m:Nat}(h:WkOk w m):WkOk w.drop m:=⟨h.sq,h.n,h.sh,h.no,h.new,h.wt⟩
theorem zow{w:Wk}{m:Nat}(h:WkOk w m):w.disp.out.length=w.out.length/\0<=w.disp.sh/\w.disp.sh<=w.out.length:=by have hs:=h.sh;grind[Wk.disp,List.length_modify]
theorem zc7{w:Wk}{m:Nat}(h:WkOk w m):WkOk w.reset m:=by
 obtain⟨h1,h2,h3⟩:=zow h;have hn:=h.n;have hsq:SqOk w.disp.sq:=by rw[(zev w).2.2.2.2.2.1];exact h.sq
 refine⟨hsq,?_,?_,?_,?_,λh=>by cases h⟩
 .show w.disp.out.length<=m;omega
 .show 0<=w.disp.sh/\w.disp.sh+(if false=true then(1:Int)else 0)<=w.disp.out.length;simp_all
 .show 0<=(0:Int)/\(0:Int)<=2;omega
 .show -1<=(-1:Int)/\(-1:Int)<w.disp.out.length;omega
theorem zlw{w:Wk}{m:Nat}(h:WkOk w m)(f l ty:Int):WkOk (w.frame f l ty) (m+1):=by
 obtain⟨a1,a2,a3,a4,a5,a6⟩:=h;unfold Wk.frame;split
 .split
  .exact⟨a1,by show w.out.length<=m+1;omega,a3,a4,a5,a6⟩
  .refine⟨a1,by simp;omega,?_,a4,by simp;omega,a6⟩;grind
 .split
  .exact⟨a1,by show w.out.length<=m+1;omega,a3,a4,a5,a6⟩
  .have hk:WkOk { w with out:=w.out++[⟨f,l,ty,w.new,-1,0⟩] } (m+1):=by refine⟨a1,by simp;omega,?_,a4,by simp;omega,a6⟩;grind
   obtain⟨h1,h2,h3⟩:=zow hk;have hf:=zev { w with out:=w.out++[⟨f,l,ty,w.new,-1,0⟩] };have hs:(Wk.disp { w with out:=w.out++[⟨f,l,ty,w.new,-1,0⟩] }).sh<=w.out.length:=by grind[Wk.disp]
   generalize Wk.disp { w with out:=w.out++[⟨f,l,ty,w.new,-1,0⟩] }=d at *;simp only[gP,gZ,uS]at h1 h3;obtain⟨f1,f2,f3,f4,f5,f6,f7,f8⟩:=hf;refine⟨by show SqOk d.sq;rw[f6];exact a1,by show d.out.length<=m+1;omega,?_,?_,?_,?_⟩;all_goals grind
theorem zxu{L:List It}{w:Wk}{m:Nat}(h:WkOk w m)(i:Int)(hp:Pi):WkOk (w.picture L i hp) (m+1):=by
 have hd:=zds h;have hsk:∀{v:Wk},WkOk v m->WkOk { v with sk:=true } (m+1):=fun{v} h=>⟨h.sq,by have:=h.n;show v.out.length<=m+1;omega,h.sh,h.no,h.new,h.wt⟩;unfold Wk.picture;dsimp only;split
 .exact hsk hd
 .split
  .exact zlw hd _ _ _
  .split
   .exact zlw (w:={ w with op:= -1 }) ⟨h.sq,h.n,h.sh,h.no,h.new,h.wt⟩ _ _ _
   .exact⟨h.sq,by have:=h.n;show w.out.length<=m+1;omega,h.sh,h.no,h.new,h.wt⟩
theorem zuK(L:List It)(fl:Bool)(hL:∀ x∈L,SqOk x.s)(w:Wk)(k:Nat)(hk:k<L.length)(i j:Nat)(H:za)(h:WkH H i j L fl w)(hw:WkOk w 900000)(hop:OpR L w.op):
  CallOk prog 99 [.ptr i 0 0,O J (k:Int)] H (.tup []) (wR H i j L fl (w.picture L (k:Int) L[k].p)):=by
 have hil:i<H.length:=(gA.1 h.gi).1;have hjl:j<H.length:=(gA.1 h.gj).1;have hne:=h.ne;have t0:=wrt H i j L fl hil hjl h.ne;have hsq:=hw.sq.toL;have g:=wkg (j:=j) (L:=L) (fl:=fl) w hsq;have s:=wks (j:=j) (L:=L) (fl:=fl) w hsq;have ln:=zbg L hL;have ip:=zeQ L hL k hk;have hself:=zeB h;have pv:=λK=>zbj w.sq L[k].p K hw.sq;have hH:=fun(K:za) (v:Wk)=>zxx (H++K) i j L fl v (by simp;omega) (by simp;omega) hne;have wf:=fun(K:za) (v:Wk) (hv:WkOk v 900000) (q:Nat) (hq:q<L.length) (last:Int)=>zpW L fl hL v q hq last i j _ (hH K v) hv;have wd:=fun(K:za) (v:Wk) (hv:SqL v.sq)=>zhL L fl v i j _ (hH K v) hv;simp only[zq6 _ _ _ _ _ _ _ hne]at wf wd;generalize hr:w.picture L (k:Int) L[k].p=r;unfold Wk.picture at hr;dsimp only at hr;have wfk:=λK v hv=>wf K v hv k hk;generalize L[k].p=p at *;have p1:(pic p).length=6:=rfl;have p2:(pic p).all PV.cell=true:=rfl;have p3:qA 6 (pic p)=pic p:=rfl;have p4:(pic p)[1]? =some (O J p.st):=rfl;have p5:(pic p)[3]? =some (.bool p.tf):=rfl;have hfin:=λP w=>zna H [P] i j L fl w hil hjl;refine .go func99 ntmps99 results99 ?_;refine .eq rfl hself.symm ?_;refine .g (nq2 t0.gi (nq2 g.ln (nq2 g.lL (nq2 ln (nq2 ip p2))))) ?_;have hYl:=zcY H i j L fl w;have a0:∀ v P,(wR (H++[P]) i j L fl v)[H.length]? =some P:=λv P=>by simp_all[zcZ,gN,zcY,vK]
 refine .a (?_:PW _ _ _ [(0,.ptr i 0 0),(1,O J (k:Int)),(4,.ptr H.length 0 0)] (wR (H++[⟨41,0,pic p⟩]) i j L fl w) _) (by rw[<-hYl];rfl) (by rw[zcZ _ _ _ _ _ _ _ hil hjl];rfl);have t:=λP=>wrt (H++[P]) i j L fl (by simp;omega) (by simp;omega) hne;have tgi:=λP w=>(t P).gi w;have tsk:=λP w v=>(t P).sk w v;have top:=λP w v=>(t P).op w v;suffices hpr:PW prog _ _ [(0,.ptr i 0 0),(1,O J (k:Int)),(4,.ptr H.length 0 0),(5,.bool (decide (0<=w.op)&&za4 (hdA L (max w.op 0)) p))] (wR (H++[⟨41,0,pic p⟩]) i j L fl w) _ by
  rcases hop with ho|⟨k2,ho,hk2⟩
  .have e0:decide (0<=w.op)=false:=by rw[ho];rfl
   rw[e0]at hpr;refine .dg λK hK=> ?_;simp(maxSteps:=9^9) (disch:=omega) only[go_sem,tgi,g.ln,g.op,e0];refine hK _ _ ?_;clear hK K;exact .a hpr
  .have e0:decide (0<=w.op)=true:=gX om;have em:(if(0:Int)<(k2:Int)then(k2:Int)else 0)=(k2:Int):=om;have em2:max w.op 0=(k2:Int):=om;have ip2:=zeQ L hL k2 hk2;rw[em2,zhv L k2 hk2,e0]at hpr;have go:=g.op;generalize L[k2].p=g2 at *;have pr:=λK=>zmq g2 p K;have y1:(pic g2).length=6:=rfl;have y2:(pic g2).all PV.cell=true:=rfl;refine .dg λK hK=> ?_;simp(maxSteps:=9^9) (disch:=omega) only[go_sem,tgi,g.ln,g.lL,go,e0,ho,em,ln,ip2,a0,p1,p2,p3,y1,y2];refine VCz.call (λ_=>pr _) rfl ?_;simp(maxSteps:=9^9) (disch:=omega) only[go_sem];refine hK _ _ ?_;clear hK K;exact .a hpr
 generalize hpq:(decide (0<=w.op)&&za4 (hdA L (max w.op 0)) p)=q at *;suffices hrest:PW prog _ _ [(0,.ptr i 0 0),(1,O J (k:Int)),(4,.ptr H.length 0 0),(5,.bool q),(68,.bool (!w.hd||(!(zB w.sq p)||(!(p.st==3)&&(!q&& !(zbn p))))))] (wR (H++[⟨41,0,pic p⟩]) i j L fl w) _ by
  have ghd:=g.hd;rcases dZ w.hd with hh|hh;rotate_left
  .have gh:(wkc j L fl w)[1]? =some (.bool false):=ghd.trans (by rw[hh]);have e:(!w.hd||(!(zB w.sq p)||(!(p.st==3)&&(!q&& !(zbn p)))))=true:=by rw[hh];rfl
   rw[e]at hrest;refine .dg λK hK=> ?_;simp(maxSteps:=9^9) (disch:=omega) only[go_sem,tgi,g.ln,gh];refine hK _ _ ?_;clear hK K;exact .a hrest
  have gh:(wkc j L fl w)[1]? =some (.bool true):=ghd.trans (by rw[hh]);rw[hh]at hrest;rcases dZ (zB w.sq p)with hv|hv;rotate_left
  .rw[hv]at hrest pv;refine .dg λK hK=> ?_;simp(maxSteps:=9^9) (disch:=omega) only[go_sem,tgi,g.ln,gh,g.sq,a0,p1,p2,p3];refine VCz.call (λ_=>pv _) rfl ?_;simp(maxSteps:=9^9) (disch:=omega) only[go_sem];refine hK _ _ ?_;clear hK K;exact .a hrest
  rw[hv]at hrest pv;rcases dZ (p.st==3)with h3|h3
  .have e3:(p.st !=3)=false:=by simp_all
   rw[h3]at hrest;refine .dg λK hK=> ?_;simp(maxSteps:=9^9) (disch:=omega) only[go_sem,tgi,g.ln,gh,g.sq,a0,p1,p2,p3];refine VCz.call (λ_=>pv _) rfl ?_;simp(maxSteps:=9^9) (disch:=omega) only[go_sem,a0,p1,p4,e3];refine hK _ _ ?_;clear hK K;exact .a hrest
  have e3:(p.st !=3)=true:=by simp_all
  rw[h3]at hrest;cases q with
  | true=>
   refine .dg λK hK=> ?_;simp(maxSteps:=9^9) (disch:=omega) only[go_sem,tgi,g.ln,gh,g.sq,a0,p1,p2,p3];refine VCz.call (λ_=>pv _) rfl ?_;simp(maxSteps:=9^9) (disch:=omega) only[go_sem,a0,p1,p4,e3];refine hK _ _ ?_;clear hK K;exact .a hrest
  | false=>
   have e5:(p.tf !=(p.st==1))= !zbn p:=by rfl
   refine .dg λK hK=> ?_;simp(maxSteps:=9^9) (disch:=omega) only[go_sem,tgi,g.ln,gh,g.sq,a0,p1,p2,p3];refine VCz.call (λ_=>pv _) rfl ?_;simp(maxSteps:=9^9) (disch:=omega) only[go_sem,a0,p1,p4,p5,e3,e5];refine hK _ _ ?_;clear hK K;exact .a hrest
 generalize hcd:(!w.hd||(!(zB w.sq p)||(!(p.st==3)&&(!q&& !(zbn p)))))=cd at *;cases cd with
 | true=>
  rw[gD rfl]at hr;subst hr;have wd1:=wd [⟨41,0,pic p⟩] w hsq;have g1:=wkg (j:=j) (L:=L) (fl:=fl) w.drop hsq;have s1:=wks (j:=j) (L:=L) (fl:=fl) w.drop hsq;refine .t (.f (λK k=>by simp(maxSteps:=9^9) (disch:=omega) only[go_sem];refine VCx.call (wd1) rfl ?_;simp(maxSteps:=9^9) (disch:=omega) only[go_sem];exact k) ?_);refine .g (nq2 tgi (nq2 g1.ln (nq2 s1.sk tsk))) ?_;exact .ret ⟨_,rfl,hfin _ _⟩
 | false=>
  rw[gC sp]at hr;refine .us (.b ?_);refine .g (nq2 a0 (nq2 p1 p4)) ?_;by_cases h3:p.st=3
  .rw[gD h3]at hr;subst hr;have wd1:=wd [⟨41,0,pic p⟩] w hsq;have wf1:=wfk [⟨41,0,pic p⟩] w.drop (zds hw) (k:Int);refine .c (λh=> ?_) (λh=> ?_);rotate_left
   .simp_all
   refine .f (λK k=>by simp(maxSteps:=9^9) (disch:=omega) only[go_sem];refine VCx.call (wd1) rfl ?_;simp(maxSteps:=9^9) (disch:=omega) only[go_sem];exact k) ?_;refine .f (λK k=>by simp(maxSteps:=9^9) (disch:=omega) only[go_sem];refine VCx.call (wf1) rfl ?_;simp(maxSteps:=9^9) (disch:=omega) only[go_sem];exact k) ?_;exact⟨_,rfl,hfin _ _⟩
  rw[gC h3]at hr;refine .c (λh=> ?_) (λh=> ?_)
  .simp_all
  refine .e ?_;cases q with
  | true=>
   rw[gD rfl]at hr;subst hr;refine .t ?_;obtain⟨k2,ho,hk2⟩:∃ k2:Nat,w.op=(k2:Int)/\k2<L.length:=by rcases hop with ho|ho;all_goals simp_all
   have wf1:=wf [⟨41,0,pic p⟩] { w with op:= -1 } ⟨hw.sq,hw.n,hw.sh,hw.no,hw.new,hw.wt⟩ k2 hk2 (k:Int);rw[ho,zhv L k2 hk2];have go:(wkc j L fl w)[140]? =some (O J (k2:Int)):=g.op.trans (by rw[ho]);refine .g (nq2 tgi (nq2 g.ln go)) ?_;refine .g (nq2 tgi (nq2 g.ln (nq2 s.op top))) ?_;refine .f (λK k=>by simp(maxSteps:=9^9) (disch:=omega) only[go_sem];refine VCx.call (wf1) rfl ?_;simp(maxSteps:=9^9) (disch:=omega) only[go_sem];exact k) ?_;exact⟨_,rfl,hfin _ _⟩
  | false=>rw[gC sp]at hr;subst hr;refine .u ?_;have wd1:=wd [⟨41,0,pic p⟩] w hsq;have g1:=wkg (j:=j) (L:=L) (fl:=fl) w.drop hsq;have s1:=wks (j:=j) (L:=L) (fl:=fl) w.drop hsq;refine .f (λK k=>by simp(maxSteps:=9^9) (disch:=omega) only[go_sem];refine VCx.call (wd1) rfl ?_;simp(maxSteps:=9^9) (disch:=omega) only[go_sem];exact k) ?_;refine .g (nq2 tgi (nq2 g1.ln (nq2 s1.op top))) ?_;exact⟨_,rfl,hfin _ _⟩
theorem zxs{w:Wk}{m:Nat}(h:WkOk w m)(s:Sq)(hs:SqOk s):WkOk (w.seq s) m:=by
 unfold Wk.seq;split
 .have:=zc7 h;exact⟨hs,this.n,this.sh,this.no,this.new,this.wt⟩
 .exact h
theorem zou{L:List It}{w:Wk}{m:Nat}(h:WkOk w m)(i:Int)(x:It)(hx:SqOk x.s):WkOk (w.step L i x) (m+1):=by
 have hd:=zds h;have mn:∀{v:Wk},WkOk v m->WkOk v (m+1):=λh=>h.mono om;unfold Wk.step;split
 .exact zxu h _ _
 .split
  .exact mn (zxs hd _ hx)
  .split
   .unfold Wk.grp;split
    .exact mn (zc7 hd)
    .split
     .exact⟨hd.sq,(mn hd).n,hd.sh,by show 0<=(2:Int)/\(2:Int)<=2;omega,hd.new,hd.wt⟩
     .exact⟨hd.sq,(mn hd).n,hd.sh,by show 0<=(0:Int)/\(0:Int)<=2;omega,hd.new,hd.wt⟩
   .split
    .have:=mn (zc7 hd);exact⟨this.sq,this.n,this.sh,this.no,this.new,this.wt⟩
    simp_all
theorem zq4(L:List It)(fl:Bool)(hL:∀ x∈L,SqOk x.s)(w:Wk)(k:Nat)(hk:k<L.length)(i j:Nat)(H:za)(h:WkH H i j L fl w)(hw:WkOk w 900000)(hop:OpR L w.op):
  CallOk prog 52 [.ptr i 0 0,O J (k:Int)] H (.tup []) (wR H i j L fl (w.step L (k:Int) L[k])):=by
 have hil:i<H.length:=(gA.1 h.gi).1;have hjl:j<H.length:=(gA.1 h.gj).1;have hne:=h.ne;have t0:=wrt H i j L fl hil hjl h.ne;have hsq:=hw.sq.toL;have g:=wkg (j:=j) (L:=L) (fl:=fl) w hsq;have ln:=zbg L hL;have hx:=hL _ (uY hk);have ia:qA 148 (qB (k * 148) (itL L))=itc L[k]:=znY L hL k hk;have hself:=zeB h;have hH:=fun(K:za) (v:Wk)=>zxx (H++K) i j L fl v (by simp;omega) (by simp;omega) hne;have wp:=fun(K:za)=>zuK L fl hL w k hk i j _ (hH K w) hw hop;have wd:=fun(K:za) (v:Wk) (hv:SqL v.sq)=>zhL L fl v i j _ (hH K v) hv;have wr:=fun(K:za) (v:Wk) (hv:WkOk v 1000000)=>zjg L fl v i j _ (hH K v) hv;simp only[zq6 _ _ _ _ _ _ _ hne]at wp wd wr;have vs:=λK=>zhM L[k].s K hx;have ne:=zw0 w.sq L[k].s hsq hx.toL;generalize hr:w.step L (k:Int) L[k]=r;unfold Wk.step at hr;generalize L[k]=x at *;have x1:=zht x hx;have x2:=ztn x;have x3:=ztp x;have x4:qA 135 (qB 1 (itc x))=sqc x.s:=ztl _ hx;have x5:(itc x)[136]? =some (.bool x.gc):=ziC _ hx 0;have x6:(itc x)[137]? =some (.bool x.gb):=ziC _ hx 1;have x7:qA 148 (itc x)=itc x:=gH om;have q1:=zP _ hx.toL;have q2:=zbv x.s;have hfin:=λP w=>zna H [P] i j L fl w hil hjl;refine .go func52 ntmps52 results52 ?_;refine .eq rfl hself.symm ?_;refine .g (nq2 t0.gi (nq2 g.ln (nq2 g.lL (nq2 ln (nq2 ia (nq2 x1 (nq2 x2 x7))))))) ?_;have hYl:=zcY H i j L fl w;have a0:∀ v P,(wR (H++[P]) i j L fl v)[H.length]? =some P:=λv P=>by simp_all[zcZ,gN,zcY,vK]
 refine .a (?_:PW _ _ _ [(0,.ptr i 0 0),(1,O J (k:Int)),(4,.ptr H.length 0 0)] (wR (H++[⟨47,0,itc x⟩]) i j L fl w) _) (by rw[<-hYl];rfl) (by rw[zcZ _ _ _ _ _ _ _ hil hjl]);have t:=λP=>wrt (H++[P]) i j L fl (by simp;omega) (by simp;omega) hne;have tgi:=λP w=>(t P).gi w;have tno:=λP w v=>(t P).no w v;have thd:=λP w v=>(t P).hd w v;refine .g (nq2 a0 (nq2 x1 x3)) ?_;by_cases h3:x.k=3
 .rw[gD h3]at hr;subst hr;have wp1:=wp [⟨47,0,itc x⟩];refine .c (λh=> ?_) (λh=> ?_);rotate_left
  .simp[h3]at h
  refine .f (λK k=>by simp(maxSteps:=9^9) (disch:=omega) only[go_sem];refine VCx.call (wp1) rfl ?_;simp(maxSteps:=9^9) (disch:=omega) only[go_sem];exact k) ?_;exact .ret ⟨_,rfl,hfin _ _⟩
 rw[gC h3]at hr;refine .c (λh=> ?_) (λh=> ?_)
 .simp[h3]at h
 have wd1:=wd [⟨47,0,itc x⟩] w hsq;refine .skip (.f (λK k=>by simp(maxSteps:=9^9) (disch:=omega) only[go_sem];refine VCx.call (wd1) rfl ?_;simp(maxSteps:=9^9) (disch:=omega) only[go_sem];exact k) ?_);have hwd:=zds hw;have hdsq:SqL w.drop.sq:=hsq;have ne:zdF prog .neq 37 (.agg (sqc w.drop.sq)) (.agg (sqc x.s))=some (.bool (!sqE w.drop.sq x.s)):=ne;generalize w.drop=d at *;have g:=wkg (j:=j) (L:=L) (fl:=fl) d hdsq;have s:=wks (j:=j) (L:=L) (fl:=fl) d hdsq;have wr1:=wr [⟨47,0,itc x⟩] d (hwd.mono om);have hrsq:SqL d.reset.sq:=(zc7 hwd).sq.toL;have gr:=wkg (j:=j) (L:=L) (fl:=fl) d.reset hrsq;have sr:=wks (j:=j) (L:=L) (fl:=fl) d.reset hrsq;refine .g (nq2 a0 (nq2 x1 x3)) ?_;refine .b (.e ?_);by_cases h1:x.k=1
 .rw[gD h1]at hr;unfold Wk.seq at hr;refine .c (λh=> ?_) (λh=> ?_);rotate_left
  .simp[h1]at h
  suffices hrest:PW prog _ _ [(0,.ptr i 0 0),(4,.ptr H.length 0 0),(37,.bool (!d.hd|| !(sqE d.sq x.s)))] (wR (H++[⟨47,0,itc x⟩]) i j L fl d) _ by
   have ghd:=g.hd;rcases dZ d.hd with hh|hh
   .have gh:(wkc j L fl d)[1]? =some (.bool true):=ghd.trans (by rw[hh]);rw[hh]at hrest;refine .dg λK hK=> ?_;simp(maxSteps:=9^9) (disch:=omega) only[go_sem,tgi,g.ln,gh,g.sq,a0,x1,x4,↓ne];refine hK _ _ ?_;clear hK K;exact .a hrest
   .have gh:(wkc j L fl d)[1]? =some (.bool false):=ghd.trans (by rw[hh]);rw[hh]at hrest;refine .dg λK hK=> ?_;simp(maxSteps:=9^9) (disch:=omega) only[go_sem,tgi,g.ln,gh];refine hK _ _ ?_;clear hK K;exact .a hrest
  generalize (!d.hd|| !(sqE d.sq x.s))=c at *;cases c with
  | false=>
   rw[gC sp]at hr;subst hr;refine .us ?_;exact⟨_,rfl,hfin _ _⟩
  | true=>rw[gD rfl]at hr;subst hr;refine .t (.f (λK k=>by simp(maxSteps:=9^9) (disch:=omega) only[go_sem];refine VCx.call (wr1) rfl ?_;simp(maxSteps:=9^9) (disch:=omega) only[go_sem];exact k) ?_);have g1:=wkg (j:=j) (L:=L) (fl:=fl) { d.reset with hd:=zbJ x.s } hrsq;refine .y [i] [(0,[0]),(40,[0]),(41,[0]),(47,[0]),(48,[0]),(49,[0]),(50,[0])] [] [44] λK hK=> ?_;refine sqx (nq2 a0 (nq2 x1 x4)) ?_;have d5:∀ v,qA 2 (wkc j L fl v)=[.slice (itL L) L.length fl,.bool v.hd]:=λv=>rfl;have d6:∀ v:Wk,SqL v.sq->qB 137 (wkc j L fl v)=wtl j v:=λv hv=>dE (zP _ hv);have d7:=d6 { d.reset with hd:=zbJ x.s } hrsq;refine VCj.read (λ_ _=>vs _) rfl ?_;simp(maxSteps:=9^9) (disch:=omega) only[go_sem,tgi,thd,gr.ln,sr.hd,g1.ln,a0,x1,x4,q1,q2,d5,d7,uZ,vC];refine hK _ _ ?_;clear hK K;have hb:=zj1 (H++[⟨47,0,itc x⟩]) i j L fl { d.reset with hd:=zbJ x.s } { d.reset with hd:=zbJ x.s,sq:=x.s } hne rfl;have hf:=hfin ⟨47,0,itc x⟩ { d.reset with hd:=zbJ x.s,sq:=x.s };rw[<-hb]at hf;exact⟨_,rfl,hf⟩
 rw[gC h1]at hr;refine .c (λh=> ?_) (λh=> ?_)
 .simp[h1]at h
 refine .e ?_;by_cases h2:x.k=2
 .rw[gD h2]at hr;unfold Wk.grp at hr;refine .c (λh=> ?_) (λh=> ?_);rotate_left
  .simp[h2]at h
  refine .g (nq2 a0 (nq2 x1 x5)) ?_;cases hc:x.gc with
  | true=>
   rw[hc,gD rfl]at hr;subst hr;refine .t (.f (λK k=>by simp(maxSteps:=9^9) (disch:=omega) only[go_sem];refine VCx.call (wr1) rfl ?_;simp(maxSteps:=9^9) (disch:=omega) only[go_sem];exact k) ?_);exact⟨_,rfl,hfin _ _⟩
  | false=>
   rw[hc,gC sp]at hr;refine .u (.g (nq2 a0 (nq2 x1 x6)) ?_);cases hb:x.gb with
   | true=>
    rw[hb,gD rfl]at hr;subst hr;refine .t (.g (nq2 tgi (nq2 g.ln (nq2 s.no tno))) ?_);exact⟨_,rfl,hfin _ _⟩
   | false=>rw[hb,gC sp]at hr;subst hr;refine .u (.g (nq2 tgi (nq2 g.ln (nq2 s.no tno))) ?_);exact⟨_,rfl,hfin _ _⟩
 rw[gC h2]at hr;refine .c (λh=> ?_) (λh=> ?_)
 .simp[h2]at h
 refine .e ?_;by_cases h4:x.k=4
 .rw[gD h4]at hr;subst hr;refine .c (λh=> ?_) (λh=> ?_);rotate_left
  .simp[h4]at h
  refine .f (λK k=>by simp(maxSteps:=9^9) (disch:=omega) only[go_sem];refine VCx.call (wr1) rfl ?_;simp(maxSteps:=9^9) (disch:=omega) only[go_sem];exact k) ?_;refine .g (nq2 tgi (nq2 gr.ln (nq2 sr.hd thd))) ?_;exact⟨_,rfl,hfin _ _⟩
 .rw[gC h4]at hr;subst hr;refine .c (λh=> ?_) (λh=> ?_)
  .simp[h4]at h
  refine .skip ?_;exact⟨_,rfl,hfin _ _⟩
theorem zlr(L:List It)(w:Wk)(k:Nat)(hk:k<L.length)(x:It)(h:OpR L w.op):OpR L (w.step L (k:Int) x).op:=by
 have h0:OpR L (-1):=.inl rfl;have hrs:∀ v:Wk,v.reset.op=v.op:=λv=>(zev v).2.2.2.2.2.2.1;have hfr:∀(v:Wk) f l ty,(v.frame f l ty).op=v.op:=λv f l ty=>by grind[Wk.frame,zev]
 unfold Wk.step;split
 .unfold Wk.picture;dsimp only;split
  .exact h0
  .split
   .rw[hfr];exact h0
   .split
    .simp_all
    .exact .inr ⟨k,rfl,hk⟩
 .split
  .unfold Wk.seq;split
   .show OpR L w.drop.reset.op;rw[hrs];exact h0
   .exact h0
  .split
   .unfold Wk.grp;split
    .rw[hrs];exact h0
    .split<;>exact h0
   .split
    .show OpR L w.drop.reset.op;rw[hrs];exact h0
    .exact h0
def wkf(L:List It)(fl:Bool)(w:Wk):List PV:=.slice (itL L) L.length fl:: .bool w.hd::(sqc w.sq++[O J w.old,O J w.new,.bool w.wt,O J w.op,O J w.no,O J w.sh,.slice (w.out.flatMap enR) w.out.length false,.bool w.sk])
def zwk:List PV:=.slice [] 0 true:: .bool false::(sqc sq0++[O J 0,O J 0,.bool false,O J 0,O J 0,O J 0,.slice [] 0 true,.bool false])
theorem zwB{L:List It}(hL:∀ x∈L,SqOk x.s):∀(r:List It) (k:Nat) (w:Wk),L.drop k=r->WkOk w k->OpR L w.op->k<=L.length->WkOk (wkN L w k r) L.length/\OpR L (wkN L w k r).op
 | [],k,w,hr,hw,hop,hk=>⟨hw.mono hk,hop⟩
 | x::r,k,w,hr,hw,hop,hk=>by obtain⟨hkl,hx,hr2⟩:=zfO hr;have e:wkN L w k (x::r)=wkN L (w.step L k x) ((k+1:Nat):Int) r:=rfl;rw[e];exact zwB hL r (k+1) _ hr2 (zou hw _ x (by rw[<-hx];exact hL _ (uY _))) (zlr L w k hkl x hop) om
theorem zwC:WkOk wk0 0:=⟨⟨by decide,by decide,by decide,by decide,by decide,by decide,rfl,rfl⟩,by simp[wk0],by simp[wk0],by simp[wk0],by simp[wk0],by simp[wk0]⟩
theorem zpX(L:List It)(fl:Bool)(hL:∀ x∈L,SqOk x.s)(hn:L.length<=800000)(H:za):CallOk prog 25 [.slice (itL L) L.length fl] H (.agg (wkf L fl (zd3 L))) H:=by
 refine .go func25 ntmps25 results25 ?_;refine .e (.e ?_);refine .view (Vs.ghostH (id:=H.length+1) (j:=143) 65 6 (hp1 _ _ _ _) rfl) ?_;refine .a (?_:PW _ _ _ [(0,.slice (itL L) L.length fl),(2,.ptr H.length 0 0),(3,.ptr (H.length+1) 0 0)] (H++[⟨93,0,zwk⟩,wkB (H.length+2) L fl wk0,woB []]) _) rfl (by
  rw[zea,gU];simp only[gP,gZ,uS,wF];rfl)
 obtain⟨B,hB⟩:∃ B:za,B=H++[⟨93,0,zwk⟩,wkB (H.length+2) L fl wk0,woB []]:=⟨_,rfl⟩;have hBl:B.length=H.length+3:=by rw[hB];simp
 have hBg:∀ k:Nat,B[H.length+k]? =([⟨93,0,zwk⟩,wkB (H.length+2) L fl wk0,woB []]:za)[k]? :=λk=>by rw[hB,gN om,uW]
 have hW0:WkH B (H.length+1) (H.length+2) L fl wk0:=⟨hBg 1,hBg 2,om⟩;rw[<-hB,<-zeB hW0];have hH:=fun(v:Wk)=>zxx B (H.length+1) (H.length+2) L fl v om om om;have hne:H.length+1≠H.length+2:=om;have ws:=fun(v:Wk) (hv:WkOk v 900000) (ho:OpR L v.op) (k:Nat) (hk:k<L.length)=>zq4 L fl hL v k hk _ _ _ (hH v) hv ho;have wd:=fun(v:Wk) (hv:SqL v.sq)=>zhL L fl v _ _ _ (hH v) hv;have wr:=fun(v:Wk) (hv:WkOk v 1000000)=>zjg L fl v _ _ _ (hH v) hv;simp only[zq6 _ _ _ _ _ _ _ hne]at ws wd wr;refine .e (.l ?_);suffices hloop:∀(r:List It) (k:Nat) (w:Wk),L.drop k=r->WkOk w k->OpR L w.op->k<=L.length->wkN L w k r=wkN L wk0 0 L->
   PL prog _ _ [(0,.slice (itL L) L.length fl),(2,.ptr H.length 0 0),(3,.ptr (H.length+1) 0 0),(4,O J (k:Int))] (wR B (H.length+1) (H.length+2) L fl w) _ by
  exact .a (hloop L 0 wk0 rfl zwC (.inl rfl) (vU _) rfl)
 intro r;induction r with
 | nil=>
  intro k w hr hw hop hk he;have hkl:k=L.length:=by have:=nB.1 hr;omega
  subst hkl;refine .round (.e ?_);refine .u (.exit ?_);have he:w=wkN L wk0 0 L:=he;have wd1:=wd w hw.sq.toL;have wr1:=wr w.drop ((zds hw).mono om);have hfin:w.drop.reset=zd3 L:=by rw[he];rfl
  have hok:=zc7 (zds hw);rw[hfin]at wr1 hok;refine .f (λK k=>by simp(maxSteps:=9^9) (disch:=omega) only[go_sem];refine VCx.call (wd1) rfl ?_;simp(maxSteps:=9^9) (disch:=omega) only[go_sem];exact k) ?_;refine .f (λK k=>by simp(maxSteps:=9^9) (disch:=omega) only[go_sem];refine VCx.call (wr1) rfl ?_;simp(maxSteps:=9^9) (disch:=omega) only[go_sem];exact k) ?_;generalize zd3 L=v at *;have hsq:=hok.sq.toL;have gi:=(hH v).gi;unfold wkB at gi;have l1:=zov (j:=H.length+2) (L:=L) (fl:=fl) v hsq;have l2:qA 145 (wkc (H.length+2) L fl v)=wkc (H.length+2) L fl v:=gH om;have l3:(wkc (H.length+2) L fl v).all PV.cell=true:=by simp[wkc,wtl,zbv,PV.cell]
  have g0:(wR B (H.length+1) (H.length+2) L fl v)[H.length]? =some ⟨93,0,zwk⟩:=by unfold wR tw;rw[gR om,gR om];exact hBg 0
  have z1:zwk.length=145:=rfl;have z2:qB 145 zwk=[]:=rfl;have hs:∀ X,((wR B (H.length+1) (H.length+2) L fl v).set H.length X)[H.length]? =some X:=λX=>by rw[vN (by rw[zcY];omega)]
  refine .f (λK k=>by simp(maxSteps:=9^9) (disch:=omega) only[go_sem,gi,g0,l1,l2,l3,z1,z2,gQ];exact k) ?_;refine .w (.agg (wkc (H.length+2) L fl v)) (nq2 hs (nq2 l1 l2)) ?_;have hheap:(wR B (H.length+1) (H.length+2) L fl v).set H.length ⟨93,0,wkc (H.length+2) L fl v⟩=H++[⟨93,0,wkc (H.length+2) L fl v⟩,wkB (H.length+2) L fl v,woB v.out]:=by unfold wR tw;have e0:=λK X=>zea H K 0 X;simp only[vQ]at e0;rw[hB,zea,zea,e0];rfl
  rw[hheap];refine .base (Fz.aggC ⟨.id (zk (zdJ _ _)),.id (.bool _),FzC.append (FzC.refl (zaf _ _)) ⟨.id (.int _ _),.id (.int _ _),.id (.bool _),.id (.int _ _),.id (.int _ _),.id (.int _ _),?_,.id (.bool _),trivial⟩⟩);exact Fz.mslC (e:=65) (xs:=v.out.flatMap enR) om (by rw[gN om,uW];rfl) (zdN _) (FzC.refl (zgf _ _))
 | cons x r ih=>intro k w hr hw hop hk he;obtain⟨hkl,hx,hr2⟩:=zfO hr;refine .round (.e ?_);refine .t ?_;have e0:wkN L w k (x::r)=wkN L (w.step L k x) ((k+1:Nat):Int) r:=rfl;have ws1:=ws w (hw.mono om) hop k hkl;rw[hx]at ws1;refine .skip (.b ?_);refine .f (λK k=>by simp(maxSteps:=9^9) (disch:=omega) only[go_sem];refine VCx.call (ws1) rfl ?_;simp(maxSteps:=9^9) (disch:=omega) only[go_sem];exact k) ?_;refine .e ?_;exact .a (ih (k+1) (w.step L k x) hr2 (zou hw _ x (by rw[<-hx];exact hL _ (uY _))) (zlr L w k hkl x hop) om (by rw[<-he,e0]))
theorem zu5(L:List It)(fl:Bool)(hL:∀ x∈L,SqOk x.s)(hn:L.length<=800000)(H:za):CallOk prog 12 [.slice (itL L) L.length fl] H (.slice ((zd3 L).out.flatMap enR) (zd3 L).out.length false) H:=by
 have wo:=λK=>zpX L fl hL hn K;have hsq:SqL (zd3 L).sq:=(zc7 (zds (zwB hL L 0 wk0 rfl zwC (.inl rfl) (vU _)).1)).sq.toL;generalize zd3 L=v at *;have l1:(wkf L fl v).length=145:=by simp only[wkf,gZ,gP,zP _ hsq,uS]
 have l3:(wkf L fl v).all PV.cell=true:=by simp[wkf,zbv,PV.cell]
 have l4:(wkf L fl v)[143]? =some (.slice (v.out.flatMap enR) v.out.length false):=by unfold wkf;rw[wY,wY,gN (by rw[zP _ hsq];omega),zP _ hsq];rfl
 have l5:qA 145 (wkf L fl v)=wkf L fl v:=gH om;have l6:∀ X,qB 145 (X:List PV)=qB 145 X:=λ_=>rfl;refine .go func12 ntmps12 results12 ?_;refine .e (.m (nq2 l1 (nq2 l3 l5)) wo ?_);refine .g (nq2 l1 l4) ?_;refine .v (.slice (v.out.flatMap enR) v.out.length false) ?_;exact .base (.id (zk λx hx=>zgf _ _ x hx))
theorem zAB(H:za):CallOk prog 8 [] H (.bool true) H:=CallOk.evalT 1000000 kr
theorem lt60{l:List It}(h:ltB l=true):l.length<=60:=by unfold ltB at h;rw[gB,gY]at h;exact h.1
end Sc
end Go.Proofs.YtleejngibkbjnaaGreatDoor
