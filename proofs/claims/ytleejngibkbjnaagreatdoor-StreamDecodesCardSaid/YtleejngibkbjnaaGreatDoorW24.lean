/-
  Parts of the proof. No condition.
-/
import Derived.Test.YtleejngibkbjnaaGreatDoorW20
import Derived.Test.YtleejngibkbjnaaGreatDoorW07
open Go.Proofs.YtleejngibkbjnaaGreatDoor.Pm.PV renaming int → O
open Go.IntKind renaming i64 → J
set_option linter.all false
set_option maxRecDepth 100000
set_option maxHeartbeats 32000000
namespace Go.Proofs.YtleejngibkbjnaaGreatDoor.Sc
open Pm Ty Go.RowKit
def fnu:List (Int×List UInt8)->Nat->Option (Int×List UInt8)
 | [],_=>none
 | u::r,k=>if u.1=1+(k:Int)then some u else fnu r k
theorem zpp:∀{us:List (Int×List UInt8)} {k:Nat} {u:Int×List UInt8},fnu us k=some u->u∈us/\u.1=1+(k:Int)
 | x::r,k,u,h=>by
  unfold fnu at h;split at h
  .injection h with h;rw[<-h];exact⟨uK ..,by assumption⟩
  .have:=zpp h;exact⟨uM _ this.1,this.2⟩
theorem zmL(us:List (Int×List UInt8))(j k:Nat)(hj:j<us.length):fnu (us.drop j) k=if us[j].1=1+(k:Int)then some us[j]else fnu (us.drop (j+1)) k:=by rw[vY hj];rfl
def cuV:Option (Int×List UInt8)->PV
 | none=>.tup [.agg [O J 0,.slice [] 0 true],.bool false]
 | some u=>.tup [.agg [O J u.1,.slice (bs u.2) u.2.length false],.bool true]
theorem zt8(n:Nat):∀ o,Scoped n (cuV o)
 | none=>.tup (zO λx hx=>by
   simp only[gM,gL,uA]at hx;rcases hx with rfl|rfl
   .exact .agg (zO λx hx=>by
     simp only[gM,gL,uA]at hx;rcases hx with rfl|rfl
     .exact .int _ _
     .exact zk (λx hx=>by cases hx))
   .exact .bool _)
 | some u=>.tup (zO λx hx=>by
   simp only[gM,gL,uA]at hx;rcases hx with rfl|rfl
   .exact .agg (zO λx hx=>by
     simp only[gM,gL,uA]at hx;rcases hx with rfl|rfl
     .exact .int _ _
     .exact zk (zh _ _))
   .exact .bool _)
theorem zua(p:Pi)(U:List (List UInt8))(us:List (Int×List UInt8))(i r k:Nat)(H:za)(hi:H[i]? =some (mpB r))(hk:k<r)(hu:us.length<=1000000):
  CallOk Tryz.prog 45 [.agg (cdc p U us),.mp i 0,O J (k:Int)] H (cuV (fnu us k)) H:=by
 have h1:=zex p U us;have h7:=zuj p U us;have h8:=ze0 p U us;have ul:=zne us;have il:=(gA.1 hi).1;unfold mpB at hi;have gi:∀ K,(H++K)[i]? =some ⟨124,0,zkn r⟩:=λK=>by rw[gK il];exact hi
 have hsc:HSc H->HSc (H++[⟨45,0,cdc p U us⟩,⟨49,0,[O J 0,.slice [] 0 true]⟩]):=zfi (λb hb x hx=>by
  simp only[gM,gL,uA]at hb;rcases hb with rfl|rfl
  .exact zgN _ _ _ _ x hx
  .simp only[gM,gL,uA]at hx;rcases hx with rfl|rfl
   .exact .int _ _
   .exact zk (λx hx=>by cases hx))
 have fz:∀(j:Nat) (F:Fr) (K:za),slot F 1= .mp i 0->slot F 2= O J (k:Int)->slot F 6= .ptr (H.length+1) 0 0->slot F 13= .slice (uq us) us.length false->slot F 14= O J (us.length:Int)->slot F 15= O J (j:Int)->FzF (H++[⟨45,0,cdc p U us⟩,⟨49,0,[O J 0,.slice [] 0 true]⟩]:za).length K F [(1,.mp i 0),(2,O J (k:Int)),(6,.ptr (H.length+1) 0 0),(13,.slice (uq us) us.length false),(14,O J (us.length:Int)),(15,O J (j:Int))]:=λj F K q1 q2 q3 q4 q5 q6=>by
  refine⟨?_,?_,?_,?_,?_,?_,trivial⟩
  .rw[q1];exact .id (.mp (by simp;omega))
  .rw[q2];exact .id (.int _ _)
  .rw[q3];exact .id (.ptr sp)
  .rw[q4];exact .id (zk (zwF _ _))
  .rw[q5];exact .id (.int _ _)
  .rw[q6];exact .id (.int _ _)
 refine .go Tryz.func45 Tryz.ntmps45 Tryz.results45 ?_;refine .g h1 ?_;refine .g (nq2 h7 h8) ?_;refine .l ?_;suffices hl1:∀ j:Nat,j<=us.length->fnu (us.drop j) k=fnu us k->PL Tryz.prog _ _ [(1,.mp i 0),(2,O J (k:Int)),(6,.ptr (H.length+1) 0 0),(13,.slice (uq us) us.length false),(14,O J (us.length:Int)),(15,O J (j:Int))] (H++[⟨45,0,cdc p U us⟩,⟨49,0,[O J 0,.slice [] 0 true]⟩]) _ by exact .a (hl1 0 om rfl)
 intro j hj hf;induction hd:us.length - j using Nat.strongRecOn generalizing j with
 | _ d ih=>
  refine .round (.e ?_);refine .c (λh=> ?_) (λh=> ?_)
  .have hjr:j<us.length:=ot h;have ua:=zwG us j hjr;rw[zmL us j k hjr]at hf;generalize us[j]=u at *;obtain⟨t,q⟩:=u;simp only[uq1]at ua;dsimp only at hf;refine .skip (.b ?_);refine .g (nq2 ua ul) ?_;obtain⟨m1,m2⟩:=zgs t r;have done:∀ F,slot F 6= .ptr (H.length+1) 0 0->True:=λ_ _=>trivial;by_cases hin:1<=t/\t<1+(r:Int)
   .obtain⟨pp,hp⟩:=m1 hin;refine .f (λK k=>by simp(disch:=omega) only[go_sem,gi,hp,zil,zbP,zdc,zqZ];exact k) ?_;by_cases htk:t=1+(k:Int)
    .have d1:(t - 1==(k:Int))=true:=by rw[wH];omega
     rw[gD htk]at hf;refine .g d1 ?_;refine .t (.e ?_);refine .ret ⟨cuV (some (t,q)),by simp(disch:=omega) only[go_sem,zw,zJ,uR,vA,uN,uD,uO,Array.toList,cuV],?_⟩;rw[<-hf];exact .base (.id (zt8 _ _))
    .have d1:(t - 1==(k:Int))=false:=by rw[wS];omega
     rw[gC htk]at hf;refine .g d1 ?_;refine .us (.e ?_);exact .view (Vs.trim (F1:=[(1,.mp i 0),(2,O J (k:Int)),(6,.ptr (H.length+1) 0 0),(13,.slice (uq us) us.length false),(14,O J (us.length:Int)),(15,O J ((j+1:Nat):Int))]) (H1:=H++[⟨45,0,cdc p U us⟩,⟨49,0,[O J 0,.slice [] 0 true]⟩]) hsc sp (gU _ [_,_] [_]).symm (fz (j+1) _ _ rfl rfl rfl rfl rfl rfl)) (ih (us.length - (j+1)) om (j+1) om hf rfl)
   .have hp:=m2 hin;rw[gC om]at hf;refine .f (λK k=>by simp(disch:=omega) only[go_sem,gi,hp,zil,zbP,zdc,zqZ];exact k) ?_;refine .e (.us ?_);refine .e ?_;exact .view (Vs.trim (F1:=[(1,.mp i 0),(2,O J (k:Int)),(6,.ptr (H.length+1) 0 0),(13,.slice (uq us) us.length false),(14,O J (us.length:Int)),(15,O J ((j+1:Nat):Int))]) (H1:=H++[⟨45,0,cdc p U us⟩,⟨49,0,[O J 0,.slice [] 0 true]⟩]) hsc sp (gU _ [_,_] [_]).symm (fz (j+1) _ _ rfl rfl rfl rfl rfl rfl)) (ih (us.length - (j+1)) om (j+1) om hf rfl)
  .have hjr:j=us.length:=ofF h;subst hjr;rw[wW]at hf;refine .exit (.e ?_);refine .ret ⟨cuV none,by simp(disch:=omega) only[go_sem,zw,zJ,uR,vA,uN,uD,uO,Array.toList,cuV],?_⟩;rw[<-hf];exact .base (.id (zt8 _ _))
theorem zlR{s:Sq}{p:Pi}{b:Bool}{t:Int}{q:List UInt8}{v:Nat}{l:List Mb}{a1:Nat}(h:slT s p b t q= .ok (v,l) a1):l.length<=4/\(∀ x∈l,x.lv.length=384)/\∀ x∈zdZ (v:Int) l,1<=x/\x<=31:=by
 unfold slT at h;split at h
 .rename_i hc;rw[gB]at hc;have hw:wmb s<=4:=by
   have hv:zB s p=true:=by have:=hc.1;unfold zcq at this;rw[gB]at this;exact this.1
   have:=zaz hv;have e:=wQ (a:=s.w) (b:=16) om;unfold wmb;omega
  split at h
  .cases h
  rename_i hb;split at h
  .cases h
  rename_i h5;split at h
  .cases h
  obtain⟨z,a2,h1,h⟩:=Rr.bind_okE h;split at h
  .injection h with h _;injection h with h3 h4;subst h3 h4;obtain⟨e1,e2⟩:=zh7 _ _ _ h1;exact⟨om,zrP _ _ _ h1 om,e2⟩
  .cases h
 .cases h
theorem zoT(n:Nat):∀ r,∀ x∈zkn r,Scoped n x
 | 0=>λx hx=>by cases hx
 | r+1=>λx hx=>by
  rcases uF.1 hx with hx|hx
  .exact zoT n r x hx
  .rw[uX]at hx;rw[hx];exact .tup (zO λx hx=>by
    simp only[gM,gL,uA]at hx;rcases hx with rfl|rfl
    .exact .int _ _
    .exact .int _ _)
end Go.Proofs.YtleejngibkbjnaaGreatDoor.Sc
