/-
  Parts of the proof. No condition.
-/
import Derived.Test.YtleejngibkbjnaaGreatDoorW28
import Derived.Test.YtleejngibkbjnaaGreatDoorW24
open Array renaming toList → qA
set_option linter.all false
set_option maxRecDepth 100000
set_option maxHeartbeats 32000000
namespace Go.Proofs.YtleejngibkbjnaaGreatDoor.Sc
open Pm Ty Go.RowKit
def zmV(s:Sq)(p:Pi)(b:Bool)(us:List (Int×List UInt8))(k:Nat):Option (Nat×List Mb×List Int):=
 match fnu us k with
 | none=>none
 | some u=>match sqT s p b u.1 u.2 with
  | .ok x _=>some x
  | .er _ _=>none
def cnV:Option (Nat×List Mb×List Int)->PV
 | none=>.tup [ag0,.bool false]
 | some x=>.tup [agS (x.1:Int) x.2.1 x.2.2,.bool true]
theorem zzc(n:Nat):Scoped n ag0:=.agg (zO λx hx=>by
 simp only[gM,gL,uA]at hx;rcases hx with rfl|rfl|rfl
 .exact .int _ _
 .exact zk (λx hx=>by cases hx)
 .exact zk (λx hx=>by cases hx))
theorem zzb(n:Nat)(v:Int)(D:List Mb)(qs:List Int):Scoped n (agS v D qs):=.agg (zO λx hx=>by
 simp only[gM,gL,uA]at hx;rcases hx with rfl|rfl|rfl
 .exact .int _ _
 .exact zk (zfg _ _)
 .exact zk (zoX _ _))
theorem zoh(n:Nat):∀ o,Scoped n (cnV o)
 | none=>.tup (zO λx hx=>by
   simp only[gM,gL,uA]at hx;rcases hx with rfl|rfl
   .exact zzc n
   .exact .bool _)
 | some u=>.tup (zO λx hx=>by
   simp only[gM,gL,uA]at hx;rcases hx with rfl|rfl
   .exact zzb _ _ _ _
   .exact .bool _)
def z3:List PV:=[.int .i64 0,.slice [] 0 true,.slice [] 0 true]
theorem zod(s:Sq)(p:Pi)(U:List (List UInt8))(us:List (Int×List UInt8))(b:Bool)(k:Nat)(H:za)(hs:SqOk s)(hk:k<=1000)(hu:us.length<=1000000)(hul:∀ u∈us,zgD u.1/\u.2.length<=100000000):
  CallOk Tryz.prog 109 [.agg (sqc s),.agg (cdc p U us),.bool b,.int .i64 (k:Int)] H (cnV (zmV s p b us k)) H:=by
 have h1:=zab s;have h2:=zaj s hs;have h3:=zbu s hs;have c1:=zex p U us;have c2:=ze0 p U us;have c3:=zui p U us;have c4:=zuh p U us;have c7:=zuj p U us;have ul:=zne us;unfold zmV;refine .go Tryz.func109 Tryz.ntmps109 Tryz.results109 ?_;refine .g (nq2 h1 c1) ?_;refine .e (.l ?_);suffices hl1:∀ j:Nat,j<=us.length->fnu (us.drop j) k=fnu us k->PL Tryz.prog _ _ [(2,.bool b),(3,.int .i64 (k:Int)),(4,.ptr H.length 0 0),(5,.ptr (H.length+1) 0 0),(8,.ptr (H.length+2) 0 0),(10,.int .i64 (j:Int))] (H++[⟨37,0,sqc s⟩,⟨45,0,cdc p U us⟩,⟨210,0,z3⟩]) _ by exact .a (hl1 0 om rfl)
 intro j hj hf;induction hd:us.length - j using Nat.strongRecOn generalizing j with
 | _ d ih=>
  refine .round (.g (nq2 c7 c2) ?_);refine .c (λh=> ?_) (λh=> ?_)
  .have hjr:j<us.length:=ot h;have ua:=zwG us j hjr;have u0:=uq_0 us j hjr;have hmem:us[j]∈us:=uY hjr;rw[zmL us j k hjr]at hf;generalize us[j]=u at *;obtain⟨t,q⟩:=u;have hq:=hul _ hmem;simp only[uq1]at ua;dsimp only at hf;dsimp only at u0;have so:=λK=>zp4 s p b t q false K hs hq.1 hq.2;refine .skip (.b ?_);by_cases htk:t=1+(k:Int)
   .have d1:(t==1+(k:Int))=true:=by rw[wH];exact htk
    rw[gD htk]at hf;refine .g (nq2 c7 (nq2 c2 (nq2 u0 (nq2 ul d1)))) ?_;refine .t ?_;(repeat refine .seq ?_);refine .view (Vs.place 210) ?_;refine .eq rfl (show _=H++[⟨37,0,sqc s⟩,⟨45,0,cdc p U us⟩,⟨210,0,z3⟩,⟨210,0,[]⟩] by simp) ?_;rw[<-hf];dsimp only;cases hm:sqT s p b t q with
    | er e a1=>
     rw[hm]at so;simp only[rvQ,ag0,ecd]at so;have d0:((e:Int)+1==0)=false:=by rw[wS];omega
     refine .y [H.length+3] [(11,[0])] [(11,0)] [39] λK hK=> ?_;refine sqx (nq2 h2 (nq2 h3 (nq2 c2 (nq2 c3 (nq2 c7 (nq2 ua ul)))))) ?_;refine VCj.read (λ_ _=>so _) rfl ?_;refine sqz ?_;refine hK _ _ ?_;clear hK K;refine .g (nq2 d0 @z3.eq_1) ?_;refine .ret ⟨cnV none,by simp(maxSteps:=9^9) (disch:=omega) only[go_sem,zw,zJ,uR,vA,uN,uD,uO,qA,cnV,ag0],?_⟩;exact .base (.id (zoh _ _))
    | ok x a1=>rw[hm]at so;simp only[rvQ,agS]at so;refine .y [H.length+3] [(11,[0])] [(11,0)] [39] λK hK=> ?_;refine sqx (nq2 h2 (nq2 h3 (nq2 c2 (nq2 c3 (nq2 c7 (nq2 ua ul)))))) ?_;refine VCj.read (λ_ _=>so _) rfl ?_;refine sqz ?_;refine hK _ _ ?_;clear hK K;refine .g @z3.eq_1 ?_;refine .ret ⟨cnV (some x),by simp(maxSteps:=9^9) (disch:=omega) only[go_sem,zw,zJ,uR,vA,uN,uD,uO,qA,cnV,agS],?_⟩;exact .base (.id (zoh _ _))
   .have d1:(t==1+(k:Int))=false:=by rw[wS];exact htk
    rw[gC htk]at hf;refine .g (nq2 c7 (nq2 c2 (nq2 u0 (nq2 ul d1)))) ?_;refine .us (.e ?_);exact .a (ih (us.length - (j+1)) om (j+1) om hf rfl)
  .have hjr:j=us.length:=ofF h;subst hjr;rw[wW]at hf;rw[<-hf];refine .exit (.g @z3.eq_1 ?_);refine .ret ⟨cnV none,by simp(maxSteps:=9^9) (disch:=omega) only[go_sem,zw,zJ,uR,vA,uN,uD,uO,qA,cnV,ag0],?_⟩;exact .base (.id (zoh _ _))
theorem zzZ(l:List Int)(j:Nat)(h:j<l.length):(qC l)[j]? =some (.int .i64 l[j]):=by unfold qC;rw[vD,gG h];rfl
theorem zrM{c:Cx}{q:List UInt8}{n:Nat}:∀(r:Nat) (s:St) (a:Nat),sqL c q n r s a=(slL c q n r s a).bind λz a=>.ok (z.1,zdZ s.q z.1) a
 | 0,s,a=>rfl
 | r+1,s,a=>by
  unfold sqL slL;cases hm:zdH c s q n a with
  | er e a1=>rfl
  | ok y a1=>
   obtain⟨e1,_⟩:=zsW hm;simp only[Rr.bind_ok];rw[zrM r y.2 a1];cases slL c q n r y.2 a1 with
   | er e a2=>rfl
   | ok z a2=>simp only[Rr.bind,zdZ];rw[<-e1]
theorem zrL(s:Sq)(p:Pi)(b:Bool)(t:Int)(q:List UInt8):sqT s p b t q=(slT s p b t q).bind λx a=>.ok (x.1,x.2,zdZ (x.1:Int) x.2) a:=by
 unfold sqT slT;split
 .split
  .rfl
  .split
   .rfl
   .split
    .rfl
    .rw[zrM];cases slL (cxP s p b) q (nb q) (wmb s) (st0 (vl q 0 5:Int)) 5 with
     | er e a=>rfl
     | ok z a=>simp only[Rr.bind];split<;>rfl
 .rfl
theorem zlO:∀(q:Int) (l:List Mb),(zdZ q l).length=l.length
 | _,[]=>rfl
 | q,m::r=>by simp[zdZ,zlO (q+m.dl) r]
end Go.Proofs.YtleejngibkbjnaaGreatDoor.Sc
