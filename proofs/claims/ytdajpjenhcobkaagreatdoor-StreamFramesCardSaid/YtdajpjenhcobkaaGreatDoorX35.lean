/-
  Parts of the proof. No condition.
-/
import Derived.Test.YtdajpjenhcobkaaGreatDoorX34
import Derived.Test.YtdajpjenhcobkaaGreatDoorX27
open Array renaming toList → qI
open List renaming not_mem_nil → qA, mem_cons → qD, mapM_cons → qG, mapM_nil → qH
open Option renaming bind_eq_bind → qB, bind_some → qE, pure_def → qF
set_option linter.all false
set_option maxRecDepth 100000
set_option maxHeartbeats 32000000
namespace Go.Proofs.YtdajpjenhcobkaaGreatDoor.Sc
open Pm Ty Go.RowKit
def zlC(s:Sq)(p:Pi)(b:Bool)(us:List (Int×List UInt8))(k:Nat):Option (Nat×List Mb×List Int):=
 match fnu us k with
 | none=>none
 | some u=>match sqT s p b u.1 u.2 with
  | .ok x _=>some x
  | .er _ _=>none
def cnV:Option (Nat×List Mb×List Int)->PV
 | none=>.tup [ag0,.bool false]
 | some x=>.tup [agS (x.1:Int) x.2.1 x.2.2,.bool true]
theorem zwJ(n:Nat):Scoped n ag0:=.agg (zO λx hx=>by
 simp only[qD,qA,or_false]at hx;rcases hx with rfl|rfl|rfl
 .exact .int _ _
 .exact zr (λx hx=>by cases hx)
 .exact zr (λx hx=>by cases hx))
theorem zwI(n:Nat)(v:Int)(D:List Mb)(qs:List Int):Scoped n (agS v D qs):=.agg (zO λx hx=>by
 simp only[qD,qA,or_false]at hx;rcases hx with rfl|rfl|rfl
 .exact .int _ _
 .exact zr (zeN _ _)
 .exact zr (znr _ _))
theorem zmT(n:Nat):∀ o,Scoped n (cnV o)
 | none=>.tup (zO λx hx=>by
   simp only[qD,qA,or_false]at hx;rcases hx with rfl|rfl
   .exact zwJ n
   .exact .bool _)
 | some u=>.tup (zO λx hx=>by
   simp only[qD,qA,or_false]at hx;rcases hx with rfl|rfl
   .exact zwI _ _ _ _
   .exact .bool _)
def z3:List PV:=[.int .i64 0,.slice [] 0 true,.slice [] 0 true]
theorem zmR(s:Sq)(p:Pi)(U:List (List UInt8))(us:List (Int×List UInt8))(b:Bool)(k:Nat)(H:za)(hs:SqOk s)(hk:k<=1000)(hu:us.length<=1000000)(hul:∀ u∈us,zex u.1/\u.2.length<=100000000):
  CallOk Tryz.prog 52 [.agg (sqc s),.agg (cdc p U us),.bool b,.int .i64 (k:Int)] H (cnV (zlC s p b us k)) H:=by
 have h1:=zah s;have h2:=zax s hs;have h3:=zbD s hs;have c1:=zd7 p U us;have c2:=zeu p U us;have c3:=zsj p U us;have c4:=zsi p U us;have c7:=zsk p U us;have ul:=zlU us;unfold zlC;refine .go Tryz.func52 Tryz.ntmps52 Tryz.results52 ?_;refine .g (nq2 h1 c1) ?_;refine .e ?_;refine .l ?_;suffices hl1:∀ j:Nat,j<=us.length->fnu (us.drop j) k=fnu us k->PL Tryz.prog _ _ [(2,.bool b),(3,.int .i64 (k:Int)),(4,.ptr H.length 0 0),(5,.ptr (H.length+1) 0 0),(8,.ptr (H.length+2) 0 0),(10,.int .i64 (j:Int))] (H++[⟨26,0,sqc s⟩,⟨37,0,cdc p U us⟩,⟨130,0,z3⟩]) _ by exact .at [2,3,4,5,8,10] (hl1 0 om rfl) rfl rfl
 intro j hj hf;induction hd:us.length - j using Nat.strongRecOn generalizing j with
 | _ d ih=>
  refine .round ?_;refine .g (nq2 c7 c2) ?_;refine .c (λh=> ?_) (λh=> ?_)
  .have hjr:j<us.length:=ot h;have ua:=zut us j hjr;have u0:=uq_0 us j hjr;have hmem:us[j]∈us:=List.getElem_mem hjr;rw[zlu us j k hjr]at hf;generalize us[j]=u at *;obtain⟨t,q⟩:=u;have hq:=hul _ hmem;simp only[uq1]at ua;dsimp only at hf;dsimp only at u0;have so:=λK=>zor s p b t q false K hs hq.1 hq.2;refine .skip ?_;refine .b ?_;by_cases htk:t=1+(k:Int)
   .have d1:(t==1+(k:Int))=true:=by rw[beq_iff_eq];exact htk
    rw[if_pos htk]at hf;refine .g (nq2 c7 (nq2 c2 (nq2 u0 (nq2 ul d1)))) ?_;refine .t ?_;(repeat refine .seq ?_);refine .view (Vs.place 130) ?_;refine .eq rfl (show _=H++[⟨26,0,sqc s⟩,⟨37,0,cdc p U us⟩,⟨130,0,z3⟩,⟨130,0,[]⟩] by simp) ?_;rw[<-hf];dsimp only;cases hm:sqT s p b t q with
    | er e a1=>
     rw[hm]at so;simp only[rvQ,ag0,ecd]at so;have d0:((e:Int)+1==0)=false:=by rw[beq_eq_false_iff_ne];omega
     (repeat refine .seq ?_);refine .drawi [H.length+3] [(11,[0])] [(11,0)] [39] mix kr (by simp<;>omega) λK hK=> ?_;refine sqx (nq2 h2 (nq2 h3 (nq2 c2 (nq2 c3 (nq2 c7 (nq2 ua ul)))))) ?_;refine VCj.read (λ_ _=>so _) rfl ?_;refine sqz ?_;refine hK _ _ ?_;clear hK K;refine .f (λK k=>by simp(maxSteps:=3000000) (disch:=omega) only[go_sem,d0,z3];exact k) ?_;refine .ret ⟨cnV none,by simp(maxSteps:=3000000) (disch:=omega) only[go_sem,zk,zo,qG,qH,qF,qB,qE,qI,cnV,ag0],?_⟩;exact .base (.id (zmT _ _))
    | ok x a1=>rw[hm]at so;simp only[rvQ,agS]at so;(repeat refine .seq ?_);refine .drawi [H.length+3] [(11,[0])] [(11,0)] [39] mix kr (by simp<;>omega) λK hK=> ?_;refine sqx (nq2 h2 (nq2 h3 (nq2 c2 (nq2 c3 (nq2 c7 (nq2 ua ul)))))) ?_;refine VCj.read (λ_ _=>so _) rfl ?_;refine sqz ?_;refine hK _ _ ?_;clear hK K;refine .f (λK k=>by simp(maxSteps:=3000000) (disch:=omega) only[go_sem,z3];exact k) ?_;refine .ret ⟨cnV (some x),by simp(maxSteps:=3000000) (disch:=omega) only[go_sem,zk,zo,qG,qH,qF,qB,qE,qI,cnV,agS],?_⟩;exact .base (.id (zmT _ _))
   .have d1:(t==1+(k:Int))=false:=by rw[beq_eq_false_iff_ne];exact htk
    rw[if_neg htk]at hf;refine .g (nq2 c7 (nq2 c2 (nq2 u0 (nq2 ul d1)))) ?_;refine .us ?_;refine .e ?_;exact .at [2,3,4,5,8,10] (ih (us.length - (j+1)) om (j+1) om hf rfl) rfl rfl
  .have hjr:j=us.length:=ofF h;subst hjr;rw[List.drop_length]at hf;rw[<-hf];refine .exit ?_;refine .f (λK k=>by simp(maxSteps:=3000000) (disch:=omega) only[go_sem,z3];exact k) ?_;refine .ret ⟨cnV none,by simp(maxSteps:=3000000) (disch:=omega) only[go_sem,zk,zo,qG,qH,qF,qB,qE,qI,cnV,ag0],?_⟩;exact .base (.id (zmT _ _))
theorem zxq(l:List Int)(j:Nat)(h:j<l.length):(qC l)[j]? =some (.int .i64 l[j]):=by unfold qC;rw[List.getElem?_map,List.getElem?_eq_getElem h];rfl
theorem zp2{c:Cx}{q:List UInt8}{n:Nat}:∀(r:Nat) (s:St) (a:Nat),sqL c q n r s a=(slL c q n r s a).bind λz a=>.ok (z.1,zdJ s.q z.1) a
 | 0,s,a=>rfl
 | r+1,s,a=>by
  unfold sqL slL;cases hm:zdp c s q n a with
  | er e a1=>rfl
  | ok y a1=>
   obtain⟨e1,_⟩:=zrc hm;simp only[Rr.bind_ok];rw[zp2 r y.2 a1];cases slL c q n r y.2 a1 with
   | er e a2=>rfl
   | ok z a2=>simp only[Rr.bind,zdJ];rw[<-e1]
theorem zp1(s:Sq)(p:Pi)(b:Bool)(t:Int)(q:List UInt8):sqT s p b t q=(slT s p b t q).bind λx a=>.ok (x.1,x.2,zdJ (x.1:Int) x.2) a:=by
 unfold sqT slT;split
 .split
  .rfl
  .split
   .rfl
   .split
    .rfl
    .rw[zp2];cases slL (cxP s p b) q (nb q) (wmb s) (st0 (vl q 0 5:Int)) 5 with
     | er e a=>rfl
     | ok z a=>simp only[Rr.bind];split<;>rfl
 .rfl
theorem zkI:∀(q:Int) (l:List Mb),(zdJ q l).length=l.length
 | _,[]=>rfl
 | q,m::r=>by simp[zdJ,zkI (q+m.dl) r]
end Go.Proofs.YtdajpjenhcobkaaGreatDoor.Sc
