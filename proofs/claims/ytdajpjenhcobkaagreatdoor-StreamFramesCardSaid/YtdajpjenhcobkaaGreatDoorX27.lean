/-
  Parts of the proof. No condition.
-/
import Derived.Test.YtdajpjenhcobkaaGreatDoorX24
import Derived.Test.YtdajpjenhcobkaaGreatDoorX26
open List renaming not_mem_nil → qA, mem_cons → qB
open Option renaming bind_eq_bind → qD
set_option linter.all false
set_option maxRecDepth 100000
set_option maxHeartbeats 32000000
namespace Go.Proofs.YtdajpjenhcobkaaGreatDoor.Sc
open Pm Ty Go.RowKit
def fnu:List (Int×List UInt8)->Nat->Option (Int×List UInt8)
 | [],_=>none
 | u::r,k=>if u.1=1+(k:Int)then some u else fnu r k
theorem znQ:∀{us:List (Int×List UInt8)} {k:Nat} {u:Int×List UInt8},fnu us k=some u->u∈us/\u.1=1+(k:Int)
 | x::r,k,u,h=>by
  unfold fnu at h;split at h
  .injection h with h;rw[<-h];exact⟨List.mem_cons_self ..,by assumption⟩
  .have:=znQ h;exact⟨List.mem_cons_of_mem _ this.1,this.2⟩
theorem zlu(us:List (Int×List UInt8))(j k:Nat)(hj:j<us.length):fnu (us.drop j) k=if us[j].1=1+(k:Int)then some us[j]else fnu (us.drop (j+1)) k:=by rw[List.drop_eq_getElem_cons hj];rfl
def cuV:Option (Int×List UInt8)->PV
 | none=>.tup [.agg [.int .i64 0,.slice [] 0 true],.bool false]
 | some u=>.tup [.agg [.int .i64 u.1,.slice (bs u.2) u.2.length false],.bool true]
theorem zsb(n:Nat):∀ o,Scoped n (cuV o)
 | none=>.tup (zO λx hx=>by
   simp only[qB,qA,or_false]at hx;rcases hx with rfl|rfl
   .exact .agg (zO λx hx=>by
     simp only[qB,qA,or_false]at hx;rcases hx with rfl|rfl
     .exact .int _ _
     .exact zr (λx hx=>by cases hx))
   .exact .bool _)
 | some u=>.tup (zO λx hx=>by
   simp only[qB,qA,or_false]at hx;rcases hx with rfl|rfl
   .exact .agg (zO λx hx=>by
     simp only[qB,qA,or_false]at hx;rcases hx with rfl|rfl
     .exact .int _ _
     .exact zr (zh _ _))
   .exact .bool _)
theorem zsd(p:Pi)(U:List (List UInt8))(us:List (Int×List UInt8))(i r k:Nat)(H:za)(hi:H[i]? =some (mpB r))(hk:k<r)(hu:us.length<=1000000):
  CallOk Tryz.prog 36 [.agg (cdc p U us),.mp i 0,.int .i64 (k:Int)] H (cuV (fnu us k)) H:=by
 have h1:=zd7 p U us;have h7:=zsk p U us;have h8:=zeu p U us;have ul:=zlU us;have il:=(List.getElem?_eq_some_iff.1 hi).1;unfold mpB at hi;have gi:∀ K,(H++K)[i]? =some ⟨91,0,zjt r⟩:=λK=>by rw[List.getElem?_append_left il];exact hi
 have hsc:HSc H->HSc (H++[⟨37,0,cdc p U us⟩,⟨55,0,[.int .i64 0,.slice [] 0 true]⟩]):=zh0 (λb hb x hx=>by
  simp only[qB,qA,or_false]at hb;rcases hb with rfl|rfl
  .exact zid _ _ _ _ x hx
  .simp only[qB,qA,or_false]at hx;rcases hx with rfl|rfl
   .exact .int _ _
   .exact zr (λx hx=>by cases hx))
 have fz:∀(j:Nat) (F:Fr) (K:za),slot F 1= .mp i 0->slot F 2= .int .i64 (k:Int)->slot F 6= .ptr (H.length+1) 0 0->slot F 13= .slice (uq us) us.length false->slot F 14= .int .i64 (us.length:Int)->slot F 15= .int .i64 (j:Int)->FzF (H++[⟨37,0,cdc p U us⟩,⟨55,0,[.int .i64 0,.slice [] 0 true]⟩]:za).length K F [(1,.mp i 0),(2,.int .i64 (k:Int)),(6,.ptr (H.length+1) 0 0),(13,.slice (uq us) us.length false),(14,.int .i64 (us.length:Int)),(15,.int .i64 (j:Int))]:=λj F K q1 q2 q3 q4 q5 q6=>by
  refine⟨?_,?_,?_,?_,?_,?_,trivial⟩
  .rw[q1];exact .id (.mp (by simp;omega))
  .rw[q2];exact .id (.int _ _)
  .rw[q3];exact .id (.ptr sp)
  .rw[q4];exact .id (zr (zus _ _))
  .rw[q5];exact .id (.int _ _)
  .rw[q6];exact .id (.int _ _)
 refine .go Tryz.func36 Tryz.ntmps36 Tryz.results36 ?_;refine .g h1 ?_;refine .g (nq2 h7 h8) ?_;refine .l ?_;suffices hl1:∀ j:Nat,j<=us.length->fnu (us.drop j) k=fnu us k->PL Tryz.prog _ _ [(1,.mp i 0),(2,.int .i64 (k:Int)),(6,.ptr (H.length+1) 0 0),(13,.slice (uq us) us.length false),(14,.int .i64 (us.length:Int)),(15,.int .i64 (j:Int))] (H++[⟨37,0,cdc p U us⟩,⟨55,0,[.int .i64 0,.slice [] 0 true]⟩]) _ by exact .at [1,2,6,13,14,15] (hl1 0 om rfl) rfl rfl
 intro j hj hf;induction hd:us.length - j using Nat.strongRecOn generalizing j with
 | _ d ih=>
  refine .round ?_;refine .e ?_;refine .c (λh=> ?_) (λh=> ?_)
  .have hjr:j<us.length:=ot h;have ua:=zut us j hjr;rw[zlu us j k hjr]at hf;generalize us[j]=u at *;obtain⟨t,q⟩:=u;simp only[uq1]at ua;dsimp only at hf;refine .skip ?_;refine .b ?_;refine .g (nq2 ua ul) ?_;obtain⟨m1,m2⟩:=zfS t r;have done:∀ F,slot F 6= .ptr (H.length+1) 0 0->True:=λ_ _=>trivial;by_cases hin:1<=t/\t<1+(r:Int)
   .obtain⟨pp,hp⟩:=m1 hin;refine .f (λK k=>by simp(disch:=omega) only[go_sem,gi,hp,zdE,zaL,zcX,zpo];exact k) ?_;by_cases htk:t=1+(k:Int)
    .have d1:(t - 1==(k:Int))=true:=by rw[beq_iff_eq];omega
     rw[if_pos htk]at hf;refine .g d1 ?_;refine .t ?_;refine .e ?_;refine .ret ⟨cuV (some (t,q)),by simp(disch:=omega) only[go_sem,zk,zo,List.mapM_cons,List.mapM_nil,Option.pure_def,qD,Option.bind_some,Array.toList,cuV],?_⟩;rw[<-hf];exact .base (.id (zsb _ _))
    .have d1:(t - 1==(k:Int))=false:=by rw[beq_eq_false_iff_ne];omega
     rw[if_neg htk]at hf;refine .g d1 ?_;refine .us ?_;refine .e ?_;exact .view (Vs.trim (F1:=[(1,.mp i 0),(2,.int .i64 (k:Int)),(6,.ptr (H.length+1) 0 0),(13,.slice (uq us) us.length false),(14,.int .i64 (us.length:Int)),(15,.int .i64 ((j+1:Nat):Int))]) (H1:=H++[⟨37,0,cdc p U us⟩,⟨55,0,[.int .i64 0,.slice [] 0 true]⟩]) hsc sp (List.append_assoc _ [_,_] [_]).symm (fz (j+1) _ _ rfl rfl rfl rfl rfl rfl)) (ih (us.length - (j+1)) om (j+1) om hf rfl)
   .have hp:=m2 hin;rw[if_neg om]at hf;refine .f (λK k=>by simp(disch:=omega) only[go_sem,gi,hp,zdE,zaL,zcX,zpo];exact k) ?_;refine .e ?_;refine .us ?_;refine .e ?_;exact .view (Vs.trim (F1:=[(1,.mp i 0),(2,.int .i64 (k:Int)),(6,.ptr (H.length+1) 0 0),(13,.slice (uq us) us.length false),(14,.int .i64 (us.length:Int)),(15,.int .i64 ((j+1:Nat):Int))]) (H1:=H++[⟨37,0,cdc p U us⟩,⟨55,0,[.int .i64 0,.slice [] 0 true]⟩]) hsc sp (List.append_assoc _ [_,_] [_]).symm (fz (j+1) _ _ rfl rfl rfl rfl rfl rfl)) (ih (us.length - (j+1)) om (j+1) om hf rfl)
  .have hjr:j=us.length:=ofF h;subst hjr;rw[List.drop_length]at hf;refine .exit ?_;refine .e ?_;refine .ret ⟨cuV none,by simp(disch:=omega) only[go_sem,zk,zo,List.mapM_cons,List.mapM_nil,Option.pure_def,qD,Option.bind_some,Array.toList,cuV],?_⟩;rw[<-hf];exact .base (.id (zsb _ _))
theorem zkL{s:Sq}{p:Pi}{b:Bool}{t:Int}{q:List UInt8}{v:Nat}{l:List Mb}{a1:Nat}(h:slT s p b t q= .ok (v,l) a1):l.length<=4/\(∀ x∈l,x.lv.length=384)/\∀ x∈zdJ (v:Int) l,1<=x/\x<=31:=by
 unfold slT at h;split at h
 .rename_i hc;rw[Bool.and_eq_true]at hc;have hw:wmb s<=4:=by
   have hv:zP s p=true:=by have:=hc.1;unfold zci at this;rw[Bool.and_eq_true]at this;exact this.1
   have:=zaC hv;have e:=Int.tdiv_eq_ediv_of_nonneg (a:=s.w) (b:=16) om;unfold wmb;omega
  split at h
  .cases h
  rename_i hb;split at h
  .cases h
  rename_i h5;split at h
  .cases h
  obtain⟨z,a2,h1,h⟩:=Rr.bind_okE h;split at h
  .injection h with h _;injection h with h3 h4;subst h3 h4;obtain⟨e1,e2⟩:=zhv _ _ _ h1;exact⟨om,zp5 _ _ _ h1 om,e2⟩
  .cases h
 .cases h
theorem znp(n:Nat):∀ r,∀ x∈zjt r,Scoped n x
 | 0=>λx hx=>by cases hx
 | r+1=>λx hx=>by
  rcases List.mem_append.1 hx with hx|hx
  .exact znp n r x hx
  .rw[List.mem_singleton]at hx;rw[hx];exact .tup (zO λx hx=>by
    simp only[qB,qA,or_false]at hx;rcases hx with rfl|rfl
    .exact .int _ _
    .exact .int _ _)
end Go.Proofs.YtdajpjenhcobkaaGreatDoor.Sc
