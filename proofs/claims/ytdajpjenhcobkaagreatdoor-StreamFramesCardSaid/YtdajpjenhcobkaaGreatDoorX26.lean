/-
  Parts of the proof. No condition.
-/
import Derived.Test.YtdajpjenhcobkaaGreatDoorX05
import Derived.Test.YtdajpjenhcobkaaGreatDoorX06
set_option linter.all false
set_option maxRecDepth 100000
set_option maxHeartbeats 32000000
namespace Go.Proofs.YtdajpjenhcobkaaGreatDoor.Sc
open Pm Ty Go.RowKit
theorem zhK(d:TypeDesc)(k a v:PV):∀(xs:List PV) (i:Nat),zcc d k (xs++[.tup [a,v]]) i=match zcc d k xs i with
  | some (some r)=>some (some r)
  | some none=>(match zdZ d k a with|some true=>some (some (i+xs.length,v))|some false=>some none|none=>none)
  | none=>none
 | [],i=>by
  simp only[List.nil_append,zcc,List.length_nil,Nat.add_zero];cases zdZ d k a with
  | none=>rfl
  | some t=>cases t<;>rfl
 | x::r,i=>by
  rw[List.cons_append];have ih:=zhK d k a v r (i+1)
  match x with
  | .tup [b,u]=>
   simp only[zcc];cases zdZ d k b with
   | none=>rfl
   | some t=>
    cases t with
    | true=>rfl
    | false=>
     dsimp only;rw[ih,show i+1+r.length=i+(.tup [b,u]::r:List PV).length by simp;omega]
  | .tup []=>rfl
  | .tup [_]=>rfl
  | .tup (_::_::_::_)=>rfl
  | .int _ _=>rfl
  | .bool _=>rfl
  | .str _=>rfl
  | .nilp=>rfl
  | .nl _=>rfl
  | .undef=>rfl
  | .ptr _ _ _=>rfl
  | .ip _ _=>rfl
  | .slice _ _ _=>rfl
  | .msl _ _ _ _ _ _=>rfl
  | .mp _ _=>rfl
  | .agg _=>rfl
  | .func _ _ _=>rfl
  | .yl _ _ _=>rfl
  | .lp _ _=>rfl
theorem zpo:zrT Tryz.prog 3=some (.int .i64 0):=kr
def zjt:Nat->List PV
 | 0=>[]
 | i+1=>zjt i++[.tup [.int .i64 (1+(i:Int)),.int .i64 (i:Int)]]
theorem zfS(t:Int):∀ r:Nat,((1<=t/\t<1+(r:Int))->∃ p,zcc (.int .i64) (.int .i64 t) (zjt r) 0=some (some (p,.int .i64 (t - 1))))/\(¬(1<=t/\t<1+(r:Int))->zcc (.int .i64) (.int .i64 t) (zjt r) 0=some none)
 | 0=>⟨λh=>om,λ_=>rfl⟩
 | r+1=>by
  obtain⟨ih1,ih2⟩:=zfS t r;rw[zjt,zhK];by_cases h:1<=t/\t<1+(r:Int)
  .obtain⟨p,hp⟩:=ih1 h;rw[hp];exact⟨λ_=>⟨p,rfl⟩,λh2=>om⟩
  .rw[ih2 h];by_cases h2:t=1+(r:Int)
   .have:zdZ (.int .i64) (.int .i64 t) (.int .i64 (1+(r:Int)))=some true:=by simp[zdZ,h2]
    rw[this];refine⟨λ_=>⟨0+(zjt r).length,?_⟩,λh3=>om⟩;dsimp only;rw[show t - 1=(r:Int)from om]
   .have:zdZ (.int .i64) (.int .i64 t) (.int .i64 (1+(r:Int)))=some false:=by simp[zdZ,h2]
    rw[this];exact⟨λh3=>om,λ_=>rfl⟩
def mpB(r:Nat):Blk:=⟨91,0,zjt r⟩
theorem zvM(r:Nat)(H:za)(hr:r<=1000):CallOk Tryz.prog 35 [.int .i64 (r:Int)] H (.mp H.length 0) (H++[mpB r]):=by
 refine .go Tryz.func35 Tryz.ntmps35 Tryz.results35 ?_;refine .e ?_;refine .e ?_;refine .e ?_;refine .l ?_;suffices hl1:∀ j:Nat,j<=r->PL Tryz.prog _ _ [(3,.mp H.length 0),(6,.int .i64 (r:Int)),(7,.int .i64 (j:Int))] (H++[⟨91,0,zjt j⟩]) _ by exact .at [3,6,7] (hl1 0 om) rfl rfl
 intro j hj;induction hd:r - j using Nat.strongRecOn generalizing j with
 | _ d ih=>
  refine .round ?_;refine .e ?_;refine .c (λh=> ?_) (λh=> ?_)
  .have hjr:j<r:=ot h;have hp:=(zfS (1+(j:Int)) j).2 om;refine .skip ?_;refine .b ?_;refine .e ?_;refine .f (λK k=>by simp(disch:=omega) only[go_sem,hp,zdD,zaL,zcX];exact k) ?_;refine .e ?_;exact .at [3,6,7] (ih (r - (j+1)) om (j+1) om rfl) rfl rfl
  .have hjr:j=r:=ofF h;subst hjr;refine .exit ?_;refine .e ?_;refine .v (.mp H.length 0) ?_;exact .now
end Go.Proofs.YtdajpjenhcobkaaGreatDoor.Sc
