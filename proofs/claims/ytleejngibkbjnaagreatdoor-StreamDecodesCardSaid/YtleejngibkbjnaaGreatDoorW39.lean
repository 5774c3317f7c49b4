/-
  Parts of the proof. No condition.
-/
import Derived.Test.YtleejngibkbjnaaGreatDoorW04
import Derived.Test.YtleejngibkbjnaaGreatDoorW37
set_option linter.all false
set_option maxRecDepth 100000
set_option maxHeartbeats 32000000
namespace Go.Proofs.YtleejngibkbjnaaGreatDoor.Pm
open Go.RowKit
variable {P:Program} {H:za} {F:Fr}
theorem zeD{all:List Oper}{K K':Fr->za->Prop}(hk:∀ F H,K F H->K' F H):∀(l:List Oper) (F:Fr) (H:za),zbK P all l K F H->zbK P all l K' F H
 | [],F,H,h=>hk _ _ h
 | o::r,F,H,h=>by
  simp only[zbK]at h |-;split at h
  .rename_i b hb;refine⟨λhb'=> ?_,λhb'=>zeD hk r _ _ (h.2 hb')⟩;have h1:=h.1 hb';split at h1
   .obtain⟨R,h2,h3⟩:=h1;exact⟨R,h2,λv H' hR=>zeD hk r _ _ (h3 v H' hR)⟩
   .split at h1
    .exact zeD hk r _ _ h1
    .exact h1.elim
  .exact h.elim
section rules
variable {E:Env} {Q:Exit->Fr->za->Prop}
def YQ(P:Program)(ds:List (Option Nat))(o:Oper)(x:Operand)(xs:Array Operand)(rest:List Oper)(K:Fr->za->Prop):Fr->za->Prop:=λF' H'=>zbq ds F' o=some true/\∃ v H'',YldOk P (ev (slot F') x) (xs.toList.map (ev (slot F'))) H' v H''/\VO P ds rest (some (put F' o.dst v,H'')) K
theorem PW.ry{id:Nat}{ops:Array Oper}(n:Nat){o:Oper}{x:Operand}{xs:Array Operand}{ts:Array TypeId}(hd:ops.toList.all (zT E.N)=true)(hnd:ops.toList.all zaQ=true)(hn:ops.toList.drop n=o::ops.toList.drop (n+1))(ho:o.op= .call ⟨.value x,xs,ts⟩)
  (h:∀ K:Fr->za->Prop,(∀ F' H',Q .normal F' H'->K F' H')->VO P (ops.toList.map (·.dst)) (ops.toList.take n) (some (F,H)) (YQ P (ops.toList.map (·.dst)) o x xs (ops.toList.drop (n+1)) K)):
  PW P E (.region id ops false) F H Q:=by
 refine .region_y n hd hnd (zeD ?_ _ _ _ (zav _ _ _ (h _ λ_ _ h=>h)));rintro F' H' ⟨h1,v,H'',h2,h3⟩;exact⟨o,ops.toList.drop (n+1),x,xs,ts,v,H'',hn,zY _ _ _ h1,ho,h2,zav _ _ _ h3⟩
theorem PWr.rg{l id:Nat}{ops:Array Oper}(hd:ops.toList.all (zT E.N)=true)(hn:ops.toList.all zaQ=true)(lo:∀ F H,¬ Q .outgrown F H)(h:∀ K:Fr->za->Prop,(∀ F' H',Q .normal F' H'->K F' H')->VO P (ops.toList.map (·.dst)) ops.toList (some (F,H)) K):
  PWr P E l (.region id ops false) F H Q:=PWr.region hd hn lo (zav _ _ _ (h _ λ_ _ h=>h))
theorem PWr.at{l:Nat}{c:Code}{F2:Fr}{H2:za}(ks:List Nat)(h:PWr P E l c F2 H2 Q)(hF:kp ks F=F2)(hH:H=H2):PWr P E l c F H Q:=PWr.keep ks (by rw[hF,hH];exact h)
theorem PWr.mono{l:Nat}{c:Code}{Q':Exit->Fr->za->Prop}(h:PWr P E l c F H Q)(hq:∀ e F H,Q e F H->Q' e F H):PWr P E l c F H Q':=λhs C a w hd hw hf=>wpIn_mono (h hs C a w hd hw hf) λ_ _ _ ⟨C',F',H',q1,q2,q3,q4,q5,q6⟩=>⟨C',F',H',q1,q2,q3,q4,q5,hq _ _ _ q6⟩
theorem PWr.seq_to{l:Nat}{x y:Code}(ks:List Nat)(F1:Fr)(H1:za)(hx:PWr P E l x F H (zhV (λF' H'=>kp ks F'=F1/\H'=H1) Q))(hy:PWr P E l y F1 H1 Q):PWr P E l (.seq x y) F H Q:=
 PWr.seq (hx.mono λe F' H' hq=>by
  cases e with
  | normal=>obtain⟨h1,h2⟩:=hq;subst h1;subst h2;exact hy.keep ks
  | _=>exact hq)
end rules
section rules
variable {E:Env} {D:List Deferred} {Q:Exit->List Deferred->Fr->za->Prop}
theorem PWM.rg{id:Nat}{ops:Array Oper}(hd:ops.toList.all (zT E.N)=true)(hn:ops.toList.all zaQ=true)(h:∀ K:Fr->za->Prop,(∀ F' H',Q .normal D F' H'->K F' H')->VO P (ops.toList.map (·.dst)) ops.toList (some (F,H)) K):
  PWM P E (.region id ops false) D F H Q:=PWM.region hd hn (zav _ _ _ (h _ λ_ _ h=>h))
theorem PWM.at{c:Code}{F2:Fr}{H2:za}(ks:List Nat)(h:PWM P E c D F2 H2 Q)(hF:kp ks F=F2)(hH:H=H2):PWM P E c D F H Q:=PWM.keep ks (by rw[hF,hH];exact h)
theorem PWM.view{c:Code}{F2:Fr}{H2:za}(hv:Vs E F H F2 H2)(h:PWM P E c D F2 H2 Q):PWM P E c D F H Q:=λhs C a w hd hw hf=>by obtain⟨C2,g1,g2,g3⟩:=hv hs C a w hw hf;exact wpIn_mono (h hs C2 a w hd g2 g3) λ_ _ _ hp=>hp.trans g1 (.refl _ _)
end rules
end Go.Proofs.YtleejngibkbjnaaGreatDoor.Pm
