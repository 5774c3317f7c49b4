/-
  Parts of the proof, put together in one text. No condition.
-/
import Derived.Test.YtpjlfoficnpfoaaGreatDoorV16
open Bool renaming and_eq_true → qB, not_eq_true' → qE, true_and → qH, false_and → qJ, or_eq_true → qU, and_eq_false_iff → jC
open Int renaming toNat_natCast → qF
open List renaming getElem?_eq_getElem → qA, getElem?_eq_some_iff → qC, take_of_length_le → qD, mem_of_getElem? → qI, getElem?_of_mem → qK, take → qM, getElem_mem → qN, getElem?_eq_none → qP, drop_eq_nil_iff → qQ, all_eq_true → qS, getElem?_drop → qV, flatMap_cons → qW, not_mem_nil → qX, drop_length → qY, drop_eq_getElem_cons → qZ, mem_cons → jA, mem_map → jB, mem_of_mem_drop → jD, mem_cons_of_mem → jE, getElem?_modify → jF
open Nat renaming strongRecOn → qG, le_refl → qL, add_zero → qO, zero_le → qR, lt_or_ge → qT
namespace Go.Proofs.YtpjlfoficnpfoaaGreatDoor.Sc
set_option linter.all false
open Pm Ty Go.RowKit
def zdc(out:List En)(p:Int):Prop:=∃ e∈out,e.f=p∨e.l=p
theorem zfZ(out:List En)(e:En)(p:Int):zdc (out++[e]) p↔zdc out p∨(e.f=p∨e.l=p):=by
 unfold zdc;constructor
 ·rintro⟨x,hx,h⟩;rcases List.mem_append.1 hx with hx|hx
  ·exact .inl ⟨x,hx,h⟩
  ·rw[List.mem_singleton]at hx;subst hx;exact .inr h
 ·rintro(⟨x,hx,h⟩|h)
  ·exact⟨x,List.mem_append_left _ hx,h⟩
  ·exact⟨e,by simp,h⟩
theorem zhR(out:List En)(k:Nat)(v p:Int):zdc (out.modify k (zcB v)) p↔zdc out p:=by
 unfold zdc;constructor
 ·rintro⟨x,hx,h⟩;obtain⟨j,hj⟩:=qK hx;rw[jF]at hj;cases hy:out[j]? with
  | none=>rw[hy]at hj;cases hj
  | some y=>rw[hy]at hj;have hj:(if k=j then zcB v y else y)=x:=Option.some.inj hj;refine⟨y,qI hy,?_⟩;split at hj<;>(rw[←hj]at h;exact h)
 ·rintro⟨x,hx,h⟩;obtain⟨j,hj⟩:=qK hx;refine⟨if k=j then zcB v x else x,qI (i:=j) ?_,by split<;>exact h⟩;rw[jF,hj];rfl
structure SkI(L:List It)(w:Wk)(i:Nat):Prop where
 sk:w.sk=false↔∀(p:Nat) (x:It),p<i→L[p]? =some x→x.k=3→(p:Int)=w.op∨zdc w.out p
 op:w.op= -1∨∃(o:Nat) (x:It),w.op=(o:Int)∧o<i∧L[o]? =some x∧x.k=3∧¬ zdc w.out o
 lt:∀ p:Int,zdc w.out p→p<i
theorem SkI.disp{L:List It}{w:Wk}{i:Nat}(h:SkI L w i):SkI L w.disp i:=by
 unfold Wk.disp;split
 ·refine⟨?_,?_,?_⟩
  ·show w.sk=false↔∀(p:Nat) (x:It),p<i→L[p]? =some x→x.k=3→(p:Int)=w.op∨zdc (w.out.modify w.new.toNat (zcB w.sh)) p;simp only[zhR];exact h.sk
  ·show w.op= -1∨∃(o:Nat) (x:It),w.op=(o:Int)∧o<i∧L[o]? =some x∧x.k=3∧¬ zdc (w.out.modify w.new.toNat (zcB w.sh)) o;simp only[zhR];exact h.op
  ·show ∀ p:Int,zdc (w.out.modify w.new.toNat (zcB w.sh)) p→p<i;simp only[zhR];exact h.lt
 ·exact h
theorem SkI.reset{L:List It}{w:Wk}{i:Nat}(h:SkI L w i):SkI L w.reset i:=by have g:=h.disp;exact⟨g.sk,g.op,g.lt⟩
theorem SkI.drop{L:List It}{w:Wk}{i:Nat}(h:SkI L w i):SkI L w.drop i:=by
 have hs:=h.sk;refine⟨?_,.inl rfl,h.lt⟩;show(w.sk||decide (0≤w.op))=false↔∀(p:Nat) (x:It),p<i→L[p]? =some x→x.k=3→(p:Int)= -1∨zdc w.out p;rw[Bool.or_eq_false_iff,decide_eq_false_iff_not,hs];rcases h.op with ho|⟨o,y,ho,h1,h2,h3,h4⟩
 ·rw[ho];exact⟨fun g=>g.1,fun g=>⟨g,om⟩⟩
 ·rw[ho];exact⟨fun g=>absurd (Int.natCast_nonneg o) g.2,fun g=>by
   rcases g o y h1 h2 h3 with h5|h5
   ·omega
   ·exact absurd h5 h4⟩
theorem SkI.next{L:List It}{w:Wk}{i:Nat}{x:It}(h:SkI L w i)(hx:L[i]? =some x)(hk:x.k≠3):SkI L w (i+1):=by
 refine⟨h.sk.trans ⟨fun g p y hp hy k3=> ?_,fun g p y hp hy k3=>g p y om hy k3⟩,?_,fun p hp=>by have:=h.lt p hp;omega⟩
 ·by_cases e:p=i
  ·subst e;rw[hx]at hy;injection hy with hy;rw[hy]at hk;exact absurd k3 hk
  ·exact g p y om hy k3
 ·rcases h.op with ho|⟨o,y,ho,h1,h2⟩
  ·exact .inl ho
  ·exact .inr ⟨o,y,ho,om,h2⟩
theorem SkI.same{L:List It}{w v:Wk}{i:Nat}(h:SkI L w i)(h1:v.sk=w.sk)(h2:v.op=w.op)(h3:v.out=w.out):SkI L v i:=⟨by rw[h1,h2,h3];exact h.sk,by rw[h2,h3];exact h.op,by rw[h3];exact h.lt⟩
theorem SkI.skip{L:List It}{w:Wk}{i:Nat}{x:It}(h:SkI L w i)(hx:L[i]? =some x)(hk:x.k=3)(ho:w.op= -1):SkI L { w with sk:=true } (i+1):=by
 refine⟨⟨fun e=>(by cases e),fun g=> ?_⟩,.inl ho,fun p hp=>by have:=h.lt p hp;omega⟩;rcases g i x om hx hk with h1|h1
 ·have h1:(i:Int)=w.op:=h1;omega
 ·have:=h.lt _ h1;omega
theorem SkI.frame{L:List It}{w:Wk}{i:Nat}{x:It}(hx:L[i]? =some x)(hk:x.k=3)(f:Int)(ty:Int)(hop:w.op= -1)(hf:f≤i)(hlt:∀ p:Int,zdc w.out p→p<i)
  (hs:w.sk=false↔∀(p:Nat) (x:It),p<i→L[p]? =some x→x.k=3→(p:Int)=f∨zdc w.out p):SkI L (w.frame f i ty) (i+1):=by
 have no:SkI L { w with sk:=true } (i+1):=by
  refine⟨⟨fun e=>(by cases e),fun g=> ?_⟩,.inl hop,fun p hp=>by have:=hlt p hp;omega⟩;rcases g i x om hx hk with h1|h1
  ·have h1:(i:Int)=w.op:=h1;omega
  ·have:=hlt _ h1;omega
 have yes:∀ e:En,e.f=f→e.l=(i:Int)→SkI L { w with out:=w.out++[e] } (i+1):=fun e e1 e2=>by
  refine⟨?_,.inl hop,fun p hp=> ?_⟩
  ·show w.sk=false↔∀(p:Nat) (x:It),p<i+1→L[p]? =some x→x.k=3→(p:Int)=w.op∨zdc (w.out++[e]) p;rw[hs];constructor
   ·intro g p y hp hy k3;rw[zfZ,e1,e2];by_cases hpi:p=i
    ·exact .inr (.inr (.inr om))
    ·rcases g p y om hy k3 with h1|h1
     ·exact .inr (.inr (.inl h1.symm))
     ·exact .inr (.inl h1)
   ·intro g p y hp hy k3;rcases g p y om hy k3 with h1|h1
    ·omega
    ·rw[zfZ,e1,e2]at h1;rcases h1 with h1|h1|h1
     ·exact .inr h1
     ·exact .inl h1.symm
     ·omega
  ·rw[zfZ,e1,e2]at hp;rcases hp with h1|h1|h1
   ·have:=hlt p h1;omega
   ·omega
   ·omega
 unfold Wk.frame;split
 ·split
  ·exact no
  ·exact(yes ⟨f,i,ty,w.old,w.new,w.sh⟩ rfl rfl).same rfl rfl rfl
 ·split
  ·exact no
  ·dsimp only;exact((yes ⟨f,i,ty,w.new,-1,0⟩ rfl rfl).disp).same rfl rfl rfl
theorem SkI.step{L:List It}{w:Wk}{i:Nat}{x:It}(h:SkI L w i)(hx:L[i]? =some x):SkI L (w.step L i x) (i+1):=by
 have hd:=h.drop;unfold Wk.step;split
 ·rename_i k3;unfold Wk.picture;dsimp only;split
  ·exact hd.skip hx k3 rfl
  ·split
   ·exact SkI.frame (w:=w.drop) hx k3 i _ rfl (Int.le_refl _) h.lt (hd.sk.trans ⟨fun g p y hp hy k=>by
     rcases g p y hp hy k with h1|h1
     ·have h1:(p:Int)= -1:=h1;omega
     ·exact .inr h1,fun g p y hp hy k=>by
     rcases g p y hp hy k with h1|h1
     ·omega
     ·exact .inr h1⟩)
   ·split
    ·rename_i hp;rw[qB,decide_eq_true_eq]at hp;rcases h.op with ho|⟨o,y,ho,h1,h2,h3,h4⟩
     ·omega
     ·exact SkI.frame (w:={ w with op:= -1 }) hx k3 w.op _ rfl om h.lt h.sk
    ·refine⟨?_,.inr ⟨i,x,rfl,om,hx,k3,fun hc=>by have:=h.lt _ hc;omega⟩,fun p hp=>by have:=h.lt p hp;omega⟩;show w.drop.sk=false↔∀(p:Nat) (x:It),p<i+1→L[p]? =some x→x.k=3→(p:Int)=(i:Int)∨zdc w.out p;refine hd.sk.trans ⟨fun g p y hp hy k=> ?_,fun g p y hp hy k=> ?_⟩
     ·by_cases e:p=i
      ·exact .inl om
      ·rcases g p y om hy k with h1|h1
       ·have h1:(p:Int)= -1:=h1;omega
       ·exact .inr h1
     ·rcases g p y om hy k with h1|h1
      ·omega
      ·exact .inr h1
 ·rename_i k3;have hn:=hd.next hx k3
  split
  ·unfold Wk.seq;split
   ·exact hn.reset.same rfl rfl rfl
   ·exact hn
  ·split
   ·unfold Wk.grp;split
    ·exact hn.reset
    ·split<;>exact hn.same rfl rfl rfl
   ·split
    ·exact hn.reset.same rfl rfl rfl
    ·exact hn
theorem SkI.run{L:List It}:∀(r:List It) (i:Nat) (w:Wk),L.drop i=r→i≤L.length→SkI L w i→SkI L (wkN L w (i:Int) r) L.length
 | [],i,w,hr,hi,h=>by
  have:=qQ.1 hr;rw[show i=L.length from om]at h;exact h
 | x::r,i,w,hr,_,h=>by obtain⟨hi,hx,hr2⟩:=zcg hr;have e:(i:Int)+1=((i+1:Nat):Int):=om;rw[wkN,e];exact SkI.run r (i+1) _ hr2 hi (h.step (by rw[qA hi,hx]))
theorem zib(L:List It):(zaO L).sk=false↔∀(p:Nat) (x:It),L[p]? =some x→x.k=3→∃(j:Nat) (e:Ent),(zaa L)[j]? =some e∧(e.1.f=p∨e.1.l=p):=by
 have h0:SkI L wk0 0:=⟨⟨fun _ p x hp=>absurd hp (Nat.not_lt_zero _),fun _=>rfl⟩,.inl rfl,fun p ⟨e,he,_⟩=>by cases he⟩;have h:=(SkI.run L 0 wk0 rfl (qR _) h0).drop.reset;have hs:(zaO L).sk=false↔_:=h.sk;have hout:(zaO L).out=(zaa L).map (·.1):=(zdZ L).symm;have hcov:∀ p:Int,zdc (zaO L).out p↔∃(j:Nat) (e:Ent),(zaa L)[j]? =some e∧(e.1.f=p∨e.1.l=p):=fun p=>by
  rw[hout];unfold zdc;constructor
  ·rintro⟨x,hx,hp⟩;obtain⟨e,he,rfl⟩:=jB.1 hx;obtain⟨j,hj⟩:=qK he;exact⟨j,e,hj,hp⟩
  ·rintro⟨j,e,hj,hp⟩;exact⟨e.1,jB.2 ⟨e,qI hj,rfl⟩,hp⟩
 refine hs.trans ⟨fun g p x hx k=> ?_,fun g p x hp hx k=>.inr ((hcov p).2 (g p x hx k))⟩;rcases g p x (qC.1 hx).1 hx k with h1|h1
 ·have e:(wkN L wk0 0 L).drop.reset.op= -1:=by show(Wk.disp _).op= -1;rw[(zdb _).2.2.2.2.2.2.1];rfl
  have h1:(p:Int)=(wkN L wk0 0 L).drop.reset.op:=h1;omega
 ·exact(hcov p).1 h1
def zon(L:List It)(i:Nat)(x:It):Bool:=if x.k=1 then decide ((nxI L i).k=2)else if x.k=2 then decide ((nxI L i).k=3)&& !x.gb else if x.k=4 then decide ((nxI L i).k=0)||decide ((nxI L i).k=1)else true
def zht(L:List It):List It→Nat→Bool
 | [],_=>true
 | x::r,i=>zon L i x&&zht L r (i+1)
def zl3(L:List It):Bool:=(match L with|[]=>false|x::_=>decide (x.k=1))&&zht L L 0
def grE(L:List It)(e:En):Int:=grA L (e.f.toNat+1)
def odA(L:List It)(e:En):Int:=(hdA L e.f).od
def zl5(L:List It)(es:List En)(k:Nat)(e:En):Bool:=decide (odA L e=((es.countP fun o=>decide (grE L o=grE L e)&&decide (o.sh<e.sh):Nat):Int))&& !(((es.take k).all fun o=> !decide (grE L o=grE L e))&& !decide (e.ty=1))
def zh6(L:List It)(es:List En):List En→Nat→Bool
 | [],_=>true
 | e::r,k=>zl5 L es k e&&zh6 L es r (k+1)
def zi0(L:List It)(e:En):Bool:=match L[e.f.toNat]?,L[e.l.toNat]? with
 | some x,some y=>zeT (cur L e.f.toNat) (zdd x) false&&(decide (e.l=e.f)||zeT (cur L e.f.toNat) (zdd y) true)
 | _,_=>false
def znF(L:List It):Bool:=zl3 L&&((!(zaO L).sk&&zh6 L (zaO L).out (zaO L).out 0)&&(zaO L).out.all (zi0 L))
theorem zhs{L:List It}:∀{r:List It} {i:Nat},L.drop i=r→(zht L r i=true↔∀(j:Nat) (x:It),i≤j→L[j]? =some x→zon L j x=true)
 | [],i,hr=>by
  have:=qQ.1 hr;exact⟨fun _ j x hj hx=>by have:=(qC.1 hx).1;omega,fun _=>rfl⟩
 | y::r,i,hr=>by
  obtain⟨hi,hy,hr2⟩:=zcg hr;rw[zht,qB,zhs hr2];constructor
  ·rintro⟨h1,h2⟩ j x hj hx;by_cases e:j=i
   ·subst e;rw[qA hi]at hx;injection hx with hx;rw[←hx,hy];exact h1
   ·exact h2 j x om hx
  ·exact fun h=>⟨h i y (qL _) (by rw[qA hi,hy]),fun j x hj hx=>h j x om hx⟩
theorem zkR{L:List It}:∀{r:List It} {i:Nat},L.drop i=r→(zhu L r i=true↔∀(j:Nat) (x:It),i≤j→L[j]? =some x→zhM L j x=true)
 | [],i,hr=>by
  have:=qQ.1 hr;exact⟨fun _ j x hj hx=>by have:=(qC.1 hx).1;omega,fun _=>rfl⟩
 | y::r,i,hr=>by
  obtain⟨hi,hy,hr2⟩:=zcg hr;rw[zhu,qB,zkR hr2];constructor
  ·rintro⟨h1,h2⟩ j x hj hx;by_cases e:j=i
   ·subst e;rw[qA hi]at hx;injection hx with hx;rw[←hx,hy];exact h1
   ·exact h2 j x om hx
  ·exact fun h=>⟨h i y (qL _) (by rw[qA hi,hy]),fun j x hj hx=>h j x om hx⟩
theorem zhv{L:List It}{es:List En}:∀{r:List En} {i:Nat},es.drop i=r→(zh6 L es r i=true↔∀(j:Nat) (e:En),i≤j→es[j]? =some e→zl5 L es j e=true)
 | [],i,hr=>by
  have:=qQ.1 hr;exact⟨fun _ j x hj hx=>by have:=(qC.1 hx).1;omega,fun _=>rfl⟩
 | y::r,i,hr=>by
  obtain⟨hi,hy,hr2⟩:=zcg hr;rw[zh6,qB,zhv hr2];constructor
  ·rintro⟨h1,h2⟩ j x hj hx;by_cases e:j=i
   ·subst e;rw[qA hi]at hx;injection hx with hx;rw[←hx,hy];exact h1
   ·exact h2 j x om hx
  ·exact fun h=>⟨h i y (qL _) (by rw[qA hi,hy]),fun j x hj hx=>h j x om hx⟩
theorem ztn{L:List It}{p:Nat}(h:∃(j:Nat) (e:Ent),(zaa L)[j]? =some e∧(e.1.f=p∨e.1.l=p)):∃(j:Nat) (e:Ent),(zaa L)[j]? =some e∧(e.1.f=p∨e.1.l=p)∧byI (zaa L) (p:Int)=some e:=by
 obtain⟨j,e,he,hp⟩:=h;cases hb:byI (zaa L) (p:Int)with
 | none=>exact absurd hp (zro hb e (qI he))
 | some f=>obtain⟨⟨k,hk⟩,hfi⟩:=zfm hb;obtain⟨a1,a2,_⟩:=zaX he;obtain⟨b1,b2,_⟩:=zaX hk;have:=zne he hk (i:=(p:Int)) om om om om;subst this;exact⟨j,f,hk,hfi,rfl⟩
theorem ziE{L:List It}{j:Nat}{e:Ent}(he:(zaa L)[j]? =some e){g:Nat}{y:It}(hy:L[g]? =some y)(hk:y.k≠3)(hp:e.1.f=((g+1:Nat):Int)∨e.1.l=((g+1:Nat):Int)):e.1.f=((g+1:Nat):Int):=by
 obtain⟨a1,a2,a3,a4,a5,_⟩:=zaX he;rcases hp with h|h
 ·exact h
 ·rcases a4 with h1|h1
  ·omega
  ·exact absurd (a5 g y om om hy) hk
theorem zjC{L:List It}:∀{n:Nat},0≤grA L n→∃ y,L[(grA L n).toNat]? =some y∧y.k=2∧∀(p:Nat) (x:It),(grA L n).toNat<p→p<n→L[p]? =some x→¬ zcM x
 | 0,h=>by
  have h:(0:Int)≤-1:=h;omega
 | n+1,h=>by
  rw[grA]at h ⊢;cases hx:L[n]? with
  | none=>
   rw[hx]at h;obtain⟨y,h1,h2,h3⟩:=zjC h;exact⟨y,h1,h2,fun p x q1 q2 q3=>h3 p x q1 (by
    rcases qT p n with h4|h4
    ·exact h4
    ·rw[show p=n from om,hx]at q3;cases q3) q3⟩
  | some x=>
   rw[hx]at h;dsimp only at h ⊢;unfold grS at h ⊢;by_cases k4:x.k=4
   ·rw[if_pos k4]at h;omega
   rw[if_neg k4]at h ⊢;by_cases k2:x.k=2
   ·rw[if_pos k2];exact⟨x,by rw[qF];exact hx,k2,fun p z q1 q2=>om⟩
   rw[if_neg k2]at h ⊢;obtain⟨y,h1,h2,h3⟩:=zjC h;refine⟨y,h1,h2,fun p z q1 q2 q3=> ?_⟩;by_cases e:p=n
   ·subst e;rw[hx]at q3;injection q3 with q3;rw[←q3];unfold zcM;omega
   ·exact h3 p z q1 om q3
open Classical in
theorem zrh{L:List It}(ho:zez L=true){j:Nat}{e:Ent}(he:(zaa L)[j]? =some e):((zaa L).map (·.1)).countP (fun o=>decide (grE L o=grE L e.1)&&decide (o.sh<e.1.sh))=zoq L (zaa L) e:=by rw[List.countP_map];unfold zoq;refine List.countP_congr fun o hm=> ?_;obtain⟨i,hi⟩:=qK hm;obtain⟨a1,a2,a3,_,a5,x,hx,_⟩:=zaX he;obtain⟨b1,b2,b3,_,b5,y,hy,_⟩:=zaX hi;have hg:=zso ho hy hx (b5 _ y om om hy) (a5 _ x om om hx);simp only[Function.comp,qB,decide_eq_true_eq];unfold grE;rw[hg]
theorem zfM{L:List It}{j:Nat}{e:Ent}(he:(zaa L)[j]? =some e):odA L e.1=e.2.2.od∧e.1.ty=e.2.2.ty∧e.2.1=cur L e.1.f.toNat:=by obtain⟨a1,a2,a3,_,a5,x,hx,hp⟩:=zaX he;obtain⟨⟨n,m,hn,hm,e1,e2,e3,k1,k2,e4,e5,_⟩,h2,_⟩:=(zgY L).e j e he;refine⟨?_,h2,by rw[e1,qF];exact e5⟩;unfold odA hdA;rw[hx];dsimp only;rw[hp]
open Classical in
theorem zoG{L:List It}(hk:∀ x∈L,x.k≠0):zoH L=znF L:=by
 have hout:(zaO L).out=(zaa L).map (·.1):=(zdZ L).symm;have hget:∀(j:Nat) (e:En),((zaa L).map (·.1))[j]? =some e→∃ x:Ent,(zaa L)[j]? =some x∧x.1=e:=fun j e h=>by rw[List.getElem?_map]at h;obtain⟨x,hx,h2⟩:=Option.map_eq_some_iff.1 h;exact⟨x,hx,h2⟩
 have hget2:∀(j:Nat) (x:Ent),(zaa L)[j]? =some x→((zaa L).map (·.1))[j]? =some x.1:=fun j x h=>by rw[List.getElem?_map,h];rfl
 have nx0:∀(j:Nat) (x:It),L[j]? =some x→((nxI L j).k=0↔j+1=L.length):=fun j x hx=>by
  have hj:=(qC.1 hx).1;unfold nxI;by_cases h:j+1<L.length
  ·rw[qA h];exact⟨fun e=>absurd e (hk _ (qN h)),fun e=>om⟩
  ·rw[qP om];exact⟨fun _=>om,fun _=>rfl⟩
 rw[Bool.eq_iff_iff];constructor
 ·intro hb;have hw:=(zj1 L).1 hb;have hcov:∀(p:Nat) (x:It),L[p]? =some x→x.k=3→∃(j:Nat) (e:Ent),(zaa L)[j]? =some e∧(e.1.f=p∨e.1.l=p):=fun p x hx k=>by
   have hp:=hw.pic p x hx;unfold zje at hp;rw[decide_eq_true k]at hp;simp only[Bool.not_true,Bool.false_or]at hp;cases hb:byI (zaa L) (p:Int)with
   | none=>rw[hb]at hp;cases hp
   | some e=>obtain⟨⟨j,hj⟩,hfi⟩:=zfm hb;exact⟨j,e,hj,hfi⟩
  have hfit:=fun(j:Nat) (x:It) (hx:L[j]? =some x)=>zmY hw.ord hx;unfold znF;rw[qB,qB,qB,qE,hout];refine⟨?_,⟨(zib L).2 hcov,?_⟩,?_⟩
  ·have ho:=hw.ord;unfold zez at ho;unfold zl3;rw[qB]at ho ⊢;refine⟨ho.1,(zhs (i:=0) rfl).2 fun j x _ hx=> ?_⟩;have:=hfit j x hx;unfold zhM at this;unfold zon;split
   ·rename_i h1;rw[if_pos h1]at this;exact this
   ·rename_i h1;rw[if_neg h1]at this;split
    ·rename_i h2;rw[if_pos h2]at this;simp only[qB,qE,decide_eq_true_eq]at this ⊢;exact⟨this.2.1,this.1⟩
    ·rename_i h2;rw[if_neg h2]at this;split
     ·rename_i h4;rw[if_pos h4]at this;simp only[qU,decide_eq_true_eq]at this ⊢;rw[nx0 j x hx];exact this
     ·rfl
  ·refine(zhv (i:=0) rfl).2 fun j e _ he=> ?_;obtain⟨x,hx,rfl⟩:=hget j e he;have hn:=(zkV (esI L)).1 hw.num j x hx;obtain⟨q1,q2,_⟩:=zfM hx;unfold zl5;rw[zrh hw.ord hx,q1,hn,decide_eq_true rfl,qH,qE,jC];by_cases hty:x.1.ty=1
   ·right;rw[decide_eq_true hty];rfl
   ·left;refine Classical.byContradiction fun hall=> ?_;rw[Bool.not_eq_false,qS]at hall;obtain⟨a1,a2,a3,_,a5,z,hz,hzp⟩:=zaX hx;have kz:=a5 _ z om om hz;have g0:0≤grA L (x.1.f.toNat+1):=by
     have:=zk8 L (x.1.f.toNat+1);rcases Int.lt_or_le (grA L (x.1.f.toNat+1)) 0 with h|h
     ·have:=zgx hw.ord _ z hz om;omega
     ·exact h
    obtain⟨y,hy,ky,hyb⟩:=zjC g0;obtain⟨g,hg⟩:∃ g:Nat,grA L (x.1.f.toNat+1)=(g:Int):=⟨(grA L (x.1.f.toNat+1)).toNat,om⟩;rw[hg,qF]at hy hyb;have hgl:=(zk8 L (x.1.f.toNat+1)).2;rw[hg]at hgl;have hgf:g≠x.1.f.toNat:=fun e=>by rw[e,hz]at hy;injection hy with hy;rw[hy]at kz;omega
    have hfy:=hfit g y hy;unfold zhM at hfy;rw[if_neg om,if_pos ky]at hfy;simp only[qB,qE,decide_eq_true_eq]at hfy;obtain⟨_,k3,t1⟩:=hfy;have hgl1:g+1<L.length:=by have:=(qC.1 hz).1;omega
    have enx:L[g+1]? =some (nxI L g):=by unfold nxI;rw[qA hgl1];rfl
    obtain⟨i,e',he',hp'⟩:=hcov (g+1) _ enx k3;have hf':=ziE he' hy om hp';obtain⟨b1,b2,b3,_,b5,u,hu,hup⟩:=zaX he';rw[hf',qF,enx]at hu;injection hu with hu;obtain⟨_,q2',_⟩:=zfM he';have t1':e'.1.ty=1:=by rw[q2',←hup,←hu];exact t1
    have hij:i≤j:=by
     rcases qT j i with h|h
     ·have:=(esI L).o j i x e' hx he' h;omega
     ·exact h
    rcases Nat.eq_or_lt_of_le hij with h|h
    ·subst h;rw[hx]at he';injection he' with he';subst he';exact hty t1'
    ·have hm:e'.1∈((zaa L).map (·.1)).take j:=qI (i:=i) (by rw[List.getElem?_take,if_pos h];exact hget2 i e' he');have:=hall _ hm;simp only[qE,decide_eq_false_iff_not]at this;refine this ?_;unfold grE;rw[hf',qF];refine(zme (n:=g+1+1) (x.1.f.toNat+1) om fun p v h1 h2 hv=>hyb p v om om hv).symm
  ·rw[qS];intro e he;obtain⟨x,hxm,rfl⟩:=jB.1 he;obtain⟨j,hx⟩:=qK hxm;obtain⟨a1,a2,a3,a4,a5,z,hz,hzp⟩:=zaX hx;obtain⟨_,_,q3⟩:=zfM hx;have s1:=hw.sl j x hx x.1.f.toNat z hz om om;have e1:=qA (show x.1.l.toNat<L.length from om);have s2:=hw.sl j x hx x.1.l.toNat _ e1 om om;unfold zi0;rw[hz,e1];dsimp only;rw[←q3];rw[decide_eq_false om]at s1;rw[s1,qH];by_cases hl:x.1.l=x.1.f
   ·rw[decide_eq_true hl];rfl
   ·rw[decide_eq_true om]at s2;rw[s2,Bool.or_true]
 ·intro hb;unfold znF at hb;rw[qB,qB,qB,qE,hout]at hb;obtain⟨h1,⟨h2,h3⟩,h4⟩:=hb;have hcov:=(zib L).1 h2;have hnur:=fun(j:Nat) (x:Ent) (hx:(zaa L)[j]? =some x)=>(zhv (i:=0) rfl).1 h3 j x.1 (qR _) (hget2 j x hx);unfold zl3 at h1;rw[qB]at h1;have hfr:=(zhs (i:=0) rfl).1 h1.2;have hord:zez L=true:=by
   unfold zez;rw[qB];refine⟨h1.1,(zkR (i:=0) rfl).2 fun j x _ hx=> ?_⟩;have:=hfr j x (qR _) hx;unfold zon at this;unfold zhM;split
   ·rename_i k1;rw[if_pos k1]at this;exact this
   ·rename_i k1;rw[if_neg k1]at this;split
    ·rename_i k2;rw[if_pos k2]at this;simp only[qB,qE,decide_eq_true_eq]at this ⊢;refine⟨this.2,this.1,?_⟩;have hj1:j+1<L.length:=by
      rcases qT (j+1) L.length with h|h
      ·exact h
      ·have:=this.1;unfold nxI at this;rw[qP h]at this;have:(0:Int)=3:=this;omega
     have enx:L[j+1]? =some (nxI L j):=by unfold nxI;rw[qA hj1];rfl
     obtain⟨i,e,he,hp⟩:=hcov (j+1) _ enx this.1;have hf:=ziE he hx om hp;obtain⟨b1,b2,b3,_,b5,u,hu,hup⟩:=zaX he;rw[hf,qF,enx]at hu;injection hu with hu;obtain⟨_,q2,_⟩:=zfM he;have hn:=hnur i e he;unfold zl5 at hn;rw[qB,qE,jC]at hn;rcases hn.2 with h|h
     ·exfalso;rw[←Bool.not_eq_true,qS]at h;refine h fun o ho=> ?_;obtain⟨q,hq⟩:=qK ho;rw[List.getElem?_take]at hq;split at hq
      ·obtain⟨v,hv,rfl⟩:=hget q o hq;have hlt:=(esI L).o q i v e hv he (by assumption);obtain⟨c1,c2,c3,_,c5,w,hw,hwp⟩:=zaX hv;have kw:=c5 _ w om om hw;simp only[qE,decide_eq_false_iff_not];unfold grE;intro hgr;have hne:v.1.f.toNat≠j:=fun e=>by rw[e,hx]at hw;injection hw with hw;rw[←hw]at kw;omega
       have g1:=(zk8 L (v.1.f.toNat+1)).2;have g2:=zjB hx (.inl k2) (e.1.f.toNat+1) om;have g3:grA L (e.1.f.toNat+1)=(j:Int):=by rw[hf,qF,grA,enx];dsimp only;unfold grS;rw[if_neg om,if_neg om,grA,hx];dsimp only;unfold grS;rw[if_neg om,if_pos k2]
       omega
      ·cases hq
     ·simp only[Bool.not_eq_false',decide_eq_true_eq]at h;rw[hu,hup,←q2];exact h
    ·rename_i k2;rw[if_neg k2]at this;split
     ·rename_i k4;rw[if_pos k4]at this;simp only[qU,decide_eq_true_eq]at this ⊢;rw[nx0 j x hx]at this;exact this
     ·rfl
  refine(zj1 L).2 ⟨hord,fun p x hx=> ?_,?_⟩
  ·unfold zje;by_cases k3:x.k=3
   ·obtain⟨j,e,he,hp,hby⟩:=ztn (hcov p x hx k3);rw[hby];dsimp only;have hs:=qS.1 h4 e.1 (qI (hget2 j e he));obtain⟨a1,a2,a3,a4,a5,z,hz,hzp⟩:=zaX he;obtain⟨_,_,q3⟩:=zfM he;have e1:=qA (show e.1.l.toNat<L.length from om);unfold zi0 at hs;rw[hz,e1]at hs;dsimp only at hs;rw[←q3,qB,qU,decide_eq_true_eq]at hs;rw[qU];right;by_cases hf:e.1.f=p
    ·rw[decide_eq_false om];rw[show e.1.f.toNat=p from om,hx]at hz;injection hz with hz;rw[hz];exact hs.1
    ·have hl:e.1.l=p:=by
      rcases hp with h|h
      ·exact absurd h hf
      ·exact h
     rw[decide_eq_true om];rcases hs.2 with h|h
     ·omega
     ·have e2:L[e.1.l.toNat]? =some x:=by rw[show e.1.l.toNat=p from om];exact hx
      rw[e1]at e2;injection e2 with e2;rw[←e2];exact h
   ·rw[decide_eq_false k3];rfl
  ·refine(zkV (esI L)).2 fun j e he=> ?_;have hn:=hnur j e he;unfold zl5 at hn;rw[qB,zrh hord he,(zfM he).1,decide_eq_true_eq]at hn;exact hn.1
theorem zih{s:Sq}{p:Pi}{b:Bool}(us:List (Int×List UInt8))(j:Nat)(hj:j<us.length):zkr s p b (us.drop j) j=(decide (us[j].1=1+(j:Int))&&(okR (slT s p b us[j].1 us[j].2)&&zkr s p b (us.drop (j+1)) (j+1))):=by rw[qZ hj];rfl
set_option maxHeartbeats 4000000 in
set_option maxRecDepth 10000 in
theorem zuS(s:Sq)(c:Cdd)(b:Bool)(hs:SqOk s)(hc:CdOk c)(H:za):CallOk Tryz.prog 24 [.agg (sqc s),.agg (cdE c),.bool b] H (.bool (zeT s c b)) H:=by
 have fin:∀(b:Bool) (K:za),Fin H (.bool b) H (.bool b) (H++K):=fun b K=>Fin.base (.id (.bool _));have h1:=zaT s;have h2:=zaP s hs;have h3:=zdx s hs;have c1:(cdE c).all PV.cell=true:=rfl;have c2:(cdE c).length=8:=rfl;have c3:qM 6 (cdE c)=pic c.p:=rfl;have c7:(cdE c)[7]? =some (.slice (uq c.us) c.us.length false):=rfl;have ro:=fun K=>zkz s c.p K hs;have ql:=zcr c.us;unfold zeT;refine CallOk.go Tryz.func24 Tryz.ntmps24 Tryz.results24 ?_;refine PW.g (nq2 h1 c1) ?_;(repeat refine PW.seq ?_);refine PW.drawg mix kr fun K hK=> ?_;simp(disch:=omega) only[go_sem,↓reduceIte,reduceCtorEq,h2,h3,c2,c3,c7];refine VCz.call (fun _=>ro _) rfl ?_;refine sqz ?_;refine hK _ _ ?_;clear hK K;by_cases hn:(c.us.length:Int)=zS s c.p;rotate_left
 ·have d1:((c.us.length:Int) !=zS s c.p)=true:=by simpa using hn
  rw[decide_eq_false hn,qJ];refine PW.c (fun h=> ?_) (fun h=> ?_);rotate_left
  ·rw[d1]at h;cases h
  refine PW.e ?_;refine PW.v (.bool false) ?_;exact fin _ _
 have d1:((c.us.length:Int) !=zS s c.p)=false:=by simp[hn]
 rw[decide_eq_true hn,qH];refine PW.c (fun h=> ?_) (fun h=> ?_)
 ·rw[d1]at h;cases h
 refine PW.skip ?_;clear ro d1 hn;refine PW.g (nq2 c2 c7) ?_;refine PW.l ?_;have hun:=hc.n;suffices hl1:∀ j:Nat,j≤c.us.length→zkr s c.p b (c.us.drop j) j=zkr s c.p b c.us 0→PL Tryz.prog _ _ [(2,.bool b),(3,.ptr H.length 0 0),(4,.ptr (H.length+1) 0 0),(21,.slice (uq c.us) c.us.length false),(22,.int .i64 (c.us.length:Int)),(23,.int .i64 (j:Int))] (H++[⟨29,0,sqc s⟩,⟨39,0,cdE c⟩]) _ by exact PL.at [2,3,4,21,22,23] (hl1 0 om rfl) rfl rfl
 intro j hj hf;induction hd:c.us.length - j using qG generalizing j with
 | _ d ih=>
  refine PL.round ?_;refine PW.e ?_;refine PW.c (fun h=> ?_) (fun h=> ?_)
  ·have hjl:j<c.us.length:=ot h;have ea:=zj5 c.us j hjl;have hnext:=ih (c.us.length - (j+1)) om (j+1) om;have hu:=hc.u _ (qN hjl);rw[zih _ _ hjl]at hf;generalize c.us[j]=u at *;have u1:(uq1 u).length=2:=rfl;have u2:(uq1 u).all PV.cell=true:=rfl;have u3:qM 2 (uq1 u)=[.int .i64 u.1,.slice (bs u.2) u.2.length false]:=rfl;have u4:(uq1 u)[0]? =some (.int .i64 u.1):=rfl;have so:=fun K=>zpq s c.p b u.1 u.2 false K hs hu.1 hu.2;refine PW.skip ?_;refine PW.b ?_;refine PW.g (nq2 ea (nq2 ql (nq2 u1 (nq2 u2 u3)))) ?_;by_cases h1':u.1=1+(j:Int);rotate_left
   ·have d2:(u.1 !=1+(j:Int))=true:=by simpa using h1'
    rw[decide_eq_false h1',qJ]at hf;refine PW.g (nq2 u1 (nq2 u4 d2)) ?_;refine PW.t ?_;refine PW.e ?_;refine PW.v (.bool false) ?_;rw[←hf];exact fin _ _
   have d2:(u.1 !=1+(j:Int))=false:=by simp[h1']
   rw[decide_eq_true h1',qH]at hf;refine PW.g (nq2 u1 (nq2 u4 d2)) ?_;refine PW.us ?_;cases hsl:slT s c.p b u.1 u.2 with
   | er e a=>
    rw[hsl]at hf so;simp only[okR,qJ]at hf;refine PW.f (fun K k=>by simp(disch:=omega) only[go_sem,↓reduceIte,reduceCtorEq,h2,h3,c2,c3,u1,u3];refine VCx.call (so _) rfl ?_;simp(disch:=omega) only[go_sem,↓reduceIte,reduceCtorEq,rvT,ecd];exact k) ?_;have d3:((e:Int)+1 !=0)=true:=by simp;omega
    refine PW.g d3 ?_;refine PW.t ?_;refine PW.e ?_;refine PW.v (.bool false) ?_;rw[←hf];exact fin _ _
   | ok x a=>
    rw[hsl]at hf so;simp only[okR,qH]at hf;refine PW.f (fun K k=>by simp(disch:=omega) only[go_sem,↓reduceIte,reduceCtorEq,h2,h3,c2,c3,u1,u3];refine VCx.call (so _) rfl ?_;simp(disch:=omega) only[go_sem,↓reduceIte,reduceCtorEq,rvT];exact k) ?_;refine PW.e ?_;refine PW.us ?_;refine PW.e ?_;refine PL.keep [2,3,4,21,22,23] ?_;refine PL.view (Vs.trim (F1:=[(2,.bool b),(3,.ptr H.length 0 0),(4,.ptr (H.length+1) 0 0),(21,.slice (uq c.us) c.us.length false),(22,.int .i64 (c.us.length:Int)),(23,.int .i64 ((j+1:Nat):Int))]) (H1:=H++[⟨29,0,sqc s⟩,⟨39,0,cdE c⟩]) (K:=[⟨58,0,uq1 u⟩]) (fun hh=>zhC (fun b hb x hx=> ?_) hh) sp (by simp[uq1]) ?_) (hnext hf rfl)
    ·simp only[jA,qX,or_false]at hb;rcases hb with rfl|rfl
     ·exact zV _ _ x hx
     ·exact zjK _ _ _ _ x hx
    ·exact⟨.id (.bool _),.id (.ptr sp),.id (.ptr sp),.id (zl (zj4 _ _)),.id (.int _ _),.id (.int _ _),trivial⟩
  ·have hjl:j=c.us.length:=ofF h;subst hjl;rw[qY]at hf;rw[←hf];refine PW.exit ?_;refine PW.e ?_;refine PW.v (.bool true) ?_;exact fin _ _
def zit:List PV:=.int .i64 0::(sqc sq0++[.bool false,.bool false,.int .i64 0,.int .i64 0,.int .i64 0,.int .i64 0,.bool false,.bool false,.bool false,.slice [] 0 true,.slice [] 0 true,.int .i64 0])
theorem zoc(L:List It)(j:Nat)(hj:j<L.length):zhu L (L.drop j) j=(zhM L j L[j]&&zhu L (L.drop (j+1)) (j+1)):=by rw[qZ hj];rfl
set_option maxHeartbeats 8000000 in
set_option maxRecDepth 100000 in
theorem zvd(L:List It)(fl:Bool)(hL:∀ x∈L,SqOk x.s)(hn:L.length≤800000)(H:za):CallOk Tryz.prog 22 [.slice (itL L) L.length fl] H (.bool (zez L)) H:=by
 have fin:∀(b:Bool) (K:za),Fin H (.bool b) H (.bool b) (H++K):=fun b K=>Fin.base (.id (.bool _));have fin0:∀(b:Bool),Fin H (.bool b) H (.bool b) H:=fun b=>Fin.now;have ln:=zak L hL;refine CallOk.go Tryz.func22 Tryz.ntmps22 Tryz.results22 ?_;refine PW.e ?_;by_cases hL0:L.length=0
 ·have hL1:L=[]:=List.length_eq_zero_iff.1 hL0;subst hL1;refine PW.e ?_;refine PW.t ?_;refine PW.e ?_;refine PW.v (.bool false) ?_;exact fin0 _
 have hpos:0<L.length:=om;have eo:zez L=(decide (L[0].k=1)&&zhu L L 0):=by
  unfold zez;cases L with
  | nil=>exact absurd rfl hL0
  | cons y r=>rfl
 rw[eo];clear eo;have y0:=zR L hL 0 0 hpos om;rw[zbK]at y0;have d0:((L.length:Int)==0)=false:=by simp only[beq_eq_false_iff_ne];omega
 by_cases hk:L[0].k=1;rotate_left
 ·have d1:(L[0].k !=1)=true:=by simpa using hk
  rw[decide_eq_false hk,qJ];refine PW.g (nq2 d0 (nq2 ln (nq2 y0 d1))) ?_;refine PW.t ?_;refine PW.e ?_;refine PW.v (.bool false) ?_;exact fin0 _
 have d1:(L[0].k !=1)=false:=by simp[hk]
 rw[decide_eq_true hk,qH];refine PW.g (nq2 d0 (nq2 ln (nq2 y0 d1))) ?_;refine PW.us ?_;clear d0 d1 y0 hk;refine PW.e ?_;refine PW.l ?_;suffices hl1:∀ i:Nat,i≤L.length→zhu L (L.drop i) i=zhu L L 0→PL Tryz.prog _ _ [(0,.slice (itL L) L.length fl),(17,.int .i64 (L.length:Int)),(18,.int .i64 (i:Int))] H _ by exact PL.at [0,17,18] (hl1 0 om rfl) rfl rfl
 intro i hi hf;induction hd:L.length - i using qG generalizing i with
 | _ d ih=>
  refine PL.round ?_;refine PW.e ?_;refine PW.c (fun h=> ?_) (fun h=> ?_)
  ·have hil:i<L.length:=ot h;have hnext:=ih (L.length - (i+1)) om (i+1) om;rw[zoc L i hil]at hf;have ek:=zR L hL i 0 hil om;have eb:=zR L hL i 137 hil om;have hx:=hL _ (qN hil);rw[zbK,qO]at ek;have eb':(itc L[i])[137]? =some (.bool L[i].gb):=zcd _ hx 1;rw[eb']at eb;generalize hxg:L[i]=x at *;refine PW.skip ?_;refine PW.b ?_;refine PW.e ?_;refine PW.e ?_;suffices hm:∀ C:List PV,C.length=148→C[0]? =some (.int .i64 (nxI L i).k)→C[139]? =some (.int .i64 (nxI L i).p.ty)→PW Tryz.prog _ _ [(0,.slice (itL L) L.length fl),(17,.int .i64 (L.length:Int)),(18,.int .i64 (i:Int)),(3,.int .i64 (i:Int)),(4,.ptr H.length 0 0)] (H++[⟨43,0,C⟩]) _ by
    by_cases hi1:i+1<L.length
    ·have d2:decide ((i:Int)+1<(L.length:Int))=true:=decide_eq_true om;have e1:=zfO L hL (i+1) hi1;have hx1:=hL _ (qN hi1);have en:nxI L i=L[i+1]:=by unfold nxI;rw[qA hi1];rfl
     rw[en]at hm;generalize L[i+1]=y at *;have z1:=zbZ y hx1;have z2:=zcG y;have z3:qM 148 (itc y)=itc y:=qD om;refine PW.g d2 ?_;refine PW.t ?_;refine PW.g (nq2 ln (nq2 e1 (nq2 z1 (nq2 z2 z3)))) ?_;exact PW.at [0,17,18,3,4] (hm (itc y) z1 (zbK y) (zcd y hx1 3)) rfl sp
    ·have d2:decide ((i:Int)+1<(L.length:Int))=false:=decide_eq_false om;have en:nxI L i=it0:=by unfold nxI;rw[qP om];rfl
     rw[en]at hm;refine PW.g d2 ?_;refine PW.us ?_;exact PW.at [0,17,18,3,4] (hm zit rfl rfl rfl) rfl rfl
   intro C c1 c2 c3;have hfE:zhM L i x=(if x.k=1 then decide ((nxI L i).k=2)else if x.k=2 then !x.gb&&(decide ((nxI L i).k=3)&&decide ((nxI L i).p.ty=1))else if x.k=4 then decide (i+1=L.length)||decide ((nxI L i).k=1)else true):=rfl;generalize nxI L i=y at *;generalize zhM L i x=B at *;suffices hr:PW Tryz.prog _ _ [(0,.slice (itL L) L.length fl),(17,.int .i64 (L.length:Int)),(18,.int .i64 (i:Int)),(5,.bool B)] (H++[⟨43,0,C⟩]) _ by
    rw[hfE]at hr;refine PW.e ?_;refine PW.g (nq2 ln ek) ?_;refine PW.block ?_;by_cases k1:x.k=1
    ·rw[if_pos k1]at hr;have hr:PW _ _ _ [(0,.slice (itL L) L.length fl),(17,.int .i64 (L.length:Int)),(18,.int .i64 (i:Int)),(5,.bool (y.k==2))] _ _:=hr;have b1:(x.k==1)=true:=by simp[k1]
     refine PW.g b1 ?_;refine PW.t ?_;refine PW.g (nq2 c1 c2) ?_;exact PW.at [0,17,18,5] hr rfl rfl
    rw[if_neg k1]at hr;have b1:(x.k==1)=false:=by simp[k1]
    refine PW.g b1 ?_;refine PW.u ?_;by_cases k2:x.k=2
    ·rw[if_pos k2]at hr;have b2:(x.k==2)=true:=by simp[k2]
     refine PW.g b2 ?_;refine PW.t ?_;cases hg:x.gb with
     | true=>
      rw[hg]at hr eb;rw[Bool.not_true,qJ]at hr;refine PW.g (nq2 ln eb) ?_;exact PW.at [0,17,18,5] hr rfl rfl
     | false=>
      rw[hg]at hr eb;rw[Bool.not_false,qH]at hr;by_cases n3:y.k=3
      ·have b3:(y.k==3)=true:=by simp[n3]
       rw[decide_eq_true n3,qH]at hr;refine PW.g (nq2 ln (nq2 eb (nq2 c1 (nq2 c2 (nq2 c3 b3))))) ?_;exact PW.at [0,17,18,5] hr rfl rfl
      ·have b3:(y.k==3)=false:=by simp[n3]
       rw[decide_eq_false n3,qJ]at hr;refine PW.g (nq2 ln (nq2 eb (nq2 c1 (nq2 c2 b3)))) ?_;exact PW.at [0,17,18,5] hr rfl rfl
    rw[if_neg k2]at hr;have b2:(x.k==2)=false:=by simp[k2]
    refine PW.g b2 ?_;refine PW.u ?_;by_cases k4:x.k=4
    ·rw[if_pos k4]at hr;have b4:(x.k==4)=true:=by simp[k4]
     refine PW.g b4 ?_;refine PW.t ?_;by_cases n1:i+1=L.length
     ·have b5:((i:Int)+1==(L.length:Int))=true:=by simp only[beq_iff_eq];omega
      rw[decide_eq_true n1,Bool.true_or]at hr;refine PW.g b5 ?_;exact PW.at [0,17,18,5] hr rfl rfl
     ·have b5:((i:Int)+1==(L.length:Int))=false:=by simp only[beq_eq_false_iff_ne];omega
      rw[decide_eq_false n1,Bool.false_or]at hr;refine PW.g (nq2 b5 (nq2 c1 c2)) ?_;exact PW.at [0,17,18,5] hr rfl rfl
    rw[if_neg k4]at hr;have b4:(x.k==4)=false:=by simp[k4]
    refine PW.g b4 ?_;refine PW.us ?_;exact PW.at [0,17,18,5] hr rfl rfl
   clear hfE;cases B with
   | false=>
    rw[qJ]at hf;refine PW.e ?_;refine PW.t ?_;refine PW.e ?_;refine PW.v (.bool false) ?_;rw[←hf];exact fin _ _
   | true=>rw[qH]at hf;refine PW.e ?_;refine PW.us ?_;refine PW.e ?_;refine PL.keep [0,17,18] ?_;refine PL.view (Vs.trim (F1:=[(0,.slice (itL L) L.length fl),(17,.int .i64 (L.length:Int)),(18,.int .i64 ((i+1:Nat):Int))]) (H1:=H) (fun h=>h) (qL _) rfl ?_) (hnext hf rfl);exact⟨.id (zl (zcw _ _)),.id (.int _ _),.id (.int _ _),trivial⟩
  ·have hil:i=L.length:=ofF h;subst hil;rw[qY]at hf;rw[←hf];refine PW.exit ?_;refine PW.e ?_;refine PW.v (.bool true) ?_;exact fin0 _
theorem ziA{α:Type}(enc:α→List PV)(N:Nat):∀(l:List α) (k:Nat),(∀ x∈l,(enc x).length=N)→(l.flatMap enc).drop (k * N)=(l.drop k).flatMap enc
 | l,0,_=>by simp
 | [],k+1,_=>by simp
 | a::r,k+1,h=>by
  have e:(k+1) * N=(enc a).length+k * N:=by rw[h a (List.mem_cons_self ..),Nat.add_mul,Nat.one_mul,Nat.add_comm]
  rw[qW,e,←List.drop_drop,List.drop_left,List.drop_succ_cons];exact ziA enc N r k fun x hx=>h x (jE _ hx)
theorem ziz{α:Type}(enc:α→List PV)(N:Nat):∀(l:List α) (k:Nat),(∀ x∈l,(enc x).length=N)→(l.flatMap enc).take (k * N)=(l.take k).flatMap enc
 | l,0,_=>by simp
 | [],k+1,_=>by simp
 | a::r,k+1,h=>by
  have e:(k+1) * N=(enc a).length+k * N:=by rw[h a (List.mem_cons_self ..),Nat.add_mul,Nat.one_mul,Nat.add_comm]
  rw[qW,e,List.take_append,Nat.add_sub_cancel_left,qD (Nat.le_add_right _ _),ziz enc N r k fun x hx=>h x (jE _ hx),List.take_succ_cons,qW]
theorem zpK(S:List Ent)(hsl:∀ e∈S,SqL e.2.1)(a b:Nat):qM ((b - a) * 147) (List.drop (a * 147) (S.flatMap zn))=(zeu S a b).flatMap zn:=by rw[ziA zn 147 S a fun e he=>zam e (hsl e he),ziz zn 147 _ _ fun e he=>zam e (hsl e (jD he))];rfl
theorem zpM(S:List Ent)(a b:Nat)(hb:b≤S.length):(zeu S a b).length=b - a:=by unfold zeu;rw[List.length_take,List.length_drop];omega
theorem zpL{S:List Ent}{a b:Nat}{e:Ent}(h:e∈zeu S a b):e∈S:=jD (List.mem_of_mem_take h)
set_option maxHeartbeats 16000000 in
set_option maxRecDepth 100000 in
theorem zsN(L:List It)(S:List Ent)(fl:Bool)(hL:∀ x∈L,SqOk x.s)(hn:L.length≤800000)(hS:S.length≤800000)(hsl:∀ e∈S,SqL e.2.1)(hI:EsI L S)(H:za):CallOk Tryz.prog 25 [.slice (itL L) L.length fl,.slice (S.flatMap zn) S.length false] H (.bool (zog L S)) H:=by
 have fin0:∀(b:Bool),Fin H (.bool b) H (.bool b) H:=fun b=>Fin.now;have fin:∀(b:Bool) (K:za),Fin H (.bool b) H (.bool b) (H++K):=fun b K=>Fin.base (.id (.bool _));have lnL:=zak L hL;have lnS:=zfU hsl;have scS:∀ n,Scoped n (.slice (S.flatMap zn) S.length false):=fun n=>zl fun x hx=>zbx _ _ x hx;have eg:=fun(k r:Nat) (hk:k<S.length) (hr:r<147)=>zcf zn 147 S k r hk (fun e he=>zam e (hsl e he)) hr;unfold zog;refine CallOk.go Tryz.func25 Tryz.ntmps25 Tryz.results25 ?_;refine PW.e ?_;refine PW.e ?_;refine PW.l ?_;suffices hl1:∀(n fr:Nat),S.length≤fr+n→fr≤S.length→zh7 L S n fr=zh7 L S S.length 0→PL Tryz.prog _ _ [(0,.slice (itL L) L.length fl),(1,.slice (S.flatMap zn) S.length false),(5,.int .i64 (fr:Int))] H _ by exact PL.at [0,1,5] (hl1 S.length 0 om om rfl) rfl rfl
 intro n;induction n with
 | zero=>
  intro fr h1 h2 hf;have hfr:fr=S.length:=om;subst hfr;refine PL.round ?_;refine PW.e ?_;refine PW.u ?_;refine PW.exit ?_;refine PW.e ?_;refine PW.v (.bool true) ?_;rw[←hf];exact fin0 _
 | succ n ih=>
  intro fr h1 h2 hf;by_cases hfr:fr<S.length;rotate_left
  ·have hfr:fr=S.length:=om;subst hfr;refine PL.round ?_;refine PW.e ?_;refine PW.u ?_;refine PW.exit ?_;refine PW.e ?_;refine PW.v (.bool true) ?_;rw[←hf,zh7,qP (qL _)];exact fin0 _
  have d1:=ze9 hfr;have e0:=qA hfr;obtain⟨x0,f0,hx0,k0,_⟩:=hI.k fr _ e0;have hFl:=(qC.1 hx0).1;have g0:(S.flatMap zn)[fr * 147]? =some (.int .i64 S[fr].1.f):=by have:=eg fr 0 hfr om;rw[qO]at this;rw[this];rfl
  rw[zh7,e0]at hf;dsimp only at hf;obtain⟨F,hF⟩:∃ F:Nat,S[fr].1.f=(F:Int):=⟨S[fr].1.f.toNat,om⟩;rw[hF]at g0 hf hFl;rw[qF]at hf hFl;obtain⟨E,hE⟩:∃ E,E=zfj L F:=⟨_,rfl⟩;have hEl:=znf (L:=L) (n:=F) om;rw[←hE]at hf hEl;refine PL.round ?_;refine PW.g d1 ?_;refine PW.t ?_;refine PW.skip ?_;refine PW.b ?_;refine PW.g (nq2 lnS g0) ?_;refine PW.l ?_;suffices hl2:∀ j:Nat,F≤j→j≤E→PL Tryz.prog _ _ [(0,.slice (itL L) L.length fl),(1,.slice (S.flatMap zn) S.length false),(5,.int .i64 (fr:Int)),(6,.int .i64 (j:Int))] H _ by exact PL.at [0,1,5,6] (hl2 F (qL _) hEl.1) rfl rfl
  intro j hj1 hj2;induction hd:E - j using qG generalizing j with
  | _ d ih2=>
   by_cases hjE:j<E
   ·have hjl:j<L.length:=om;have hop:=zng (L:=L) (n:=F) hj1 (by rw[←hE];exact hjE) (qA hjl);have ek:=zR L hL j 0 hjl om;rw[zbK,qO]at ek;have hnext:=ih2 (E - (j+1)) om (j+1) om om rfl;generalize L[j]=x at *;unfold zcM at hop;have d2:=ze9 hjl;have d3:(x.k !=2)=true:=by simp only[bne_iff_ne];omega
    have d4:(x.k !=4)=true:=by simp only[bne_iff_ne];omega
    refine PL.round ?_;refine PW.g (nq2 d2 (nq2 lnL (nq2 ek (nq2 d3 d4)))) ?_;refine PW.t ?_;refine PW.skip ?_;refine PW.b ?_;refine PW.e ?_;exact PL.at [0,1,5,6] hnext rfl rfl
   ·have hjE':j=E:=om;subst hjE';clear ih2;refine PL.round ?_;suffices hm:PW Tryz.prog _ _ [(0,.slice (itL L) L.length fl),(1,.slice (S.flatMap zn) S.length false),(5,.int .i64 (fr:Int)),(6,.int .i64 (j:Int)),(42,.bool false)] H _ by
     by_cases hjl:j<L.length
     ·have hbd:=zfi (L:=L) (n:=F) (x:=L[j]) (by rw[←hE];exact qA hjl);have ek:=zR L hL j 0 hjl om;rw[zbK,qO]at ek;generalize L[j]=x at *;have d2:=ze9 hjl;by_cases k2:x.k=2
      ·have d3:(x.k !=2)=false:=by simp[k2]
       refine PW.g (nq2 d2 (nq2 lnL (nq2 ek d3))) ?_;exact PW.at [0,1,5,6,42] hm rfl rfl
      ·have d3:(x.k !=2)=true:=by simpa using k2
       unfold zcM at hbd;have d4:(x.k !=4)=false:=by simp only[bne_eq_false_iff_eq];omega
       refine PW.g (nq2 d2 (nq2 lnL (nq2 ek (nq2 d3 d4)))) ?_;exact PW.at [0,1,5,6,42] hm rfl rfl
     ·have d2:decide ((j:Int)<(L.length:Int))=false:=decide_eq_false om;refine PW.g d2 ?_;exact PW.at [0,1,5,6,42] hm rfl rfl
    refine PW.u ?_;refine PW.exit ?_;have hTb:=ztI S j fr om;obtain⟨T,hT⟩:∃ T,T=toF S j fr:=⟨_,rfl⟩;rw[←hT]at hf hTb;refine PW.e ?_;refine PW.l ?_;suffices hl3:∀ i:Nat,fr≤i→i≤T→PL Tryz.prog _ _ [(0,.slice (itL L) L.length fl),(1,.slice (S.flatMap zn) S.length false),(5,.int .i64 (fr:Int)),(6,.int .i64 (j:Int)),(7,.int .i64 (i:Int))] H _ by exact PL.at [0,1,5,6,7] (hl3 fr (qL _) hTb.1) rfl rfl
    intro i hi1 hi2;induction hd3:T - i using qG generalizing i with
    | _ d3 ih3=>
     by_cases hiT:i<T
     ·have hil:i<S.length:=om;have g1:=eg i 0 hil om;rw[qO]at g1;have hlt:S[i].1.f<(j:Int):=by have h2:=hiT;rw[hT]at h2;unfold toF at h2;exact of_decide_eq_true (zmB (fun e:Ent=>decide (e.1.f<(j:Int))) (S.drop fr) (i - fr) S[i] (by rw[qV,show fr+(i - fr)=i from om];exact qA hil) om)
      have hnext:=ih3 (T - (i+1)) om (i+1) om om rfl;generalize S[i]=e at *;have d2:=ze9 hil;have d4:decide (e.1.f<(j:Int))=true:=decide_eq_true hlt;refine PL.round ?_;refine PW.f (fun K k=>by simp(disch:=omega) only[go_sem,↓reduceIte,reduceCtorEq,d2,lnS,g1,show(zn e)[0]? =some (.int .i64 e.1.f)from rfl,d4];exact k) ?_;refine PW.t ?_;refine PW.skip ?_;refine PW.b ?_;refine PW.e ?_;exact PL.at [0,1,5,6,7] hnext rfl rfl
     ·have hiT':i=T:=om;subst hiT';clear ih3;refine PL.round ?_;suffices hm:PW Tryz.prog _ _ [(0,.slice (itL L) L.length fl),(1,.slice (S.flatMap zn) S.length false),(5,.int .i64 (fr:Int)),(7,.int .i64 (i:Int)),(59,.bool false)] H _ by
       by_cases hil:i<S.length
       ·have g1:=eg i 0 hil om;rw[qO]at g1;have hge:¬ S[i].1.f<(j:Int):=of_decide_eq_false (zgN (fun e:Ent=>decide (e.1.f<(j:Int))) (S.drop fr) S[i] (by
         rw[qV];show S[toF S j fr]? =_;rw[←hT];exact qA hil))
        generalize S[i]=e at *;have d2:=ze9 hil;have d4:decide (e.1.f<(j:Int))=false:=decide_eq_false hge;refine PW.f (fun K k=>by simp(disch:=omega) only[go_sem,↓reduceIte,reduceCtorEq,d2,lnS,g1,show(zn e)[0]? =some (.int .i64 e.1.f)from rfl,d4];exact k) ?_;exact PW.at [0,1,5,7,59] hm rfl rfl
       ·have d2:decide ((i:Int)<(S.length:Int))=false:=decide_eq_false om;refine PW.g d2 ?_;exact PW.at [0,1,5,7,59] hm rfl rfl
      refine PW.u ?_;refine PW.exit ?_;have hfi:fr<i:=by
       rcases qT fr i with h5|h5
       ·exact h5
       ·exfalso;have hi:i=fr:=om;have hFE:(F:Int)<(j:Int):=by
         rcases qT F j with h6|h6
         ·omega
         ·have hFj:F=zfj L F:=om;have hx1:L[F]? =some x0:=by rw[hF]at hx0;rw[qF]at hx0;exact hx0
          have:=zfi (L:=L) (n:=F) (x:=x0) (by rw[←hFj];exact hx1);unfold zcM at this;omega
        have h7:=zgN (fun e:Ent=>decide (e.1.f<(j:Int))) (S.drop fr) S[fr] (by
         rw[qV];show S[toF S j fr]? =_;rw[←hT,hi];exact e0)
        have:=of_decide_eq_false h7;omega
      clear hT hE;have hrf:=zpK S hsl fr i;have hrl:=zpM S fr i hTb.2;have hgs:∀ e∈zeu S fr i,SqL e.2.1:=fun e he=>hsl e (zpL he);have hcur:=ih i;have lnG:=zfU hgs;have scG:∀ n,Scoped n (.slice ((zeu S fr i).flatMap zn) (i - fr) false):=fun n=>zl fun x hx=>zbx _ _ x hx;refine PW.g (nq2 lnS hrf) ?_;unfold zvz at hf;obtain⟨G,hG⟩:∃ G,G=zeu S fr i:=⟨_,rfl⟩;rw[←hG]at hrf hrl hgs lnG scG hf;have hGb:G.length≤800000:=om;have eGg:=fun(k r:Nat) (hk:k<G.length) (hr:r<147)=>zcf zn 147 G k r hk (fun e he=>zam e (hgs e he)) hr;have eGa:=fun(k:Nat) (hk:k<G.length)=>zc8 zn 147 G k hk (fun e he=>zam e (hgs e he));refine PW.l ?_;suffices hl4:∀ m:Nat,m≤G.length→(((G.drop m).all fun e=>decide (e.2.2.od=(zlj G e:Int)))&&zh7 L S n i)=zh7 L S S.length 0→PL Tryz.prog _ _ [(0,.slice (itL L) L.length fl),(1,.slice (S.flatMap zn) S.length false),(5,.int .i64 (fr:Int)),(7,.int .i64 (i:Int)),(65,.slice (G.flatMap zn) G.length false),(66,.int .i64 (G.length:Int)),(67,.int .i64 (m:Int))] H _ by exact PL.at [0,1,5,7,65,66,67] (hl4 0 om hf) (by rw[hrl,hG];rfl) rfl
      clear hf;intro m hm hf;induction hd4:G.length - m using qG generalizing m with
      | _ d4 ih4=>
       by_cases hmG:m<G.length
       ·have dm:=ze9 hmG;have ea:=eGa m hmG;have hnext:=ih4 (G.length - (m+1)) om (m+1) om;have hse:=hgs _ (qN hmG);rw[zcN _ G m hmG]at hf;generalize G[m]=e at *;have x1:=zam e hse;have x5:(zn e)[5]? =some (.int .i64 e.1.sh):=rfl;have x9:(zn e)[143]? =some (.int .i64 e.2.2.od):=zvL e hse 2;have x11:(zn e).all PV.cell=true:=by simp[zn,zaI,PV.cell,pic]
        have x12:qM 147 (zn e)=zn e:=qD om;refine PL.round ?_;refine PW.g dm ?_;refine PW.t ?_;refine PW.skip ?_;refine PW.b ?_;refine PW.g (nq2 lnG (nq2 ea (nq2 x1 (nq2 x11 x12)))) ?_;refine PW.e ?_;refine PW.g (nq2 lnS hrf) ?_;refine PW.l ?_;suffices hl5:∀ q:Nat,q≤G.length→PL Tryz.prog _ _ [(0,.slice (itL L) L.length fl),(1,.slice (S.flatMap zn) S.length false),(5,.int .i64 (fr:Int)),(7,.int .i64 (i:Int)),(9,.ptr H.length 0 0),(10,.int .i64 (((G.take q).countP fun o=>decide (o.1.sh<e.1.sh):Nat):Int)),(65,.slice (G.flatMap zn) G.length false),(66,.int .i64 (G.length:Int)),(67,.int .i64 (m:Int)),(74,.slice (G.flatMap zn) G.length false),(75,.int .i64 (G.length:Int)),(76,.int .i64 (q:Int))] (H++[⟨71,0,zn e⟩]) _ by exact PL.at [0,1,5,7,9,10,65,66,67,74,75,76] (hl5 0 om) (by simp[kp,slot,Nat.beq,hrl]) rfl
        intro q hq;induction hd5:G.length - q using qG generalizing q with
        | _ d5 ih5=>
         have hcb:(G.take q).countP (fun o=>decide (o.1.sh<e.1.sh))≤800000:=by have:=List.countP_le_length (p:=fun o:Ent=>decide (o.1.sh<e.1.sh)) (l:=G.take q);have:=List.length_take_le q G;omega
         by_cases hqG:q<G.length
         ·have dq:=ze9 hqG;have ea2:=eGa q hqG;have hnx:=ih5 (G.length - (q+1)) om (q+1) om rfl;have hso:=hgs _ (qN hqG);rw[List.take_add_one,qA hqG,List.countP_append,Option.toList_some]at hnx;generalize G[q]=o at *;generalize (G.take q).countP (fun o=>decide (o.1.sh<e.1.sh))=ct at *;have z1:=zam o hso;have z5:(zn o)[5]? =some (.int .i64 o.1.sh):=rfl;have z11:(zn o).all PV.cell=true:=by simp[zn,zaI,PV.cell,pic]
          have z12:qM 147 (zn o)=zn o:=qD om;have trim:∀ c:Int,Vs (⟨97,H⟩:Env) [(0,.slice (itL L) L.length fl),(1,.slice (S.flatMap zn) S.length false),(5,.int .i64 (fr:Int)),(7,.int .i64 (i:Int)),(9,.ptr H.length 0 0),(10,.int .i64 c),(65,.slice (G.flatMap zn) G.length false),(66,.int .i64 (G.length:Int)),(67,.int .i64 (m:Int)),(74,.slice (G.flatMap zn) G.length false),(75,.int .i64 (G.length:Int)),(76,.int .i64 ((q+1:Nat):Int))] (H++[⟨71,0,zn e⟩]++[⟨71,0,zn o⟩]) [(0,.slice (itL L) L.length fl),(1,.slice (S.flatMap zn) S.length false),(5,.int .i64 (fr:Int)),(7,.int .i64 (i:Int)),(9,.ptr H.length 0 0),(10,.int .i64 c),(65,.slice (G.flatMap zn) G.length false),(66,.int .i64 (G.length:Int)),(67,.int .i64 (m:Int)),(74,.slice (G.flatMap zn) G.length false),(75,.int .i64 (G.length:Int)),(76,.int .i64 ((q+1:Nat):Int))] (H++[⟨71,0,zn e⟩]):=fun c=>by
           refine Vs.trim (fun hh=>zhC (fun b hb x hx=> ?_) hh) sp rfl ?_
           ·rw[List.mem_singleton]at hb;subst hb;exact zbx _ [e] x (by simpa[enB]using hx)
           ·have hl:(H++[⟨71,0,zn e⟩]:za).length=H.length+1:=by simp
            rw[hl];exact⟨.id (zl (zcw _ _)),.id (scS _),.id (.int _ _),.id (.int _ _),.id (.ptr om),.id (.int _ _),.id (zl fun x hx=>zbx _ _ x hx),.id (.int _ _),.id (.int _ _),.id (zl fun x hx=>zbx _ _ x hx),.id (.int _ _),.id (.int _ _),trivial⟩
          refine PL.round ?_;refine PW.g dq ?_;refine PW.t ?_;refine PW.skip ?_;refine PW.b ?_;refine PW.g (nq2 lnG (nq2 ea2 (nq2 z1 (nq2 z11 z12)))) ?_;by_cases hlt:o.1.sh<e.1.sh
          ·have dl:decide (o.1.sh<e.1.sh)=true:=decide_eq_true hlt;rw[show([o].countP fun o=>decide (o.1.sh<e.1.sh))=1 by simp[hlt]]at hnx;refine PW.g (nq2 x1 (nq2 z1 (nq2 x5 (nq2 z5 dl)))) ?_;refine PW.t ?_;refine PW.e ?_;refine PW.e ?_;exact PL.at [0,1,5,7,9,10,65,66,67,74,75,76] (PL.view (trim ((ct+1:Nat):Int)) hnx) rfl sp
          ·have dl:decide (o.1.sh<e.1.sh)=false:=decide_eq_false hlt;rw[show([o].countP fun o=>decide (o.1.sh<e.1.sh))=0 by simp[hlt],qO]at hnx;refine PW.g (nq2 x1 (nq2 z1 (nq2 x5 (nq2 z5 dl)))) ?_;refine PW.us ?_;refine PW.e ?_;exact PL.at [0,1,5,7,9,10,65,66,67,74,75,76] (PL.view (trim (ct:Int)) hnx) rfl sp
         ·have hqG':q=G.length:=om;subst hqG';clear ih5;rw[List.take_length]at hcb ⊢;have hbe:G.countP (fun o=>decide (o.1.sh<e.1.sh))=zlj G e:=rfl;rw[hbe]at hcb ⊢;refine PL.round ?_;refine PW.f (fun K k=>by simp(disch:=omega) only[go_sem,↓reduceIte,reduceCtorEq,zl9 G.length];exact k) ?_;refine PW.u ?_;refine PW.exit ?_;by_cases hod:e.2.2.od=(zlj G e:Int)
          ·have dd:(e.2.2.od !=(zlj G e:Int))=false:=by simp[hod]
           rw[decide_eq_true hod,qH]at hf;refine PW.g (nq2 x1 (nq2 x9 dd)) ?_;refine PW.us ?_;refine PW.e ?_;refine PL.keep [0,1,5,7,65,66,67] ?_;refine PL.view (Vs.trim (F1:=[(0,.slice (itL L) L.length fl),(1,.slice (S.flatMap zn) S.length false),(5,.int .i64 (fr:Int)),(7,.int .i64 (i:Int)),(65,.slice (G.flatMap zn) G.length false),(66,.int .i64 (G.length:Int)),(67,.int .i64 ((m+1:Nat):Int))]) (H1:=H) (fun h=>h) (qL _) rfl ?_) (hnext hf rfl);exact⟨.id (zl (zcw _ _)),.id (scS _),.id (.int _ _),.id (.int _ _),.id (zl fun x hx=>zbx _ _ x hx),.id (.int _ _),.id (.int _ _),trivial⟩
          ·have dd:(e.2.2.od !=(zlj G e:Int))=true:=by simpa using hod
           rw[decide_eq_false hod,qJ,qJ]at hf;refine PW.g (nq2 x1 (nq2 x9 dd)) ?_;refine PW.t ?_;refine PW.e ?_;refine PW.v (.bool false) ?_;rw[←hf];exact fin _ _
       ·have hmG':m=G.length:=om;subst hmG';rw[qY,List.all_nil,qH]at hf;refine PL.round ?_;refine PW.f (fun K k=>by simp(disch:=omega) only[go_sem,↓reduceIte,reduceCtorEq,zl9 G.length];exact k) ?_;refine PW.u ?_;refine PW.exit ?_;refine PW.e ?_;exact PL.at [0,1,5] (hcur om hTb.2 hf) rfl rfl
def zdO(p:Pi):List Bool:=zj p.od.toNat 10++zj p.ty.toNat 2++zj p.st.toNat 2++[p.tf,p.rp,p.al]
def uv(t:Int)(q:List UInt8):PV:=.agg [.int .i64 t,.slice (bs q) q.length false]
def zef(p:Pi):Int×List UInt8×Int:=if zf1 p then(181,pk (zdO p++[true]),0)else(0,[],2)
theorem zci{n:Nat}{xs:List PV}(h:∀ x∈xs,Scoped n x):∀(j:Nat) (x:PV),xs[j]? =some x→Scoped n x:=fun j x hx=>h x (qI hx)
theorem znH(n:Nat)(t:Int)(q:List UInt8):Scoped n (uv t q):=zaB fun x hx=>by
 simp only[jA,qX,or_false]at hx;rcases hx with rfl|rfl
 ·exact .int _ _
 ·exact zl (zo _ _)
theorem zbt(n:Nat)(t:Int)(q:List UInt8)(e:Int):Scoped n (.tup [uv t q,.int .i64 e]):=.tup (zci fun x hx=>by
 simp only[jA,qX,or_false]at hx;rcases hx with rfl|rfl
 ·exact znH _ _ _
 ·exact .int _ _)
theorem zoN(b:Bool):zj (if b then 1 else 0) 1=[b]:=by cases b<;>rfl
theorem zld{p:Pi}(h:zf1 p=true):0≤p.od∧p.od≤1023∧1≤p.ty∧p.ty≤3∧1≤p.st∧p.st≤3:=by simp[zf1]at h;omega
theorem wA0(j:Nat):wA j []=⟨313,0,[.msl j 0 0 0 1 true,.int .i64 0]⟩:=rfl
theorem wB0:wB []=⟨5,0,[]⟩:=rfl
theorem zsu(p:Pi)(H:za):CallOk Tryz.prog 91 [.agg (pic p)] H (.tup [uv (zef p).1 (zef p).2.1,.int .i64 (zef p).2.2]) H:=by
 generalize hr:zef p=r;obtain⟨ty,st,od,tf,rp,al⟩:=p;have hcd:=fun H=>zjJ ⟨ty,st,od,tf,rp,al⟩ H;refine CallOk.body (F0:=[(0,.agg [.int .i64 ty,.int .i64 st,.int .i64 od,.bool tf,.bool rp,.bool al])]) Tryz.func91 rfl Tryz.ntmps91 Tryz.results91 rfl kr rfl ?_;refine PW.e ?_;refine PW.k hcd ?_;refine PW.c (fun h=> ?_) (fun h=> ?_)
 ·have h1:zf1 ⟨ty,st,od,tf,rp,al⟩=false:=by simpa using h
  refine PW.e ?_;refine PW.v (.tup [.agg [.int .i64 0,.slice [] 0 true],.int .i64 2]) ?_;rw[←hr,zef,h1];exact Fin.base (Fz.tupC ⟨Fz.aggC ⟨.id (.int _ _),.slice rfl (fun j x y hx=>by simp at hx) (fun e=>by cases e),trivial⟩,.id (.int _ _),trivial⟩)
 have h1:zf1 ⟨ty,st,od,tf,rp,al⟩=true:=by simpa using h
 obtain⟨g1,g2,g3,g4,g5,g6⟩:=zld h1;simp only at g1 g2 g3 g4 g5 g6;refine PW.skip ?_;refine PW.k zjo ?_;refine PW.view (Vs.ghostH (id:=H.length+2) (j:=0) 5 1 (hp2 _ _ _ _ _) rfl) ?_;obtain⟨o,rfl⟩:∃ o:Nat,od=o:=⟨od.toNat,om⟩;obtain⟨t,rfl⟩:∃ o:Nat,ty=o:=⟨ty.toNat,om⟩;obtain⟨s,rfl⟩:∃ o:Nat,st=o:=⟨st.toNat,om⟩;have hbb:zdO ⟨t,s,o,tf,rp,al⟩=(zj o 10++(zj t 2++zj s 2))++[tf,rp,al]:=by simp[zdO]
 have po:o / 2^10=0:=om;have pt:t / 2^2=0:=om;have ps:s / 2^2=0:=om;(repeat refine PW.seq ?_);refine PW.at [1,2,4] (F1:=[(1,.ptr H.length 0 0),(2,.ptr (H.length+1) 0 0),(4,.ptr (H.length+2) 0 0)]) (H1:=H++[⟨35,0,[.int .i64 (t:Int),.int .i64 (s:Int),.int .i64 (o:Int),.bool tf,.bool rp,.bool al]⟩,⟨58,0,[.int .i64 0,.slice [] 0 true]⟩,wA (H.length+3) [],wB []]) ?_ rfl (by rw[wA0,wB0];simp[hs2]);have put1:=fun(L:List Bool) (V n:Nat) (hn:n≤32) (hV:V / 2^n=0) (hL:L.length≤1000000000)=>zfF (H.length+2) (H.length+3) L V n (H++[⟨35,0,[.int .i64 (t:Int),.int .i64 (s:Int),.int .i64 (o:Int),.bool tf,.bool rp,.bool al]⟩,⟨58,0,[.int .i64 0,.slice [] 0 true]⟩,wA (H.length+3) L,wB L]) (hp2 _ _ _ _ _) (hp3 _ _ _ _ _ _) om hn hV hL;simp only[two,hs2,hs3]at put1;refine PW.f (fun K k=>by simp(disch:=omega) only[go_sem,↓reduceIte,reduceCtorEq];refine VCx.call (put1 [] o 10 om po sp) rfl ?_;simp(disch:=omega) only[go_sem,↓reduceIte,reduceCtorEq];exact k) ?_;refine PW.f (fun K k=>by simp(disch:=omega) only[go_sem,↓reduceIte,reduceCtorEq];refine VCx.call (put1 _ t 2 om pt (by simp[zm])) rfl ?_;simp(disch:=omega) only[go_sem,↓reduceIte,reduceCtorEq];exact k) ?_;refine PW.f (fun K k=>by simp(disch:=omega) only[go_sem,↓reduceIte,reduceCtorEq];refine VCx.call (put1 _ s 2 om ps (by simp[zm])) rfl ?_;simp(disch:=omega) only[go_sem,↓reduceIte,reduceCtorEq];exact k) ?_;generalize hB:zj o 10++(zj t 2++zj s 2)=B at *;have hBl:B.length=14:=by rw[←hB];simp[zm]
 refine PW.e ?_;refine PW.l ?_;suffices hloop:∀(k:Nat) (L:List Bool),k≤3→L=B++[tf,rp,al].take k→PL Tryz.prog _ _ [(2,.ptr (H.length+1) 0 0),(4,.ptr (H.length+2) 0 0),(34,.slice (fs [tf,rp,al]) 3 true),(35,.int .i64 3),(36,.int .i64 (k:Int))]
   (H++[⟨35,0,[.int .i64 (t:Int),.int .i64 (s:Int),.int .i64 (o:Int),.bool tf,.bool rp,.bool al]⟩,⟨58,0,[.int .i64 0,.slice [] 0 true]⟩,wA (H.length+3) L,wB L]) _ by
  exact PL.at [2,4,34,35,36] (hloop 0 B (qR _) sp) rfl rfl
 intro k L hk hL;have hLl:L.length≤17:=by rw[hL];simp[hBl];omega
 induction hm:3 - k using qG generalizing k L with
 | _ m ih=>
  refine PL.round ?_;refine PW.e ?_;refine PW.c (fun h=> ?_) (fun h=> ?_)
  ·have h4:k<3:=ot h;have htk:B++[tf,rp,al].take (k+1)=L++[zdR [tf,rp,al] k]:=by rw[hL,List.append_assoc];have:k=0∨k=1∨k=2:=om;rcases this with rfl|rfl|rfl<;>rfl
   have hfg:=zq3 [tf,rp,al] k h4;refine PW.skip ?_;refine PW.b ?_;refine PW.f (fun K k=>by simp(disch:=omega) only[go_sem,↓reduceIte,reduceCtorEq,hfg,zvE];exact k) ?_;generalize zdR [tf,rp,al] k=b at *;have hnext:=ih (3 - (k+1)) om (k+1) (L++[b]) om htk.symm (by rw[←htk];simp[hBl];omega) rfl;have hv:=zoN b;refine PW.e ?_;refine PW.e ?_;refine PW.c (fun h=> ?_) (fun h=> ?_)
   ·subst h;simp only[if_true]at hv;have hp:=put1 L 1 1 om (by decide) om;rw[hv]at hp;refine PW.e ?_;refine PW.f (fun K k=>by simp(disch:=omega) only[go_sem,↓reduceIte,reduceCtorEq];refine VCx.call (hp) rfl ?_;simp(disch:=omega) only[go_sem,↓reduceIte,reduceCtorEq];exact k) ?_;refine PW.e ?_;exact PL.at [2,4,34,35,36] hnext rfl rfl
   ·subst h;simp only[Bool.false_eq_true,if_false]at hv;have hp:=put1 L 0 1 om (by decide) om;rw[hv]at hp;refine PW.skip ?_;refine PW.f (fun K k=>by simp(disch:=omega) only[go_sem,↓reduceIte,reduceCtorEq];refine VCx.call (hp) rfl ?_;simp(disch:=omega) only[go_sem,↓reduceIte,reduceCtorEq];exact k) ?_;refine PW.e ?_;exact PL.at [2,4,34,35,36] hnext rfl rfl
  ·have h4:k=3:=ofF h;subst h4;have hLh:L=zdO ⟨t,s,o,tf,rp,al⟩:=by rw[hbb,hL];rfl
   refine PW.exit ?_;have hp:=zey (H.length+2) (H.length+3) L (H++[⟨35,0,[.int .i64 (t:Int),.int .i64 (s:Int),.int .i64 (o:Int),.bool tf,.bool rp,.bool al]⟩,⟨58,0,[.int .i64 0,.slice [] 0 true]⟩,wA (H.length+3) L,wB L]) (hp2 _ _ _ _ _) (hp3 _ _ _ _ _ _) om;refine PW.f (fun K k=>by simp(disch:=omega) only[go_sem,↓reduceIte,reduceCtorEq];refine VCx.call (hp) rfl ?_;simp(disch:=omega) only[go_sem,↓reduceIte,reduceCtorEq];exact k) ?_;refine PW.v (.tup [.agg [.int .i64 181,.slice (bs (pk (L++[true]))) (pk (L++[true])).length false],.int .i64 0]) ?_;rw[←hr,zef,h1,hLh];exact Fin.base (.id (zbt _ _ _ _))
theorem ztp(b:Bool)(H:za):CallOk Tryz.prog 270 [.bool b] H (.int .u32 (b.toNat:Int)) H:=by refine CallOk.go Tryz.func270 Tryz.ntmps270 Tryz.results270 ?_;cases b<;>(repeat'(first|refine PW.seq ?_|refine PW.skip ?_|refine PW.block ?_|((first|refine PW.rg rfl fun K hK=> ?_|refine PW.draw mix kr fun K hK=> ?_);simp(disch:=omega) only[go_sem,↓reduceIte,reduceCtorEq])|((first|refine zh ?_ ?_|refine ze ?_ ?_|refine And.intro ?_ ?_)<;>intro h<;>(try simp only[nqb]at h)<;>simp(disch:=omega) only[go_sem,↓reduceIte,reduceCtorEq,h])|(refine hK _ _ ?_;clear hK K)|(refine PW.cond (t:=_) rfl (fun h=> ?_) (fun h=> ?_)<;>(try(cases h;done))<;>(try simp only[nqb]at h))));all_goals((refine PW.ret ⟨_,rfl,?_⟩;first|refine .inl ⟨?_,rfl⟩|refine Fin.base (.id' ?_ (.bool _))|refine Fin.base (.id' ?_ (.int _ _)));rfl)
theorem zb3(a b c:Bool):bs (zb [a,b,c])=[.int .u8 (a.toNat:Int),.int .u8 (b.toNat:Int),.int .u8 (c.toNat:Int)]:=by cases a<;>cases b<;>cases c<;>rfl
theorem zfn(b:Bool):(b.toNat:Int)≤255:=by cases b<;>decide
theorem zpU(p:Pi)(H:za):CallOk Tryz.prog 188 [.agg (pic p)] H (.tup [uv (zef p).1 (zef p).2.1,.int .i64 (zef p).2.2]) H:=by
 generalize hr:zef p=r;obtain⟨ty,st,od,tf,rp,al⟩:=p;have hcd:=fun H=>zhS ⟨ty,st,od,tf,rp,al⟩ H;refine CallOk.body (F0:=[(0,.agg [.int .i64 ty,.int .i64 st,.int .i64 od,.bool tf,.bool rp,.bool al])]) Tryz.func188 rfl Tryz.ntmps188 Tryz.results188 rfl kr rfl ?_;refine PW.e ?_;refine PW.k hcd ?_;refine PW.c (fun h=> ?_) (fun h=> ?_)
 ·have h1:zf1 ⟨ty,st,od,tf,rp,al⟩=false:=by simpa using h
  refine PW.e ?_;refine PW.v (.tup [.agg [.int .i64 0,.slice [] 0 true],.int .i64 2]) ?_;rw[←hr,zef,h1];exact Fin.base (Fz.tupC ⟨Fz.aggC ⟨.id (.int _ _),.slice rfl (fun j x y hx=>by simp at hx) (fun e=>by cases e),trivial⟩,.id (.int _ _),trivial⟩)
 have h1:zf1 ⟨ty,st,od,tf,rp,al⟩=true:=by simpa using h
 obtain⟨g1,g2,g3,g4,g5,g6⟩:=zld h1;simp only at g1 g2 g3 g4 g5 g6;refine PW.skip ?_;obtain⟨o,rfl⟩:∃ o:Nat,od=o:=⟨od.toNat,om⟩;obtain⟨t,rfl⟩:∃ o:Nat,ty=o:=⟨ty.toNat,om⟩;obtain⟨s,rfl⟩:∃ o:Nat,st=o:=⟨st.toNat,om⟩;have hbb:zdO ⟨t,s,o,tf,rp,al⟩=(zj o 10++(zj t 2++zj s 2))++[tf,rp,al]:=by simp[zdO]
 have vo:=zm o 10;have vt:=zm t 2;have vs:=zm s 2;refine PW.f (fun K k=>by simp(disch:=omega) only[go_sem,↓reduceIte,reduceCtorEq];refine VCx.call (zaN o 10 _ om) rfl ?_;simp(disch:=omega) only[go_sem,↓reduceIte,reduceCtorEq];exact k) ?_;refine PW.f (fun K k=>by simp(disch:=omega) only[go_sem,↓reduceIte,reduceCtorEq,zc,zP,vo,vt,vs];refine VCx.call (zaN t 2 _ om) rfl ?_;simp(disch:=omega) only[go_sem,↓reduceIte,reduceCtorEq,zc,zP,vo,vt,vs];exact k) ?_;refine PW.f (fun K k=>by simp(disch:=omega) only[go_sem,↓reduceIte,reduceCtorEq,zc,zP,vo,vt,vs];refine VCx.call (zaN s 2 _ om) rfl ?_;simp(disch:=omega) only[go_sem,↓reduceIte,reduceCtorEq,zc,zP,vo,vt,vs];exact k) ?_;have b1:=zfn tf;have b2:=zfn rp;have b3:=zfn al;(repeat refine PW.seq ?_);refine PW.draw mix kr fun K hK=> ?_;simp(disch:=omega) only[go_sem,↓reduceIte,reduceCtorEq];(repeat'(first|((first|refine ze ?_ ?_|refine And.intro ?_ ?_)<;>intro h<;>(try simp only[nqb]at h)<;>simp(disch:=omega) only[go_sem,↓reduceIte,reduceCtorEq,zc,zP,vo,vt,vs,h])|((first|refine VCy.call (ztp _ _) rfl ?_);simp(disch:=omega) only[go_sem,↓reduceIte,reduceCtorEq,zc,zP,vo,vt,vs])));refine hK _ _ ?_;clear hK K;obtain⟨B,hB⟩:∃ B,B=zdO ⟨t,s,o,tf,rp,al⟩:=⟨_,rfl⟩;have hBl:B.length=17:=by rw[hB,hbb];simp[vo,vt,vs]
 have hcells:bs (zb B)=bs (zb (zj o 10))++(bs (zb (zj t 2))++(bs (zb (zj s 2))++[.int .u8 (tf.toNat:Int),.int .u8 (rp.toNat:Int),.int .u8 (al.toNat:Int)])):=by rw[hB,hbb,←zb3];simp[zcx,zz]
 refine PW.at [2,4] (F1:=[(2,.ptr (H.length+1) 0 0),(4,.msl (H.length+2) (bs (zb B)).length 0 17 1 true)]) (H1:=H++[⟨35,0,[.int .i64 (t:Int),.int .i64 (s:Int),.int .i64 (o:Int),.bool tf,.bool rp,.bool al]⟩,⟨58,0,[.int .i64 0,.slice [] 0 true]⟩,⟨5,(bs (zb B)).length,bs (zb B)⟩,⟨5,2,bs (zb (zj t 2))⟩,⟨5,2,bs (zb (zj s 2))⟩]) ?_ ?_ ?_;rotate_left
 ·have tt:qM 2 (bs (zb (zj t 2)))=bs (zb (zj t 2)):=qD (by simp[zc,zP,vt]);have ts:qM 2 (bs (zb (zj s 2)))=bs (zb (zj s 2)):=qD (by simp[zc,zP,vs]);rw[hcells];simp(disch:=omega) only[go_sem,↓reduceIte,reduceCtorEq,tt,ts]
 ·have tt:qM 2 (bs (zb (zj t 2)))=bs (zb (zj t 2)):=qD (by simp[zc,zP,vt]);have ts:qM 2 (bs (zb (zj s 2)))=bs (zb (zj s 2)):=qD (by simp[zc,zP,vs]);rw[hcells];simp only[tt,ts]
 have hp:CallOk Tryz.prog 269 [.msl (H.length+2) (bs (zb B)).length 0 17 1 true] (H++[⟨35,0,[.int .i64 (t:Int),.int .i64 (s:Int),.int .i64 (o:Int),.bool tf,.bool rp,.bool al]⟩,⟨58,0,[.int .i64 0,.slice [] 0 true]⟩,⟨5,(bs (zb B)).length,bs (zb B)⟩,⟨5,2,bs (zb (zj t 2))⟩,⟨5,2,bs (zb (zj s 2))⟩])
   (.slice (bs (pk (B++[true]))) (pk (B++[true])).length false) (H++[⟨35,0,[.int .i64 (t:Int),.int .i64 (s:Int),.int .i64 (o:Int),.bool tf,.bool rp,.bool al]⟩,⟨58,0,[.int .i64 0,.slice [] 0 true]⟩,⟨5,(bs (zb B)).length+1,[]⟩,⟨5,2,bs (zb (zj t 2))⟩,⟨5,2,bs (zb (zj s 2))⟩]):=by
  refine CallOk.frz1 (args':=[.slice (bs (zb B)) B.length false]) (id:=H.length+2) (k:=⟨5,(bs (zb B)).length,bs (zb B)⟩) (hp2 _ _ _ _ _) ?_ ⟨.inr ⟨17,1,true,rfl,by simp[zc,zP,hBl],by rw[hBl]⟩,trivial⟩;rw[hs2];exact zdH B false _ om
 refine PW.f (fun K k=>by simp(disch:=omega) only[go_sem,↓reduceIte,reduceCtorEq];refine VCx.call (hp) rfl ?_;simp(disch:=omega) only[go_sem,↓reduceIte,reduceCtorEq];exact k) ?_;refine PW.v (.tup [.agg [.int .i64 181,.slice (bs (pk (B++[true]))) (pk (B++[true])).length false],.int .i64 0]) ?_;rw[←hr,zef,h1,←hB];exact Fin.base (.id (zbt _ _ _ _))
def rR(j v n a:Nat):Blk:=⟨284,0,[.msl j v 0 n 1 true,.int .i64 (a:Int)]⟩
def rB(q:List UInt8)(v:Nat):Blk:=⟨5,v,bs (zb (bl q))⟩
theorem zd1(i j v:Nat)(q:List UInt8)(n a:Nat)(H:za)(hA:H[i]? =some (rR j v n a))(hB:H[j]? =some (rB q v))(ha:a≤n)(hn:n≤1000000000):CallOk Tryz.prog 119 [.ptr i 0 0] H (.int .i64 ((n - a:Nat):Int)) H:=by have e:(n:Int) - (a:Int)=((n - a:Nat):Int):=om;refine CallOk.go Tryz.func119 Tryz.ntmps119 Tryz.results119 ?_;refine PW.e ?_;(repeat refine PW.seq ?_);refine PW.draw mix kr fun K hK=> ?_;simp(disch:=omega) only[go_sem,↓reduceIte,reduceCtorEq,hA,hB,rR,rB,e];refine hK _ _ ?_;clear hK K;exact PW.ret ⟨_,rfl,Fin.now⟩
theorem zd0(i j v:Nat)(q:List UInt8)(n a m:Nat)(H:za)(hA:H[i]? =some (rR j v n a))(hB:H[j]? =some (rB q v))(hne:i≠j)(ha:a+m≤n)(hn:n≤8 * q.length)(hq:q.length≤100000000)(hm:m≤32):
  CallOk Tryz.prog 117 [.ptr i 0 0,.int .i64 (m:Int)] H (.tup [.int .u32 (vl q a m:Int),.int .i64 0]) (H.set i (rR j v n (a+m))):=by
 have hi:=(qC.1 hA).1;have hlf:=zd1 i j v q n a H hA hB om om;refine CallOk.go Tryz.func117 Tryz.ntmps117 Tryz.results117 ?_;refine PW.e ?_;refine PW.e ?_;refine PW.us ?_;refine PW.f (fun K k=>by simp(disch:=omega) only[go_sem,↓reduceIte,reduceCtorEq];refine VCx.call (hlf) rfl ?_;simp(disch:=omega) only[go_sem,↓reduceIte,reduceCtorEq];exact k) ?_;refine PW.us ?_;refine PW.e ?_;refine PW.e ?_;refine PW.l ?_;suffices hloop:∀(k:Nat),k≤m→PL Tryz.prog _ _ [(0,.ptr i 0 0),(1,.int .i64 (m:Int)),(6,.int .u32 (vl q a k:Int)),(7,.int .i64 (k:Int))] H _ by exact PL.at [0,1,6,7] (hloop 0 (qR _)) rfl rfl
 intro k hk;induction hmk:m - k using qG generalizing k with
 | _ r ih=>
  refine PL.round ?_;refine PW.e ?_;refine PW.c (fun h=> ?_) (fun h=> ?_)
  ·have h4:k<m:=ot h;have hnext:=ih (m - (k+1)) om (k+1) om rfl;have hul:=zbV q (a+k);have hvl:=zf6 q a k;have hvl2:2 * vl q a k<4294967296:=by have:2^k≤2^31:=Nat.pow_le_pow_right om om;omega
   have e4:(a:Int)+(k:Int)=((a+k:Nat):Int):=om;have hbl:=zch q;refine PW.skip ?_;refine PW.b ?_;(repeat refine PW.seq ?_);refine PW.draw mix kr fun K hK=> ?_;simp(disch:=omega) only[go_sem,↓reduceIte,reduceCtorEq,hA,hB,rR,rB,e4,zc,zP,hbl,zhW,zio,zmQ];refine hK _ _ ?_;clear hK K;refine PW.e ?_;exact PL.at [0,1,6,7] hnext rfl rfl
  ·have h4:k=m:=ofF h;subst h4;have e4:(a:Int)+(k:Int)=((a+k:Nat):Int):=om;refine PW.exit ?_;refine PW.f (fun K k=>by simp(disch:=omega) only[go_sem,↓reduceIte,reduceCtorEq,hA,rR,e4];exact k) ?_;refine PW.e ?_;exact PW.ret ⟨_,rfl,Fin.now⟩
theorem zfA(i j v:Nat)(q:List UInt8)(n a m:Nat)(H:za)(hA:H[i]? =some (rR j v n a))(hB:H[j]? =some (rB q v))(ha:a≤n)(hn:n≤1000000000)(hm:m≤32)(hs:n - a<m):
  CallOk Tryz.prog 117 [.ptr i 0 0,.int .i64 (m:Int)] H (.tup [.int .u32 0,.int .i64 4]) H:=by
 have hlf:=zd1 i j v q n a H hA hB ha hn;have d1:decide (((n - a:Nat):Int)<(m:Int))=true:=decide_eq_true om;refine CallOk.go Tryz.func117 Tryz.ntmps117 Tryz.results117 ?_;refine PW.e ?_;refine PW.e ?_;refine PW.us ?_;refine PW.f (fun K k=>by simp(disch:=omega) only[go_sem,↓reduceIte,reduceCtorEq,d1];refine VCx.call (hlf) rfl ?_;simp(disch:=omega) only[go_sem,↓reduceIte,reduceCtorEq,d1];exact k) ?_;refine PW.t ?_;refine PW.e ?_;exact PW.ret ⟨_,rfl,Fin.now⟩
theorem zqq(q:List UInt8)(f:Bool)(H:za)(hl:q.length≤100000000)(hb:q.length=0∨zaD q=0):
  CallOk Tryz.prog 116 [.slice (bs q) q.length f] H (.tup [.nilp,.int .i64 3]) H:=by
 refine CallOk.go Tryz.func116 Tryz.ntmps116 Tryz.results116 ?_;by_cases h0:q.length=0
 ·refine PW.e ?_;(repeat refine PW.seq ?_);refine PW.rg rfl fun K hK=> ?_;simp(disch:=omega) only[go_sem,↓reduceIte,reduceCtorEq,h0];refine hK _ _ ?_;clear hK K;refine PW.c (fun h=> ?_) (fun h=> ?_)
  ·refine PW.e ?_;exact PW.ret ⟨_,rfl,Fin.now⟩
  ·cases h
 ·have e1:(q.length:Int) - 1=((q.length - 1:Nat):Int):=om;have hby:byt q (q.length - 1)=0:=by have:byt q (q.length - 1)=(zaD q:Int):=rfl;omega
  refine PW.e ?_;(repeat refine PW.seq ?_);refine PW.rg rfl fun K hK=> ?_;simp(disch:=omega) only[go_sem,↓reduceIte,reduceCtorEq,e1,zK,zc,hby];refine hK _ _ ?_;clear hK K;refine PW.c (fun h=> ?_) (fun h=> ?_)
  ·refine PW.e ?_;exact PW.ret ⟨_,rfl,Fin.now⟩
  ·cases h
theorem zsK(q:List UInt8)(f:Bool)(H:za)(hl:q.length≤100000000)(hq:q.length≠0)(hb:zaD q≠0):
  CallOk Tryz.prog 116 [.slice (bs q) q.length f] H (.tup [.ptr (H.length+1) 0 0,.int .i64 0]) (H++[rB q (8 * q.length),rR H.length (8 * q.length) (nb q) 0]):=by
 have e1:(q.length:Int) - 1=((q.length - 1:Nat):Int):=om;have hby:byt q (q.length - 1)=(zaD q:Int):=rfl;obtain⟨n1,n2,n3⟩:=zjq q hq hb;refine CallOk.go Tryz.func116 Tryz.ntmps116 Tryz.results116 ?_;refine PW.e ?_;refine PW.f (fun K k=>by simp(disch:=omega) only[go_sem,↓reduceIte,reduceCtorEq,e1,zK,zc,hby];exact k) ?_;refine PW.us ?_;refine PW.e ?_;refine PW.e ?_;(repeat refine PW.seq ?_);refine PW.view (Vs.ghost 4 5 1 rfl) ?_;refine PW.block (PW.loop ?_);suffices hloop:∀(k:Nat),k≤q.length→PL Tryz.prog _ _ [(0,.slice (bs q) q.length f),(4,.msl H.length (8 * k) 0 (8 * k) 1 true),(5,.int .i64 (k:Int))] (H++[⟨5,(8 * k),bs (zb (bl (q.take k)))⟩]) _ by exact PL.at [0,4,5] (hloop 0 (qR _)) (by simp(disch:=omega) only[go_sem,↓reduceIte,reduceCtorEq];simp[zb,bs,bl]) (by simp[zb,bs,bl])
 intro k hk;induction hm:q.length - k using qG generalizing k with
 | _ m ih=>
  have hlk:(zb (bl (q.take k))).length=8 * k:=by rw[zP,zch,List.length_take];omega
  refine PL.round ?_;refine PW.e ?_;refine PW.c (fun h=> ?_) (fun h=> ?_)
  ·have h4:k<q.length:=ot h;have hnext:=ih (q.length - (k+1)) om (k+1) om rfl;rw[zto q k h4,zcx,zz]at hnext;have hbk:byt q k=((q.getD k 0).toNat:Int):=rfl;have hr:=zf4 q k;have hv8:(zj (q.getD k 0).toNat 8).length=8:=zm _ _;refine PW.skip ?_;refine PW.b ?_;have zdO:=zot (q.getD k 0).toNat 8 (H++[⟨5,(8 * k),bs (zb (bl (q.take k)))⟩]) om;refine PW.f (fun K k=>by simp(disch:=omega) only[go_sem,↓reduceIte,reduceCtorEq,zK,zc,hlk,hbk,zP,hv8];refine VCx.call (zdO) rfl ?_;simp(disch:=omega) only[go_sem,↓reduceIte,reduceCtorEq,zK,zc,hlk,hbk,zP,hv8];exact k) ?_;refine PW.e ?_;have hce:(bs (zb (bl (qM k q)))++bs (zb (zj (q.getD k 0).toNat 8))).length=8 * (k+1):=by rw[List.length_append,zc,zc,hlk,zP,hv8];omega
   refine PL.at [0,4,5] hnext ?_ ?_
   ·refine sqz ?_;rw[hce];rfl
   ·rw[hce]
  ·have h4:k=q.length:=ofF h;subst h4;rw[qD (qL _)]at hlk ⊢;refine PW.exit ?_;have hbl:=zch q;have e2:((8 * q.length:Nat):Int) - 1=((8 * q.length - 1:Nat):Int):=om;refine PW.f (fun K k=>by simp(disch:=omega) only[go_sem,↓reduceIte,reduceCtorEq,zc,e2];exact k) ?_;refine PW.l ?_;clear ih;suffices hloop:∀(m:Nat),nb q≤m→m<8 * q.length→PL Tryz.prog _ _ [(4,.msl H.length (8 * q.length) 0 (8 * q.length) 1 true),(6,.int .i64 (m:Int))] (H++[⟨5,8 * q.length,bs (zb (bl q))⟩]) _ by exact PL.at [4,6] (hloop (8 * q.length - 1) om om) rfl rfl
   intro m hm1 hm2;induction m using qG with
   | _ m ih=>
    refine PL.round ?_;by_cases h5:m=nb q
    ·have h6:zN q m=1:=by rw[h5];exact n1
     refine PW.f (fun K k=>by simp(disch:=omega) only[go_sem,↓reduceIte,reduceCtorEq,zc,zP,hbl,zhW,h6];exact k) ?_;refine PW.u ?_;refine PW.exit ?_;refine PW.g h5 ?_;exact PW.ret ⟨_,rfl,Fin.now⟩
    ·have h6:zN q m=0:=n3 m om hm2;have e3:(m:Int) - 1=((m - 1:Nat):Int):=om;refine PW.f (fun K k=>by simp(disch:=omega) only[go_sem,↓reduceIte,reduceCtorEq,zc,zP,hbl,zhW,h6];exact k) ?_;refine PW.c (fun h=> ?_) (fun h=> ?_)
     ·refine PW.skip ?_;refine PW.b ?_;refine PW.g e3 ?_;exact PL.at [4,6] (ih (m - 1) om om om) rfl rfl
     ·cases h
end Go.Proofs.YtpjlfoficnpfoaaGreatDoor.Sc
