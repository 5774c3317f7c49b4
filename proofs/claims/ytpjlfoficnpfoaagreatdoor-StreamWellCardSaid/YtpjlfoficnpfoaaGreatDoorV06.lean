/-
  Parts of the proof, put together in one text. No condition.
-/
import Derived.Test.YtpjlfoficnpfoaaGreatDoorV05
open Array renaming getElem?_eq_getElem → qD, mem_toList_iff → qL, all_eq_true_iff_forall_mem → qO, getD_eq_getD_getElem? → qS, toList → qW
open Bool renaming and_eq_true → qB, not_eq_true' → qH, or_eq_true → qK, false_eq_true → qN
open List renaming set_append_right → qF, getElem?_append_right → qG, elem_eq_mem → qJ, mem_cons_self → qM, mem_map → qP, mem_filter → qQ, mem_append → qR, range → qT, getElem?_eq_some_iff → qU, getElem?_eq_getElem → qV, filterMap_append → qY, getElem?_set_ne → qZ
open Nat renaming beq → qC, eq_of_beq_eq_true → qE
open Option renaming some → qA, map_eq_some_iff → qI, bind_eq_bind → qX
namespace Go.Proofs.YtpjlfoficnpfoaaGreatDoor.Pm
set_option linter.all false
open Go.RowKit
variable {P:Program} {C:Ctx} {H:za} {w:World} {F:Fr} {a:Act} {N:Nat}
def eqL{α:Type}(f:α→α→Bool):List α→List α→Bool
 | [],[]=>true
 | x::xs,y::ys=>match f x y with|true=>eqL f xs ys|false=>false
 | _,_=>false
theorem zed{α:Type}{f:α→α→Bool}(hf:∀ x y,f x y=true→x=y):∀{xs ys:List α},eqL f xs ys=true→xs=ys
 | [],[],_=>rfl
 | x::xs,y::ys,h=>by
  simp only[eqL]at h;split at h
  ·rename_i h1;rw[hf _ _ h1,zed hf h]
  ·cases h
 | [],_::_,h=>by cases h
 | _::_,[],h=>by cases h
def eqb:Nat→PV→PV→Bool
 | 0,_,_=>false
 | _+1,.int k a,.int k' b=>decide (k=k')&&decide (a=b)
 | _+1,.bool a,.bool b=>a==b
 | _+1,.str a,.str b=>decide (a=b)
 | _+1,.nilp,.nilp=>true
 | _+1,.nl a,.nl b=>qC a b
 | _+1,.undef,.undef=>true
 | _+1,.ptr a b c,.ptr a' b' c'=>qC a a'&&qC b b'&&qC c c'
 | n+1,.ip xs o,.ip ys o'=>qC o o'&&eqL (eqb n) xs ys
 | n+1,.slice xs l f,.slice ys l' f'=>qC l l'&&(f==f')&&eqL (eqb n) xs ys
 | _+1,.msl a b c d e g,.msl a' b' c' d' e' g'=>qC a a'&&qC b b'&&qC c c'&&qC d d'&&qC e e'&&(g==g')
 | _+1,.mp a b,.mp a' b'=>qC a a'&&qC b b'
 | n+1,.agg xs,.agg ys=>eqL (eqb n) xs ys
 | n+1,.tup xs,.tup ys=>eqL (eqb n) xs ys
 | n+1,.func f xs us,.func f' ys vs=>qC f f'&&eqL (eqb n) xs ys&&eqL (eqb n) us vs
 | _+1,_,_=>false
theorem zfT:∀(n:Nat) (x y:PV),eqb n x y=true→x=y
 | 0,_,_,h=>by simp[eqb]at h
 | n+1,x,y,h=>by
  have ih:∀{xs ys:List PV},eqL (eqb n) xs ys=true→xs=ys:=fun h=>zed (zfT n) h;have nb:∀{a b:Nat},qC a b=true→a=b:=fun h=>qE h;cases x<;>cases y<;>simp only[eqb,qN,qB,decide_eq_true_eq,beq_iff_eq]at h;case int=>rw[h.1,h.2]
  case bool=>rw[h]
  case str=>rw[h]
  case nilp=>rfl
  case nl=>rw[nb h]
  case ptr=>rw[nb h.1.1,nb h.1.2,nb h.2]
  case ip=>rw[nb h.1,ih h.2]
  case slice=>rw[nb h.1.1,ih h.2,h.1.2]
  case msl=>rw[nb h.1.1.1.1.1,nb h.1.1.1.1.2,nb h.1.1.1.2,nb h.1.1.2,nb h.1.2,h.2]
  case mp=>rw[nb h.1,nb h.2]
  case agg=>rw[ih h]
  case tup=>rw[ih h]
  case func=>rw[nb h.1.1,ih h.1.2,ih h.2]
  case undef=>rfl
def zra(a b:Blk):Bool:=qC a.e b.e&&qC a.ver b.ver&&eqL (eqb 20) a.cells b.cells
theorem zlb(a b:Blk)(h:zra a b=true):a=b:=by simp only[zra,qB]at h;cases a;cases b;simp only[Blk.mk.injEq];exact⟨qE h.1.1,qE h.1.2,zed (zfT 20) h.2⟩
def eqH(a b:za):Bool:=eqL zra a b
theorem ziD{a b:za}(h:eqH a b=true):a=b:=zed zlb h
inductive Task where
 | code (N:Nat) (c:Code) (F:Fr) (H:za)
 | loop (N:Nat) (c:Code) (F:Fr) (H:za)
 | ops (d:Bool) (ds:List (Option Nat)) (l:List Oper) (F:Fr) (H:za)
 | call (f:FuncId) (args:List PV) (H:za)
inductive Res where
 | code (e:Exit) (F:Fr) (H:za)
 | val (v:PV) (H:za)
def zjp(ks:List Nat):Fr→List Nat
 | []=>ks
 | (t,_)::r=>match ks.any (qC t)with|true=>zjp ks r|false=>zjp (t::ks) r
def zbF(P:Program)(ih:Task→Option Res):Task→Option Res
 | .code N c F H=>match c with
  | .skip=>some (.code .normal F H)
  | .region _ ops d=>match ops.toList.all (zI N)&&(!d||(P.follows .mixedOrders&&zfW N ops.toList))with
   | true=>ih (.ops d (ops.toList.map (·.dst)) ops.toList F H)
   | false=>none
  | .seq x y=>match ih (.code N x F H)with
   | some (.code .normal F1 H1)=>ih (.code N y F1 H1)
   | r=>r
  | .cond c x y=>match ev (slot F) c with
   | .bool true=>ih (.code N x F H)
   | .bool false=>ih (.code N y F H)
   | _=>none
  | .block id x=>match ih (.code N x F H)with
   | some (.code (.exit id') F1 H1)=>match qC id' id with|true=>some (.code .normal F1 H1)|false=>some (.code (.exit id') F1 H1)
   | r=>r
  | .loop x=>ih (.loop N x F H)
  | .exit id=>some (.code (.exit id) F H)
  | .label _=>some (.code .normal F H)
  | .scope x=>match ih (.code N x F H)with
   | some (.code (.goto _) _ _)=>none
   | r=>r
  | .ret=>some (.code .ret F H)
  | _=>none
 | .loop N x F H=>match ih (.code N x F H)with
  | some (.code .normal F1 H1)=>ih (.loop N x (kp (zjp [] F1) F1) H1)
  | r=>r
 | .ops _ _ [] F H=>some (.code .normal F H)
 | .ops d ds (o::r) F H=>match zE o.op with
  | false=>match stp P ds o F H with
   | some (F1,H1)=>ih (.ops d ds r F1 H1)
   | none=>none
  | true=>match zan ds F o with
   | some true=>match zk o.op (slot F)with
    | some (g,args)=>match d&&zav o.op with
     | true=>match args,ih (.call g [] [])with
      | [],some (.val v [])=>ih (.ops d ds r (put F o.dst v) H)
      | _,_=>none
     | false=>match ih (.call g args H)with
      | some (.val v H1)=>match !d||eqH H1 H with
       | true=>ih (.ops d ds r (put F o.dst v) H1)
       | false=>none
      | _=>none
    | none=>none
   | some false=>ih (.ops d ds r (put F o.dst (.tup [])) H)
   | none=>none
 | .call f args H=>match P.funcs[f]? with
  | some fn=>match fn.body with
   | some c=>match zaz P f&&Nat.ble args.length fn.ntmps with
    | true=>match ih (.code fn.ntmps c (zbM args 0) H)with
     | some (.code e F1 H1)=>match (match e with| .ret=>true| .normal=>true|_=>false)with
      | true=>match zr P fn.results.toList (slot F1) H1 with
       | some v=>match eqH (H1.take H.length) H with
        | true=>match frz H.length H1 20 v with
         | some v1=>some (.val v1 H)
         | none=>some (.val v H1)
        | false=>some (.val v H1)
       | none=>none
      | false=>none
     | _=>none
    | false=>none
   | none=>none
  | none=>none
noncomputable def ziB(P:Program)(n:Nat):Task→Option Res:=n.rec (fun _=>none) (fun _ ih=>zbF P ih)
def zv8(P:Program):Task→Res→Prop
 | .code N c F H,.code e F1 H1=>∀ H0,PW P ⟨N,H0⟩ c F H (fun e' F' H'=>e'=e∧F'=F1∧H'=H1)
 | .loop N c F H,.code e F1 H1=>∀ H0,PL P ⟨N,H0⟩ c F H (fun e' F' H'=>e'=e∧F'=F1∧H'=H1)
 | .ops false ds l F H,.code .normal F1 H1=>VO P ds l (some (F,H)) (fun F' H'=>F'=F1∧H'=H1)
 | .ops true ds l F H,.code .normal F1 H1=>VOd P ds l (some (F,H)) (fun F' H'=>F'=F1∧H'=H1)
 | .call f args H,.val v H1=>CallOk P f args H v H1
 | _,_=>False
theorem zgG{ds:List (Option Nat)}{K K':Fr→za→Prop}(hk:∀ F H,K F H→K' F H):∀{l:List Oper} {s:Option (Fr×za)},VO P ds l s K→VO P ds l s K'
 | l,none,h=>by rw[zjU]at h;exact h.elim
 | [],some (F,H),h=>hk F H h
 | o::r,some (F,H),h=>by
  cases hc:zE o.op with
  | false=>rw[znz hc]at h ⊢;exact zgG hk h
  | true=>
   rw[zfr hc]at h ⊢;unfold VC at h ⊢;split at h
   ·split at h
    ·obtain⟨R,h1,h2⟩:=h;exact⟨R,h1,fun v H' hR=>zgG hk (h2 v H' hR)⟩
    ·exact h
   ·exact zgG hk h
   ·exact h
theorem zfq{ds:List (Option Nat)}{K K':Fr→za→Prop}(hk:∀ F H,K F H→K' F H):∀{l:List Oper} {s:Option (Fr×za)},VOd P ds l s K→VOd P ds l s K'
 | l,none,h=>by rw[zhZ]at h;exact h.elim
 | [],some (F,H),h=>hk F H h
 | o::r,some (F,H),h=>by
  rw[zck]at h ⊢;cases hc:zE o.op with
  | false=>rw[hc]at h;exact zfq hk h
  | true=>
   rw[hc]at h;simp only[VCd,VRd]at h ⊢;split at h
   ·split at h
    ·obtain⟨v,h1,h2⟩:=h;exact⟨v,h1,zfq hk h2⟩
    ·exact h
   ·exact zfq hk h
   ·exact h
theorem zlG{ih:Task→Option Res}(hih:∀ t r,ih t=some r→zv8 P t r):∀ t r,zbF P ih t=some r→zv8 P t r:=by
 intro t r h;cases t with
 | code N c F H=>
  have sub:∀{x:Code} {F:Fr} {H:za} {r:Res},ih (.code N x F H)=some r→∃ e F1 H1,r= .code e F1 H1∧∀ H0,PW P ⟨N,H0⟩ x F H (fun e' F' H'=>e'=e∧F'=F1∧H'=H1):=fun{x F H r} hx=>by
   have:=hih _ _ hx;cases r with
   | code e F1 H1=>exact⟨e,F1,H1,rfl,this⟩
   | val v H1=>exact this.elim
  cases c with
  | skip=>simp only[zbF,qA.injEq]at h;subst h;exact fun H0=>PW.skip ⟨rfl,rfl,rfl⟩
  | exit id=>simp only[zbF,qA.injEq]at h;subst h;exact fun H0=>PW.exit ⟨rfl,rfl,rfl⟩
  | label l=>simp only[zbF,qA.injEq]at h;subst h;exact fun H0=>PW.label ⟨rfl,rfl,rfl⟩
  | ret=>simp only[zbF,qA.injEq]at h;subst h;exact fun H0=>PW.ret ⟨rfl,rfl,rfl⟩
  | scope x=>
   simp only[zbF]at h;cases hx:ih (.code N x F H)with
   | none=>rw[hx]at h;cases h
   | some r1=>
    obtain⟨e,F1,H1,rfl,hp⟩:=sub hx;rw[hx]at h;cases e with
    | goto l=>cases h
    | _=>
     injection h with h;subst h;intro H0;refine PW.scope ((hp H0).mono ?_);rintro e' F' H' ⟨rfl,rfl,rfl⟩;exact⟨rfl,rfl,rfl⟩
  | region id ops d=>
   simp only[zbF]at h;split at h
   ·rename_i hc;simp only[qB,qK,qH]at hc;have:=hih _ _ h;cases d with
    | false=>
     cases r with
     | val v H1=>exact this.elim
     | code e F1 H1=>
      cases e with
      | normal=>
       intro H0;refine PW.rg hc.1 fun K hK=>zgG (fun F' H' hq=>hK _ _ ?_) this;exact⟨rfl,hq⟩
      | _=>exact this.elim
    | true=>
     rcases hc.2 with h2|h2
     ·cases h2
     ·cases r with
      | val v H1=>exact this.elim
      | code e F1 H1=>
       cases e with
       | normal=>
        intro H0;refine PW.draw h2.1 h2.2 fun K hK=>zfq (fun F' H' hq=>hK _ _ ?_) this;exact⟨rfl,hq⟩
       | _=>exact this.elim
   ·cases h
  | seq x y=>
   simp only[zbF]at h;cases hx:ih (.code N x F H)with
   | none=>rw[hx]at h;cases h
   | some rx=>
    obtain⟨e,F1,H1,rfl,hp⟩:=sub hx;rw[hx]at h;cases e with
    | normal=>
     obtain⟨e2,F2,H2,rfl,hp2⟩:=sub h;intro H0;exact PW.seq ((hp H0).mono fun e' F' H' hq=>by obtain⟨rfl,rfl,rfl⟩:=hq;exact hp2 H0)
    | _=>
     simp only[qA.injEq]at h;subst h;intro H0;exact PW.seq ((hp H0).mono fun e' F' H' hq=>by obtain⟨rfl,rfl,rfl⟩:=hq;exact⟨rfl,rfl,rfl⟩)
  | cond c x y=>
   simp only[zbF]at h;split at h
   ·rename_i hc;obtain⟨e2,F2,H2,rfl,hp2⟩:=sub h;exact fun H0=>PW.cond hc (fun _=>hp2 H0) (fun e=>by cases e)
   ·rename_i hc;obtain⟨e2,F2,H2,rfl,hp2⟩:=sub h;exact fun H0=>PW.cond hc (fun e=>by cases e) (fun _=>hp2 H0)
   ·cases h
  | block id x=>
   simp only[zbF]at h;cases hx:ih (.code N x F H)with
   | none=>rw[hx]at h;cases h
   | some rx=>
    obtain⟨e,F1,H1,rfl,hp⟩:=sub hx;rw[hx]at h;cases e with
    | exit id'=>
     simp only at h;split at h
     ·rename_i hb;simp only[qA.injEq]at h;subst h;intro H0;exact PW.block ((hp H0).mono fun e' F' H' hq=>by
       obtain⟨rfl,rfl,rfl⟩:=hq;simp only[zdU];rw[if_pos (qE hb)];simp)
     ·rename_i hb;simp only[qA.injEq]at h;subst h;intro H0;exact PW.block ((hp H0).mono fun e' F' H' hq=>by
       obtain⟨rfl,rfl,rfl⟩:=hq;simp only[zdU];rw[if_neg (by intro e;rw[e,Nat.beq_refl]at hb;cases hb)];simp)
    | _=>
     simp only[qA.injEq]at h;subst h;intro H0;exact PW.block ((hp H0).mono fun e' F' H' hq=>by obtain⟨rfl,rfl,rfl⟩:=hq;exact⟨rfl,rfl,rfl⟩)
  | loop x=>
   simp only[zbF]at h;have:=hih _ _ h;cases r with
   | val v H1=>exact this.elim
   | code e F1 H1=>exact fun H0=>PW.loop (this H0)
  | _=>simp[zbF]at h
 | loop N x F H=>
  simp only[zbF]at h;cases hx:ih (.code N x F H)with
  | none=>rw[hx]at h;cases h
  | some rx=>
   have h1:=hih _ _ hx;cases rx with
   | val v H1=>exact h1.elim
   | code e F1 H1=>
    rw[hx]at h;cases e with
    | normal=>
     have h2:=hih _ _ h;cases r with
     | val v H1=>exact h2.elim
     | code e2 F2 H2=>
      intro H0;refine PL.round ((h1 H0).mono fun e' F' H' hq=> ?_);obtain⟨rfl,rfl,rfl⟩:=hq;exact PL.keep (zjp [] F') (h2 H0)
    | _=>
     simp only[qA.injEq]at h;subst h;intro H0;exact PL.round ((h1 H0).mono fun e' F' H' hq=>by obtain⟨rfl,rfl,rfl⟩:=hq;exact⟨rfl,rfl,rfl⟩)
 | ops d ds l F H=>
  cases l with
  | nil=>simp only[zbF,qA.injEq]at h;subst h;cases d<;>exact⟨rfl,rfl⟩
  | cons o l=>
   simp only[zbF]at h;have rest:∀{F1:Fr} {H1:za},ih (.ops d ds l F1 H1)=some r→∃ F2 H2,r= .code .normal F2 H2∧(d=false→VO P ds l (some (F1,H1)) (fun F' H'=>F'=F2∧H'=H2))∧(d=true→VOd P ds l (some (F1,H1)) (fun F' H'=>F'=F2∧H'=H2)):=fun{F1 H1} hx=>by
    have:=hih _ _ hx;cases r with
    | val v H1=>cases d<;>exact this.elim
    | code e F2 H2=>
     cases e with
     | normal=>cases d<;>exact⟨F2,H2,rfl,fun e=>(by first|exact this|cases e),fun e=>(by first|exact this|cases e)⟩
     | _=>cases d<;>exact this.elim
   split at h
   ·rename_i hc;split at h
    ·rename_i F1 H1 hs;obtain⟨F2,H2,rfl,h1,h2⟩:=rest h;cases d with
     | false=>show VO P ds (o::l) (some (F,H)) _;rw[znz hc,hs];exact h1 rfl
     | true=>show VOd P ds (o::l) (some (F,H)) _;rw[zck,hc];show VOd P ds l (stp P ds o F H) _;rw[hs];exact h2 rfl
    ·cases h
   ·rename_i hc;split at h
    ·rename_i ha;split at h
     ·rename_i g args hp;split at h
      ·rename_i hpc;simp only[qB]at hpc;obtain⟨rfl,hpc⟩:=hpc;split at h
       ·rename_i v hcall;have hk:CallOk P g [] [] v []:=hih _ _ hcall;have hall:∀ K,CallOk P g [] K v K:=fun K=>hk.frame (fun x hx=>by cases hx);obtain⟨F2,H2,rfl,h1,h2⟩:=rest h;show VOd P ds (o::l) (some (F,H)) _;rw[zck,hc];exact VCd.call (hall H) (fun _=>hall) ha hp (h2 rfl)
       ·cases h
      rename_i hpc;split at h
      ·rename_i v H1 hcall;split at h
       ·rename_i hd;have hk:=hih _ _ hcall;obtain⟨F2,H2,rfl,h1,h2⟩:=rest h;cases d with
        | false=>
         show VO P ds (o::l) (some (F,H)) _;rw[zfr hc];exact VC.call hk ha hp (h1 rfl)
        | true=>have he:H1=H:=ziD (by simpa using hd);subst he;show VOd P ds (o::l) (some (F,H1)) _;rw[zck,hc];exact VCd.call hk (fun e=>by rw[e]at hpc;cases hpc) ha hp (h2 rfl)
       ·cases h
      ·cases h
     ·cases h
    ·rename_i ha;obtain⟨F2,H2,rfl,h1,h2⟩:=rest h;cases d with
     | false=>
      show VO P ds (o::l) (some (F,H)) _;rw[zfr hc];unfold VC;rw[ha];exact h1 rfl
     | true=>show VOd P ds (o::l) (some (F,H)) _;rw[zck,hc];simp only[VCd,ha];exact h2 rfl
    ·cases h
 | call f args H=>
  simp only[zbF]at h;split at h
  ·rename_i fn hf;split at h
   ·rename_i c hb;split at h
    ·rename_i hq;simp only[qB]at hq;split at h
     ·rename_i e F1 H1 hcode;have hg:=hih _ _ hcode;split at h
      ·rename_i he;split at h
       ·rename_i v hres;have fin:∀ v1 H2,Fin H v1 H2 v H1→CallOk P f args H v1 H2:=fun v1 H2 hfin=>by
         refine CallOk.body hf hb rfl rfl rfl hq.1 hq.2 ((hg H).mono fun e' F' H' hq=> ?_);obtain⟨rfl,rfl,rfl⟩:=hq;cases e' with
         | ret=>exact⟨v,hres,hfin⟩
         | normal=>exact⟨v,hres,hfin⟩
         | _=>cases he
        split at h
        ·rename_i hH;split at h
         ·rename_i v1 hz;simp only[qA.injEq]at h;subst h;refine fin v1 H (.inr (.inl ⟨H1.drop H.length,20,?_,rfl,hz⟩));have:=ziD hH;conv=>lhs;rw[←List.take_append_drop H.length H1,this]
         ·simp only[qA.injEq]at h;subst h;exact fin v H1 (.inl ⟨rfl,rfl⟩)
        ·simp only[qA.injEq]at h;subst h;exact fin v H1 (.inl ⟨rfl,rfl⟩)
       ·cases h
      ·cases h
     ·cases h
    ·cases h
   ·cases h
  ·cases h
theorem zeA:∀(n:Nat) (t:Task) (r:Res),ziB P n t=some r→zv8 P t r
 | 0,t,r,h=>by cases h
 | n+1,t,r,h=>zlG (zeA n) t r h
theorem CallOk.eval(n:Nat){f:FuncId}{args:List PV}{v:PV}(h:ziB P n (.call f args [])=some (.val v []))(hs:∀ x∈args,Scoped 0 x):CallOk P f args H v H:=(zeA n _ _ h).frame hs
def zqT:Option Res→Bool
 | some (.val (.bool true) [])=>true
 | _=>false
theorem CallOk.evalT(n:Nat){f:FuncId}(h:zqT (ziB P n (.call f [] []))=true):CallOk P f [] H (.bool true) H:=by
 refine CallOk.eval n ?_ (fun x hx=>by cases hx);unfold zqT at h;split at h
 ·rename_i he;exact he
 ·cases h
end Go.Proofs.YtpjlfoficnpfoaaGreatDoor.Pm
namespace Go.Proofs.YtpjlfoficnpfoaaGreatDoor.Pm
set_option linter.all false
open Go.RowKit
variable {P:Program} {C:Ctx} {H:za} {w:World} {F:Fr} {a:Act} {N:Nat}
def RunG(E:Oper→(Nat→PV)→za→PV→za→Prop):List Oper→(Nat→PV)→za→((Nat→PV)→za→Prop)→Prop
 | [],f,H,K=>K f H
 | o::r,f,H,K=>∃ v H',E o f H v H'∧RunG E r (upd f o.dst v) H' K
def znA(E:Oper→(Nat→PV)→za→PV→za→Prop)(cmp:Oper→Oper→Bool):Prop:=∀(x o:Oper) (f:Nat→PV) (H:za) (vx:PV) (Hx:za) (v:PV) (H1:za),cmp x o=true→E x f H vx Hx→E o (upd f x.dst vx) Hx v H1→∃ H3,E o f H v H3∧E x (upd f o.dst v) H3 vx H1∧upd (upd f x.dst vx) o.dst v=upd (upd f o.dst v) x.dst vx
def zrO(P:Program)(N:Nat)(ops:Array Oper)(E:Oper→(Nat→PV)→za→PV→za→Prop):Prop:=
 ∀(o:Oper) (f:Nat→PV) (H:za) (v:PV) (H':za) (C:Ctx) (a:Act) (w:World),zI N o=true→WRel C H w→FRel C N f a→E o f H v H'→
  (Region.wanted o (yielded ops a.tmps)=false∧v= .tup []∧H'=H)∨
  (Region.wanted o (yielded ops a.tmps)=true∧∀(next:Act→World→Prop) (Q:Exit→Act→World→Prop),(∀ C' u w',CLe C C'→WRel C' H' w'→Below C.B w w'→FRel C' N (upd f o.dst v) (a.put o.dst u)→next (a.put o.dst u) w')→o.wp P a w next Q)
theorem RunG.front{E:Oper→(Nat→PV)→za→PV→za→Prop}{cmp:Oper→Oper→Bool}{K:(Nat→PV)→za→Prop}{o:Oper}{l2:List Oper}(hs:znA E cmp):∀(l1:List Oper) (f:Nat→PV) (H:za),RunG E (l1++o::l2) f H K→(∀ x∈l1,cmp x o=true)→
  ∃ v H1,E o f H v H1∧RunG E (l1++l2) (upd f o.dst v) H1 K
 | [],f,H,h,_=>h
 | x::l1,f,H,h,hc=>by obtain⟨vx,Hx,hx,hr⟩:=h;obtain⟨v,H1,ho,hr2⟩:=RunG.front hs l1 _ _ hr (fun y hy=>hc y (List.mem_cons_of_mem _ hy));obtain⟨H3,g1,g2,g3⟩:=hs x o f H vx Hx v H1 (hc x (qM ..)) hx ho;exact⟨v,H3,g1,vx,H1,g2,g3▸hr2⟩
def zhO(cmp:Oper→Oper→Bool)(ms:List Nat)(N:Nat)(ops:List Oper)(i:Nat):Bool:=match ops[i]? with
 | none=>false
 | some o=>zI N o&&(bnd o).all (fun j=>Nat.blt j i)&&(qC (ms.getD i 0) (zcb ms o))&&(qT i).all fun j=>(ms.getD i 0).testBit j||(match ops[j]? with|some x=>cmp x o|none=>false)
def zjH(cmp:Oper→Oper→Bool)(N:Nat)(ops:List Oper):Bool:=(qT ops.length).all (zhO cmp (zgf ops) N ops)
theorem zhN{cmp:Oper→Oper→Bool}{ms:List Nat}{ops:List Oper}{i:Nat}{o:Oper}(ho:ops[i]? =some o)(h:zhO cmp ms N ops i=true):
  zI N o=true∧(∀ j∈bnd o,j<i)∧ms.getD i 0=zcb ms o∧∀ j,j<i→(ms.getD i 0).testBit j=true∨∃ x,ops[j]? =some x∧cmp x o=true:=by
 unfold zhO at h;simp only[ho,qB,List.all_eq_true,List.mem_range,qK]at h;obtain⟨⟨⟨h1,h2⟩,h3⟩,h4⟩:=h;refine⟨h1,fun j hj=>by simpa[Nat.blt_eq]using h2 j hj,qE h3,fun j hj=> ?_⟩;rcases h4 j hj with h|h
 ·exact .inl h
 ·split at h
  ·rename_i x hx;exact .inr ⟨x,hx,h⟩
  ·cases h
theorem zqG{cmp:Oper→Oper→Bool}{ms:List Nat}{ops:List Oper}(hall:∀ i,i<ops.length→zhO cmp ms N ops i=true){S:Nat→Prop}(down:∀ i o,ops[i]? =some o→S i→∀ j∈bnd o,S j):
  ∀(i:Nat) (o:Oper),ops[i]? =some o→(∀ j∈bnd o,S j)→∀ j,(ms.getD i 0).testBit j=true→S j:=by
 intro i;induction i using Nat.strongRecOn with
 | _ i ih=>
  intro o ho hp j hj;have hi:=(qU.1 ho).1;obtain⟨_,h2,h3,_⟩:=zhN ho (hall i hi);rw[h3,zcb]at hj;rcases zfR ms j _ _ hj with h|⟨k,hk,h⟩
  ·simp at h
  ·rcases h with h|rfl
   ·have hki:=h2 k hk;have hkl:k<ops.length:=om;exact ih k hki ops[k] (qV hkl) (down k _ (qV hkl) (hp k hk)) j h
   ·exact hp k hk
theorem znu{cmp:Oper→Oper→Bool}{E:Oper→(Nat→PV)→za→PV→za→Prop}{ops:Array Oper}{Q:Exit→Act→World→Prop}{K:(Nat→PV)→za→Prop}(hall:∀ i,i<ops.toList.length→zhO cmp (zgf ops.toList) N ops.toList i=true)
  (hswap:znA E cmp) (hstep:zrO P N ops E):
  ∀(fuel:Nat) (listed:Array Bool) (f:Nat→PV) (H:za) (C:Ctx) (a:Act) (w:World),listed.size=ops.size→(∀ i o,ops[i]? =some o→listed.getD i true=true→∀ j∈bnd o,listed.getD j true=true)→
   fuel=(left ops.size listed).length→RunG E ((left ops.size listed).filterMap fun i=>ops[i]?) f H K→a.defers=[]→WRel C H w→FRel C N f a→
   (∀ C' f' H' a' w',CLe C C'→a'.defers=[]→WRel C' H' w'→Below C.B w w'→FRel C' N f' a'→K f' H'→Q .normal a' w')→wpAny P .any ops Q fuel listed a w:=by
 have rdy:∀(listed:Array Bool) (i:Nat),i∈Region.ready .any ops listed↔i∈left ops.size listed∧∃ o,ops[i]? =some o∧∀ e∈o.after.toList,Region.binds .any e=true→listed.getD e.on false=true:=by
  intro listed i;unfold Region.ready;rw[qQ,za9,List.mem_range];constructor
  ·rintro⟨h1,h2⟩;simp only[qB,qH]at h2;refine⟨⟨h1,h2.1⟩,ops[i],qD h1,fun e he hb=> ?_⟩;have h3:=h2.2;rw[qD h1]at h3;simp only[Option.map_some,Option.getD_some,qO]at h3;have:=h3 e (qL.1 he);simpa[hb]using this
  ·rintro⟨⟨h1,h2⟩,o,ho,h3⟩;refine⟨h1,?_⟩;simp only[h2,Bool.not_false,Bool.true_and,ho,Option.map_some,Option.getD_some,qO];intro e he;cases hb:Region.binds .any e with
   | false=>rfl
   | true=>simp[h3 e (qL.2 he) hb]
 intro fuel;induction fuel with
 | zero=>
  intro listed f H C a w hsz hdown hfu hr hd hw hf hQ;have hnil:left ops.size listed=[]:=List.eq_nil_of_length_eq_zero hfu.symm;refine⟨List.eq_nil_iff_forall_not_mem.2 fun i hi=> ?_,?_⟩
  ·have:=((rdy listed i).1 hi).1;rw[hnil]at this;simp at this
  ·rw[hnil]at hr;exact hQ C f H a w (.refl _) hd hw (.refl _ _) hf hr
 | succ fuel ih=>
  intro listed f H C a w hsz hdown hfu hr hd hw hf hQ;refine⟨fun hnone=> ?_,fun i hi=> ?_⟩
  ·exfalso;obtain⟨i,r,hl⟩:=List.exists_cons_of_length_eq_add_one hfu.symm;have hmem:i∈left ops.size listed:=by rw[hl];exact qM ..
   have hil:=(za9.1 hmem).1;have hs:=zbI ops.size listed;rw[hl,List.pairwise_cons]at hs;have:i∈Region.ready .any ops listed:=by
    refine(rdy listed i).2 ⟨hmem,ops[i],qD hil,fun e he hb=> ?_⟩;have hlt:=(zhN (by simpa using qD hil) (hall i (by simpa using hil))).2.1 e.on (qP.2 ⟨e,qQ.2 ⟨he,hb⟩,rfl⟩);have hnm:e.on∉left ops.size listed:=by
     rw[hl];intro hm;rcases List.mem_cons.1 hm with h|h
     ·omega
     ·have:=hs.1 _ h;omega
    have h1:listed.getD e.on true=true:=by
     cases hg:listed.getD e.on true with
     | true=>rfl
     | false=>exact absurd (za9.2 ⟨om,hg⟩) hnm
    have h2:e.on<listed.size:=om;rw[qS,qD h2]at h1 ⊢;exact h1
   rw[hnone]at this;simp at this
  ·obtain⟨hmem,o,ho,hpre⟩:=(rdy listed i).1 hi;have hil:=(za9.1 hmem).1;have hoL:ops.toList[i]? =some o:=by simpa using ho
   obtain⟨d1,d2,d3,d4⟩:=zhN hoL (hall i (by simpa using hil));obtain⟨l1,l2,hl⟩:=List.append_of_mem hmem;have hs:=zbI ops.size listed;rw[hl,List.pairwise_append,List.pairwise_cons]at hs;have hsz':i<listed.size:=om;have getFT:∀ j,listed.getD j false=true→listed.getD j true=true:=fun j hj=>by
    rw[qS]at hj ⊢;cases hg:listed[j]? with
    | none=>rw[hg]at hj;simp at hj
    | some b=>rw[hg]at hj;simpa using hj
   have hpre':∀ j∈bnd o,listed.getD j true=true:=fun j hj=>by obtain⟨e,he,rfl⟩:=qP.1 hj;obtain⟨he1,he2⟩:=qQ.1 he;exact getFT _ (hpre e he1 he2)
   rw[hl,qY,List.filterMap_cons_some ho]at hr;have hcomp:∀ x∈l1.filterMap (fun i=>ops[i]?),cmp x o=true:=by
    intro x hx;obtain⟨j,hj,hjx⟩:=List.mem_filterMap.1 hx;have hji:j<i:=hs.2.2 j hj i (qM ..);rcases d4 j hji with h|⟨x',hx',hc⟩
    ·have hS:=zqG (N:=N) hall (S:=fun j=>listed.getD j true=true) (fun i o ho hS=>hdown i o (by simpa using ho) hS) i o hoL hpre' j h;have hjm:j∈left ops.size listed:=by rw[hl];exact qR.2 (.inl hj)
     rw[(za9.1 hjm).2]at hS;cases hS
    ·have:ops[j]? =some x':=by simpa using hx'
     simp only[this,qA.injEq]at hjx;subst hjx;exact hc
   obtain⟨v,H1,hex,hrun⟩:=RunG.front hswap _ _ _ hr hcomp;rw[←qY,←zfa hsz' hl]at hrun;have hdown':∀ i' o',ops[i']? =some o'→(listed.setIfInBounds i true).getD i' true=true→∀ j∈bnd o',(listed.setIfInBounds i true).getD j true=true:=by
    intro i' o' ho' h j hj;rw[zhD _ _ _ hsz']at h ⊢;by_cases hi':i'=i
    ·subst hi';rw[ho]at ho';injection ho' with ho';subst ho';split
     ·rfl
     ·exact hpre' j hj
    ·rw[if_neg hi']at h;split
     ·rfl
     ·exact hdown i' o' ho' h j hj
   have hfu':fuel=(left ops.size (listed.setIfInBounds i true)).length:=by rw[zfa hsz' hl];rw[hl]at hfu;simp at hfu ⊢;omega
   have next:∀ C' u w',CLe C C'→WRel C' H1 w'→Below C.B w w'→FRel C' N (upd f o.dst v) (a.put o.dst u)→wpAny P .any ops Q fuel (listed.setIfInBounds i true) (a.put o.dst u) w':=by intro C' u w' q1 q2 q3 q4;refine ih _ _ _ C' _ w' (by simpa using hsz) hdown' hfu' hrun (by cases hod:o.dst<;>simp[Act.put,hd]) q2 q4 ?_;intro C'' f'' H'' a'' w'' p1 p2 p3 p4 p5 p6;exact hQ C'' f'' H'' a'' w'' (q1.trans p1) p2 p3 (q3.trans (by rw[←q1.B];exact p4)) p5 p6
   unfold wpOp;rw[ho];simp only;rcases hstep o f H v H1 C a w d1 hw hf hex with⟨h1,h2,h3⟩|⟨h1,h2⟩
   ·rw[if_neg (by rw[h1];simp)];subst h2 h3;exact next C _ w (.refl _) hw (.refl _ _) (hf.put o.dst (zay d1) VRel.undefV)
   ·rw[if_pos h1];left;exact h2 _ _ next
def zD:PV→List Nat
 | .ptr id _ _=>[id]
 | .msl id _ _ _ _ _=>[id]
 | .mp id _=>[id]
 | _=>[]
def zeo(op:Op)(f:Nat→PV):List Nat:=(op.operands.toList.map fun x=>zD (ev f x)).flatten
theorem zis{op:Op}{f:Nat→PV}{x:Operand}{id:Nat}(hx:x∈op.operands.toList)(hi:id∈zD (ev f x)):id∈zeo op f:=List.mem_flatten.2 ⟨_,qP.2 ⟨x,hx,rfl⟩,hi⟩
def zaM:Op→Bool
 | .nilCheck .. | .fieldAddr .. | .indexAddr .. | .slice .. | .binOp .. =>true
 | .call { callee:=.builtin .len,.. }=>true
 | _=>false
variable {K:za}
def VEq(H K:za)(id:Nat):Prop:=(K[id]?).map Blk.ver=(H[id]?).map Blk.ver
theorem zcv{id:Nat}(h:VEq H K id)(ver:Nat):zbl K id ver=zbl H id ver:=by unfold VEq at h;unfold zbl;cases h1:H[id]? <;>cases h2:K[id]? <;>rw[h1,h2]at h<;>simp at h;simp[h]
theorem zu8{x:PV}(h:∀ id∈zD x,VEq H K id):zh4 K x=zh4 H x:=by cases x<;>simp only[zh4];rename_i id ver off;rw[zcv (h id (by simp[zD]))]
theorem zvc{op:BinOp}{t:TypeId}{x y:PV}(hx:∀ id∈zD x,VEq H K id)(hy:∀ id∈zD y,VEq H K id):zfK P K op t x y=zfK P H op t x y:=by
 unfold zfK;split<;>try rfl
 ·rename_i id ver off;rw[zcv (hx id (by simp[zD]))]
 ·rename_i id ver off;rw[zcv (hy id (by simp[zD]))]
theorem zn1{op:BinOp}{t:TypeId}{x:PV}(hx:∀ id∈zD x,VEq H K id):zby P K op t x=zby P H op t x:=by
 unfold zby;split<;>try rfl
 split<;>try rfl
 rename_i id ver off n sz g;rw[zcv (hx id (by simp[zD]))]
theorem zpV{t:TypeId}{x:PV}{lo hi mx:Option PV}(hx:∀ id∈zD x,VEq H K id):zct P K t x lo hi mx=zct P H t x lo hi mx:=by
 unfold zct;split<;>try rfl
 ·rename_i e id ver off len sz g hu;rw[zcv (hx id (by simp[zD]))]
 ·rename_i len e id ver off hu;rw[zcv (hx id (by simp[zD]))]
theorem zjg{s:TypeId}{x:PV}{f:Nat}(hx:∀ id∈zD x,VEq H K id):zaq P K s x f=zaq P H s x f:=by cases x<;>simp only[zaq];rename_i id ver off;simp only[zcv (hx id (by simp[zD]))]
theorem zjc{t:TypeId}{x i:PV}(hx:∀ id∈zD x,VEq H K id):zap P K t x i=zap P H t x i:=by
 unfold zap;split<;>try rfl
 ·rename_i e id ver off len sz g k i hu;rw[zcv (hx id (by simp[zD]))]
 ·rename_i len e id ver off k i hu;rw[zcv (hx id (by simp[zD]))]
theorem zu9{t:TypeId}{x:PV}(hx:∀ id∈zD x,VEq H K id):zc2 P K t x=zc2 P H t x:=by
 unfold zc2;split<;>try rfl
 rename_i e id ver off n sz g hu;rw[zcv (hx id (by simp[zD]))]
theorem zg3{sz:Nat}{x:PV}(hx:∀ id∈zD x,K[id]? =H[id]?):zac K sz x=zac H sz x:=by cases x<;>simp only[zac];rename_i id ver off len s g;rw[hx id (by simp[zD])]
theorem zsB{t:TypeId}{x:PV}(hx:∀ id∈zD x,K[id]? =H[id]?):zdl P K t x=zdl P H t x:=by cases x<;>simp only[zdl];rename_i id ver off;rw[hx id (by simp[zD])]
theorem zsG{s d:TypeId}{x:PV}(hx:∀ id∈zD x,K[id]? =H[id]?):zem P K s d x=zem P H s d x:=by
 unfold zem;split<;>try rfl
 rw[zg3 hx]
theorem zsA{t:TypeId}{m k:PV}{ok:Bool}(hx:∀ id∈zD m,K[id]? =H[id]?):zel P K t m k ok=zel P H t m k ok:=by
 have:zae P K t m=zae P H t m:=by
  unfold zae;split<;>try rfl
  rename_i kt e id ver hu;rw[hx id (by simp[zD])]
 unfold zel;rw[this]
theorem zfN{x:Option PV}{v:PV}{H':za}(h:(x.map fun v=>(v,H))=some (v,H')):(x.map fun v=>(v,K))=some (v,K):=by simp only[qI,Prod.mk.injEq]at h ⊢;obtain⟨u,h1,h2,_⟩:=h;exact⟨u,h1,h2,trivial⟩
theorem zhb{f:Nat→PV}{op:Op}{v:PV}{H':za}(h:zaM op=true)(hi:∀ id∈zeo op f,VEq H K id)(hp:pop P op f H=some (v,H')):pop P op f K=some (v,K):=by
 have ids:∀ x∈op.operands.toList,∀ id∈zD (ev f x),VEq H K id:=fun x hx id hid=>hi id (zis hx hid);cases op<;>try(simp[zaM]at h;done)
 case nilCheck x=>simp only[pop]at hp ⊢;rw[zu8 (ids x (by simp[Op.operands]))];exact zfN hp
 case fieldAddr s x k=>simp only[pop]at hp ⊢;rw[zjg (ids x (by simp[Op.operands]))];exact zfN hp
 case indexAddr t x i=>simp only[pop]at hp ⊢;rw[zjc (ids x (by simp[Op.operands]))];exact zfN hp
 case slice t x lo hi mx=>simp only[pop]at hp ⊢;rw[zpV (ids x (by simp[Op.operands]))];exact zfN hp
 case binOp op t x y z=>
  simp only[pop]at hp ⊢;split at hp
  ·rw[zn1 (ids x (by simp[Op.operands]))];exact zfN hp
  split at hp
  ·exact zfN hp
  ·rw[zvc (ids x (by simp[Op.operands])) (ids y (by simp[Op.operands]))];exact zfN hp
 case call c=>
  obtain⟨callee,args,ts⟩:=c;cases callee with
  | builtin b=>
   cases b<;>try(simp[zaM]at h;done)
   have key:∀(tl:List TypeId) (al:List PV),(∀ x∈al,∀ id∈zD x,VEq H K id)→zu P H .len tl al=some (v,H')→zu P K .len tl al=some (v,K):=fun tl al hal hq=>by
    match tl,al,hq with
    | [t],[x],hq=>
     simp only[zu]at hq ⊢;rw[zu9 (hal x sp)];exact zfN hq
    | [],_,hq=>simp[zu]at hq
    | _::_::_,_,hq=>simp[zu]at hq
    | [_],[],hq=>simp[zu]at hq
    | [_],_::_::_,hq=>simp[zu]at hq
   simp only[pop]at hp ⊢;refine key _ _ (fun x hx id hid=> ?_) hp;obtain⟨y,hy,rfl⟩:=qP.1 hx;exact ids y (by simp[Op.operands,Call.operands];exact qL.1 hy) id hid
  | _=>simp[zaM]at h
theorem zkA{f:Nat→PV}{op:Op}{v:PV}{H':za}(h:eff op=false)(hi:∀ id∈zeo op f,K[id]? =H[id]?)(hp:pop P op f H=some (v,H')):pop P op f K=some (v,K):=by
 have ids:∀ x∈op.operands.toList,∀ id∈zD (ev f x),K[id]? =H[id]? :=fun x hx id hid=>hi id (zis hx hid);cases hl:zaM op with
 | true=>exact zhb hl (fun id hid=>by unfold VEq;rw[hi id hid]) hp
 | false=>
 cases hpu:zaU op with
 | true=>exact(zaw hpu hp K).2
 | false=>
 cases op<;>try(simp[eff]at h;done)
 all_goals try(simp[zaM]at hl;done)
 all_goals try(simp[zaU]at hpu;done)
 case load t x=>simp only[pop]at hp ⊢;rw[zsB (ids x (by simp[Op.operands]))];exact zfN hp
 case convert s d x=>simp only[pop]at hp ⊢;rw[zsG (ids x (by simp[Op.operands]))];exact zfN hp
 case lookup t m k ok=>simp only[pop]at hp ⊢;rw[zsA (ids m (by simp[Op.operands]))];exact zfN hp
 case makeFunc fn x y=>cases fn<;>simp only[pop,qA.injEq,Prod.mk.injEq]at hp ⊢<;>first|exact⟨hp.1,trivial⟩|cases hp
 case call c=>
  obtain⟨callee,args,ts⟩:=c;cases callee with
  | builtin b=>
   simp only[eff]at h;simp only[pop]at hp ⊢;unfold zu at hp ⊢;split at hp
   ·simp[zaM]at hl
   ·simp[zmi]at h
   ·simp[zmi]at h
   ·exact zfN hp
   ·exact zfN hp
   ·cases hp
  | _=>simp only[pop]at hp;cases hp
 all_goals(simp only[pop]at hp;cases hp)
structure Ag(ws rs:List Nat)(H K:za):Prop where
 len:K.length=H.length
 all:∀ i,i∉ws→K[i]? =H[i]?
 ver:∀ i,i∉rs→VEq H K i
theorem Ag.refl(ws rs:List Nat)(H:za):Ag ws rs H H:=⟨rfl,fun _ _=>rfl,fun _ _=>rfl⟩
theorem Ag.symm{ws rs:List Nat}{H K:za}(h:Ag ws rs H K):Ag ws rs K H:=⟨h.len.symm,fun i hi=>(h.all i hi).symm,fun i hi=>(h.ver i hi).symm⟩
theorem Ag.trans{ws rs:List Nat}{H K L:za}(h:Ag ws rs H K)(k:Ag ws rs K L):Ag ws rs H L:=⟨k.len.trans h.len,fun i hi=>(k.all i hi).trans (h.all i hi),fun i hi=>Eq.trans (k.ver i hi) (h.ver i hi)⟩
theorem Ag.set{ws rs:List Nat}{H:za}{id:Nat}{k b:Blk}(hk:H[id]? =some k)(hw:id∈ws)(hv:b.ver=k.ver∨id∈rs):Ag ws rs H (H.set id b):=by
 have hid:id<H.length:=(qU.1 hk).1;refine⟨by simp,fun i hi=> ?_,fun i hi=> ?_⟩
 ·rw[qZ (show id≠i from fun e=>hi (by rw[←e];exact hw))]
 ·unfold VEq;by_cases e:id=i
  ·subst e;rcases hv with hv|hv
   ·rw[List.getElem?_set_self hid,hk];simp[hv]
   ·exact absurd hv hi
  ·rw[qZ e]
def rsv(rs:List (Nat×Nat))(d:Option Nat):Option Nat:=match d with
 | none=>none
 | some d=>match rs with
  | []=>none
  | (t,r)::l=>match qC t d with|true=>some r|false=>rsv l (some d)
def zl2(P:Program)(elem:TypeId)(r:Nat)(H:za):Option (PV×za):=match zd P elem,H[r]? with
 | some z,some k=>if k.e=elem∧k.ver=0 then some (.ptr r 1 0,H.set r ⟨elem,1,z⟩)else none
 | _,_=>none
def zg5(rs:List (Nat×Nat))(o:Oper):Option (TypeId×Nat):=match o.op with
 | .alloc elem=>match rsv rs o.dst with|some r=>some (elem,r)|none=>none
 | _=>none
def zi9(P:Program)(rs:List (Nat×Nat))(o:Oper)(f:Nat→PV)(H:za):Option (PV×za):=match zg5 rs o with
 | some (elem,r)=>zl2 P elem r H
 | none=>pop P o.op f H
def zbB:Op→Bool
 | .store .. =>true
 | _=>false
def znO(op:Op)(f:Nat→PV):Option Nat:=match op with
 | .store _ x _=>match ev f x with
  | .ptr id _ _=>some id
  | _=>none
 | _=>none
def zm1(ids ws:List Nat):Bool:=ids.all fun i=> !(ws.elem i)
def zle(ws:List Nat)(rs:List (Nat×Nat))(o:Oper)(f:Nat→PV):Bool:=match zg5 rs o with
 | some (_,r)=>ws.elem r&&(rs.map (·.2)).elem r
 | none=>match zbB o.op with
  | true=>match znO o.op f with|some id=>ws.elem id|none=>false
  | false=>match zaU o.op||eff o.op with
   | true=>true
   | false=>match zaM o.op with
    | true=>zm1 (zeo o.op f) (rs.map (·.2))
    | false=>zm1 (zeo o.op f) ws
def ExH(P:Program)(all:List Oper)(ws:List Nat)(rs:List (Nat×Nat))(o:Oper)(f:Nat→PV)(H:za)(v:PV)(H':za):Prop:=
 (zbi all f o=some false∧v= .tup []∧H'=H)∨
 (zbi all f o=some true∧match zk o.op f with
  | some (fn,args)=>H'=H∧∀ K,Ag ws (rs.map (·.2)) H K→CallOk P fn args K v K
  | none=>zi9 P rs o f H=some (v,H')∧zle ws rs o f=true)
def zvu(rs:List (Nat×Nat))(o:Oper):Bool:=zbB o.op||(zg5 rs o).isSome
def zvv(rs:List (Nat×Nat))(o:Oper):Bool:= !eff o.op&& !(zg5 rs o).isSome
theorem zku{rs:List (Nat×Nat)}{o:Oper}{f:Nat→PV}{er:TypeId×Nat}(h:zg5 rs o=some er):zk o.op f=none:=by
 unfold zg5 at h;split at h
 ·rename_i elem ho;rw[ho];rfl
 ·cases h
theorem ziZ{op:Op}{f:Nat→PV}(h:zbB op=true):zk op f=none:=by cases op<;>first|(simp[zbB]at h;done)|rfl
theorem zlO{rs:List (Nat×Nat)}{o:Oper}{f g:Nat→PV}(h:∀ x∈o.op.operands.toList,ev f x=ev g x):zi9 P rs o f H=zi9 P rs o g H:=by
 unfold zi9;split
 ·rfl
 ·exact zfH h
theorem zml{ws:List Nat}{rs:List (Nat×Nat)}{o:Oper}{f g:Nat→PV}(h:∀ x∈o.op.operands.toList,ev f x=ev g x):zle ws rs o f=zle ws rs o g:=by
 have e1:zeo o.op f=zeo o.op g:=by unfold zeo;congr 1;exact List.map_congr_left fun x hx=>by rw[h x hx]
 have e2:znO o.op f=znO o.op g:=by
  unfold znO;split
  ·rename_i t x y ho;rw[ho]at h;rw[h x (by simp[Op.operands])]
  ·rfl
 unfold zle;rw[e1,e2]
theorem ExH.congr{all:List Oper}{ws:List Nat}{rs:List (Nat×Nat)}{o:Oper}{f g:Nat→PV}{v:PV}{H':za}(h:∀ t∈zin (all.map (·.dst)) o,f t=g t)(he:ExH P all ws rs o f H v H'):ExH P all ws rs o g H v H':=by have e1:zbi all f o=zbi all g o:=zcR fun t ht=>h t (qR.2 (.inr ht));have e2:∀ x∈o.op.operands.toList,ev f x=ev g x:=fun x hx=>zfg fun t ht=>h t (qR.2 (.inl (ze7 (ht▸hx))));unfold ExH at he ⊢;rw[←e1,←zbz e2,←zlO e2,←zml e2];exact he
theorem zkW{ids ws:List Nat}(h:zm1 ids ws=true):∀ i∈ids,i∉ws:=fun i hi hw=>by have:=List.all_eq_true.1 h i hi;rw[qJ]at this;simp[hw]at this
theorem ExH.move{all:List Oper}{ws:List Nat}{rs:List (Nat×Nat)}{o:Oper}{f:Nat→PV}{v:PV}{H' K:za}(hr:zvv rs o=true∨zaU o.op=true)(he:ExH P all ws rs o f H v H'):H'=H∧(Ag ws (rs.map (·.2)) H K→ExH P all ws rs o f K v K):=by
 have hres:zg5 rs o=none:=by
  rcases hr with hr|hr
  ·simp only[zvv,qB,qH]at hr;cases h:zg5 rs o with
   | none=>rfl
   | some r=>rw[h]at hr;simp at hr
  ·unfold zg5;split
   ·rename_i elem ho;rw[ho]at hr;simp[zaU]at hr
   ·rfl
 rcases he with⟨h1,h2,h3⟩|⟨h1,h2⟩
 ·exact⟨h3,fun _=>.inl ⟨h1,h2,rfl⟩⟩
 ·split at h2
  ·rename_i fn args hc;exact⟨h2.1,fun ha=>.inr ⟨h1,by rw[hc];exact⟨rfl,fun L hL=>h2.2 L (ha.trans hL)⟩⟩⟩
  ·rename_i hc;obtain⟨hp,hk⟩:=h2;have hpp:pop P o.op f H=some (v,H'):=by unfold zi9 at hp;rw[hres]at hp;exact hp
   have heff:eff o.op=false∨zaU o.op=true:=by
    rcases hr with hr|hr
    ·simp only[zvv,qB,qH]at hr;exact .inl hr.1
    ·exact .inr hr
   have hH:H'=H:=by
    rcases heff with h|h
    ·exact zcD h hpp
    ·exact(zaw h hpp H).1
   refine⟨hH,fun ha=>.inr ⟨h1,?_⟩⟩;rw[hc];refine⟨?_,hk⟩;unfold zi9;rw[hres];cases hpu:zaU o.op with
   | true=>exact(zaw hpu hpp K).2
   | false=>
    have he':eff o.op=false:=by rcases heff with h|h<;>simp_all
    have hst:zbB o.op=false:=by
     cases hs:zbB o.op with
     | false=>rfl
     | true=>cases ho:o.op<;>rw[ho]at hs he'<;>simp[zbB,eff]at hs he'
    unfold zle at hk;rw[hres,hst,hpu,he']at hk;simp only[Bool.or_self]at hk;cases hl:zaM o.op with
    | true=>
     rw[hl]at hk;exact zhb hl (fun id hid=>ha.ver id (zkW hk id hid)) hpp
    | false=>rw[hl]at hk;exact zkA he' (fun id hid=>ha.all id (zkW hk id hid)) hpp
theorem ExH.write{all:List Oper}{ws:List Nat}{rs:List (Nat×Nat)}{o:Oper}{f:Nat→PV}{v:PV}{H':za}(hr:zvu rs o=true)(he:ExH P all ws rs o f H v H'):Ag ws (rs.map (·.2)) H H':=by
 rcases he with⟨_,_,h3⟩|⟨_,h2⟩
 ·rw[h3];exact .refl _ _ _
 ·have hc:zk o.op f=none:=by
   simp only[zvu,qK]at hr;rcases hr with hr|hr
   ·exact ziZ hr
   ·obtain⟨er,her⟩:=Option.isSome_iff_exists.1 hr;exact zku her
  rw[hc]at h2;obtain⟨hp,hk⟩:=h2;unfold zi9 at hp;unfold zle at hk;cases hres:zg5 rs o with
  | some er=>
   obtain⟨elem,r⟩:=er;rw[hres]at hp hk;simp only[qB]at hk;simp only[zl2]at hp;split at hp
   ·rename_i z k hz hkk;split at hp
    ·rename_i hq;simp only[qA.injEq,Prod.mk.injEq]at hp;rw[←hp.2];exact .set hkk (by have:=hk.1;rw[qJ]at this;simpa using this) (.inr (by have:=hk.2;rw[qJ]at this;simpa using this))
    ·cases hp
   ·cases hp
  | none=>
   rw[hres]at hp hk;have hs:zbB o.op=true:=by
    simp only[zvu,hres,qK]at hr;rcases hr with hr|hr
    ·exact hr
    ·simp at hr
   rw[hs]at hk;simp only at hk hp;cases ho:o.op<;>rw[ho]at hs hk hp<;>try(simp[zbB]at hs;done)
   rename_i t x y;simp only[znO]at hk;simp only[pop,qI,Prod.mk.injEq]at hp;obtain⟨H2,h1,_,rfl⟩:=hp;unfold zc1 at h1;split at h1
   ·rename_i id ver off hx;rw[hx]at hk;simp only at hk;split at h1
    ·rename_i k hkk;split at h1
     ·simp only[qI]at h1;obtain⟨c,_,rfl⟩:=h1;exact .set hkk (by rw[qJ]at hk;simpa using hk) (.inl rfl)
     ·cases h1
    ·cases h1
   ·cases h1
def stpH(P:Program)(ws:List Nat)(rs:List (Nat×Nat))(ds:List (Option Nat))(o:Oper)(F:Fr)(H:za):Option (Fr×za):=
 match zan ds F o with
 | none=>none
 | some b=>cond b (match zle ws rs o (slot F)with
  | true=>(match zi9 P rs o (slot F) H with|some (v,H')=>some (put F o.dst v,H')|none=>none)
  | false=>none) (some (put F o.dst (.tup []),H))
def VCk(P:Program)(ws:List Nat)(rs:List (Nat×Nat))(o:Oper)(F:Fr)(H:za)(K:Fr→za→Prop):Prop:=
 match zk o.op (slot F)with
 | some (g,args)=>∃ v,(∀ L,Ag ws (rs.map (·.2)) H L→CallOk P g args L v L)∧K (put F o.dst v) H
 | none=>False
def VCh(P:Program)(ws:List Nat)(rs:List (Nat×Nat))(ds:List (Option Nat))(o:Oper)(F:Fr)(H:za)(K:Fr→za→Prop):Prop:=
 match zan ds F o with
 | none=>False
 | some b=>(b=true→VCk P ws rs o F H K)∧(b=false→K (put F o.dst (.tup [])) H)
theorem Vs.place{E:Env}(e:Nat):Vs E F H F (H++[⟨e,0,[]⟩]):=fun _ C a w hw hf=>by obtain⟨g1,g2⟩:=hw.ghost e 0;exact⟨_,g1.toN _,g2,hf.mono g1⟩
theorem ztb{i j:Nat}{l:List Nat}(h:i≠j):(j::l).elem i=l.elem i:=by simp[List.elem_cons,h]
theorem zrc(i:Nat)(l:List Nat):(i::l).elem i=true:=by simp
theorem zop(i:Nat):([]:List Nat).elem i=false:=rfl
end Go.Proofs.YtpjlfoficnpfoaaGreatDoor.Pm
namespace Go.Proofs.YtpjlfoficnpfoaaGreatDoor.Pm
set_option linter.all false
open Go.RowKit
variable {P:Program} {H:za} {F:Fr}
theorem zuJ(ds:List (Option Nat))(o:Oper):stp P ds o F H=match zan ds F o with
  | none=>none
  | some b=>cond b (match pop P o.op (slot F) H with|some (v,H')=>some (put F o.dst v,H')|none=>none) (some (put F o.dst (.tup []),H)):=by
 unfold stp;cases zan ds F o with
 | none=>rfl
 | some b=>cases b<;>rfl
theorem zh{ds:List (Option Nat)}{l:List Oper}{K:Fr→za→Prop}{x:Bool}{A B:Option (Fr×za)}(h1:x=true→VO P ds l A K)(h2:x=false→VO P ds l B K):VO P ds l (cond x A B) K:=by
 cases x with
 | true=>exact h1 rfl
 | false=>exact h2 rfl
theorem ze{ds:List (Option Nat)}{l:List Oper}{K:Fr→za→Prop}{x:Bool}{A B:Option (Fr×za)}(h1:x=true→VOd P ds l A K)(h2:x=false→VOd P ds l B K):VOd P ds l (cond x A B) K:=by
 cases x with
 | true=>exact h1 rfl
 | false=>exact h2 rfl
theorem zZ{ds:List (Option Nat)}{l:List Oper}{K:Fr→za→Prop}{x:Bool}{A B:Option (Fr×za)}(h1:x=true→VOg P ds l A K)(h2:x=false→VOg P ds l B K):VOg P ds l (cond x A B) K:=by
 cases x with
 | true=>exact h1 rfl
 | false=>exact h2 rfl
theorem VC.guard{ds:List (Option Nat)}{o:Oper}{K:Fr→za→Prop}{x:Bool}(ha:zan ds F o=some x)(h1:x=true→VC P ds { o with guard:=none } F H K)(h2:x=false→K (put F o.dst (.tup [])) H):VC P ds o F H K:=by
 cases x with
 | true=>
  have:=h1 rfl;unfold VC at this ⊢;rw[ha];exact this
 | false=>unfold VC;rw[ha];exact h2 rfl
theorem VCd.guard{ds:List (Option Nat)}{o:Oper}{K:Fr→za→Prop}{x:Bool}(ha:zan ds F o=some x)(h1:x=true→VCd P ds { o with guard:=none } F H K)(h2:x=false→K (put F o.dst (.tup [])) H):VCd P ds o F H K:=by
 cases x with
 | true=>
  have:=h1 rfl;unfold VCd at this ⊢;rw[ha];exact this
 | false=>unfold VCd;rw[ha];exact h2 rfl
def VCx(P:Program)(o:Oper)(F:Fr)(H:za)(K:Fr→za→Prop):Prop:=
 match zk o.op (slot F)with
 | some (g,args)=>∃ R,CallEx P g args H R∧∀ v H',R v H'→K (put F o.dst v) H'
 | none=>False
def VCy(P:Program)(o:Oper)(F:Fr)(H:za)(K:Fr→za→Prop):Prop:=
 match zk o.op (slot F)with
 | some (g,args)=>∃ v,(CallOk P g args H v H∧(zav o.op=true→∀ K,CallOk P g args K v K))∧K (put F o.dst v) H
 | none=>False
theorem zxp(ds:List (Option Nat))(o:Oper)(K:Fr→za→Prop):VC P ds o F H K=match zan ds F o with
  | none=>False
  | some b=>(b=true→VCx P o F H K)∧(b=false→K (put F o.dst (.tup [])) H):=by
 unfold VC VCx;cases zan ds F o with
 | none=>rfl
 | some b=>cases b<;>simp<;>exact Iff.rfl
theorem zv5(ds:List (Option Nat))(o:Oper)(K:Fr→za→Prop):VCd P ds o F H K=match zan ds F o with
  | none=>False
  | some b=>(b=true→VCy P o F H K)∧(b=false→K (put F o.dst (.tup [])) H):=by
 unfold VCd VCy;cases zan ds F o with
 | none=>rfl
 | some b=>cases b<;>simp<;>exact Iff.rfl
def VCz(P:Program)(o:Oper)(F:Fr)(H:za)(K:Fr→za→Prop):Prop:=
 match zk o.op (slot F)with
 | some (g,args)=>∃ v,((∀ L,CallOk P g args (H++L) v (H++L))∧(zav o.op=true→∀ K,CallOk P g args K v K))∧K (put F o.dst v) H
 | none=>False
theorem zv4(ds:List (Option Nat))(o:Oper)(K:Fr→za→Prop):VCg P ds o F H K=match zan ds F o with
  | none=>False
  | some b=>(b=true→VCz P o F H K)∧(b=false→K (put F o.dst (.tup [])) H):=by
 unfold VCg VCz;cases zan ds F o with
 | none=>rfl
 | some b=>cases b<;>simp<;>exact Iff.rfl
theorem VCz.call{o:Oper}{K:Fr→za→Prop}{g:FuncId}{args:List PV}{v:PV}(h:∀ L,CallOk P g args (H++L) v (H++L))(hc:zk o.op (slot F)=some (g,args))(hk:K (put F o.dst v) H)(hp:zav o.op=false:=by rfl):VCz P o F H K:=by unfold VCz;simp only[hc];exact⟨v,⟨h,fun e=>by rw[hp]at e;cases e⟩,hk⟩
theorem VCx.call{o:Oper}{K:Fr→za→Prop}{g:FuncId}{args:List PV}{v:PV}{H':za}(h:CallOk P g args H v H')(hc:zk o.op (slot F)=some (g,args))(hk:K (put F o.dst v) H'):VCx P o F H K:=by unfold VCx;simp only[hc];exact⟨_,h.toEx,fun v' H'' e=>by rw[e.1,e.2];exact hk⟩
theorem VCx.callR{o:Oper}{K:Fr→za→Prop}{g:FuncId}{args:List PV}{R:PV→za→Prop}(h:CallEx P g args H R)(hc:zk o.op (slot F)=some (g,args))(hk:∀ v H',R v H'→K (put F o.dst v) H'):VCx P o F H K:=by unfold VCx;simp only[hc];exact⟨R,h,hk⟩
theorem VCy.call{o:Oper}{K:Fr→za→Prop}{g:FuncId}{args:List PV}{v:PV}(h:CallOk P g args H v H)(hc:zk o.op (slot F)=some (g,args))(hk:K (put F o.dst v) H)(hp:zav o.op=false:=by rfl):VCy P o F H K:=by unfold VCy;simp only[hc];exact⟨v,⟨h,fun e=>by rw[hp]at e;cases e⟩,hk⟩
theorem VCy.callP{o:Oper}{K:Fr→za→Prop}{g:FuncId}{args:List PV}{v:PV}(h:∀ K,CallOk P g args K v K)(hc:zk o.op (slot F)=some (g,args))(hk:K (put F o.dst v) H):VCy P o F H K:=by unfold VCy;simp only[hc];exact⟨v,⟨h H,fun _=>h⟩,hk⟩
theorem zqj(k k':IntKind)(a b:Int):zaZ .add k a k' b=if k=k' then some (.int k (k.wrap (a+b)))else none:=rfl
theorem zp9(k k':IntKind)(a b:Int):zaZ .sub k a k' b=if k=k' then some (.int k (k.wrap (a - b)))else none:=rfl
theorem zqd(k k':IntKind)(a b:Int):zaZ .mul k a k' b=if k=k' then some (.int k (k.wrap (a * b)))else none:=rfl
theorem zqi(k k':IntKind)(a b:Int):zaZ .eql k a k' b=if k=k' then some (.bool (a==b))else none:=rfl
theorem zqc(k k':IntKind)(a b:Int):zaZ .neq k a k' b=if k=k' then some (.bool (a !=b))else none:=rfl
theorem zqe(k k':IntKind)(a b:Int):zaZ .lss k a k' b=if k=k' then some (.bool (decide (a<b)))else none:=rfl
theorem zqf(k k':IntKind)(a b:Int):zaZ .leq k a k' b=if k=k' then some (.bool (decide (a≤b)))else none:=rfl
theorem zqg(k k':IntKind)(a b:Int):zaZ .gtr k a k' b=if k=k' then some (.bool (decide (b<a)))else none:=rfl
theorem zqh(k k':IntKind)(a b:Int):zaZ .geq k a k' b=if k=k' then some (.bool (decide (b≤a)))else none:=rfl
theorem zqb(k k':IntKind)(a b:Int):zaZ .quo k a k' b=if k=k' then(if b=0 then none else some (.int k (k.wrap (a.tdiv b))))else none:=rfl
theorem zqa(k k':IntKind)(a b:Int):zaZ .rem k a k' b=if k=k' then(if b=0 then none else some (.int k (a.tmod b)))else none:=rfl
theorem hp4(H K:za)(a b c d e:Blk):(H++a::b::c::d::e::K)[H.length+4]? =some e:=by rw[qG om];simp
theorem hp5(H K:za)(a b c d e f:Blk):(H++a::b::c::d::e::f::K)[H.length+5]? =some f:=by rw[qG om];simp
theorem hp6(H K:za)(a b c d e f g:Blk):(H++a::b::c::d::e::f::g::K)[H.length+6]? =some g:=by rw[qG om];simp
theorem hs3(H K:za)(a b c d x:Blk):(H++a::b::c::d::K).set (H.length+3) x=H++a::b::c::x::K:=by rw[qF _ _ om];simp
theorem hs4(H K:za)(a b c d e x:Blk):(H++a::b::c::d::e::K).set (H.length+4) x=H++a::b::c::d::x::K:=by rw[qF _ _ om];simp
theorem hs5(H K:za)(a b c d e f x:Blk):(H++a::b::c::d::e::f::K).set (H.length+5) x=H++a::b::c::d::e::x::K:=by rw[qF _ _ om];simp
theorem hs6(H K:za)(a b c d e f g x:Blk):(H++a::b::c::d::e::f::g::K).set (H.length+6) x=H++a::b::c::d::e::f::x::K:=by rw[qF _ _ om];simp
theorem hl4(H:za)(a b c d:Blk):(H++[a,b,c,d]).length=H.length+4:=by simp
theorem hl5(H:za)(a b c d e:Blk):(H++[a,b,c,d,e]).length=H.length+5:=by simp
theorem hl6(H:za)(a b c d e f:Blk):(H++[a,b,c,d,e,f]).length=H.length+6:=by simp
attribute [go_sem] hp4 hp5 hp6 hs3 hs4 hs5 hs6 hl4 hl5 hl6 zqj zp9 zqd zqi zqc zqe zqf zqg zqh zqb zqa zxp zv5 zv4 VRg ztx zlp   VCh stpH zle zi9 zl2 zg5 rsv zbB znO zm1 zeo zD zaM eff zmi zaU ztb zrc zop Op.operands true_implies Bool.true_eq_false qN VR zv3 ztz VRd zty zck zE zuJ zan zk pop zc7 zmb zby zel zca zae ev pvc pv1 slot put qC zfK zsv peq zbS zdG zeg zex zn7 zc4 zji qT qT.loop pun Option.map Option.bind zbl zac zem rd zdl wr zc1 zaq zjh zap zjd zax zct zdm zaK zkF zaA zgc zsy zn3 ze1 zu zh4 zdf zdM zgu PV.cells PV.cell zhq zco zaE Option.isSome_some Option.isSome_none kp hp0 hp1 hp2 hp3 hs0 hs1 hs2 hl1 hl2 hl3 List.append_assoc Nat.beq_refl List.length_cons List.length_nil List.all_cons List.all_nil zab zaK List.replicate_succ List.replicate_zero List.flatten_cons List.flatten_nil List.take_succ_cons List.take_zero List.take_nil List.drop_succ_cons List.drop_zero List.drop_nil Nat.zero_mul Nat.sub_self true_implies false_implies and_true true_and false_and and_false and_self not_true_eq_false not_false_eq_true qN Bool.false_and Bool.and_false Bool.true_or Bool.or_true Bool.false_or Bool.or_false if_true if_false ite_true ite_false forall_const List.map_cons List.map_nil List.cons_append List.nil_append List.append_nil qW Nat.zero_add Nat.add_zero Nat.mul_one Nat.one_mul beq_self_eq_true Bool.true_and Bool.and_true List.getElem?_cons_succ List.getElem?_cons_zero List.getElem?_toArray List.set_cons_zero List.set_cons_succ beq_true beq_false Bool.not_true Bool.not_false decide_true decide_false cond_true cond_false zvq zvr w64 w8 w32 zxc zxd zxj zxk zxf zxg Int.toNat_natCast IntWalk.toNatUp
class Ld(P:Program)(E:Env)(c:Code)(Q:Exit→Fr→za→Prop)(r:outParam Code)(R:outParam (Exit→Fr→za→Prop)):Prop where
 h:∀ F H,PW P E r F H R→PW P E c F H Q
instance ld0{P:Program}{E:Env}{Q:Exit→Fr→za→Prop}{id:Nat}{ops:Array Oper}{b:Bool}:Ld P E (.region id ops b) Q (.region id ops b) Q:=⟨fun _ _ h=>h⟩
instance ld1{P:Program}{E:Env}{Q R:Exit→Fr→za→Prop}{x y r:Code}[k:Ld P E x (zgT (fun F' H'=>PW P E y F' H' Q) Q) r R]:Ld P E (.seq x y) Q r R:=⟨fun F H h=>PW.seq (k.h F H h)⟩
theorem PW.e{P:Program}{E:Env}{F:Fr}{H:za}{Q R:Exit→Fr→za→Prop}{c:Code}{id:Nat}{ops:Array Oper}{F':Fr}{H':za}[k:Ld P E c Q (.region id ops false) R](hq:R .normal F' H')(hd:ops.toList.all (zI E.N)=true:=by rfl)(h:∀ K:Fr→za→Prop,K F' H'→VO P (ops.toList.map (·.dst)) ops.toList (some (F,H)) K:=by(intro K k;simp(maxSteps:=3000000) (disch:=omega) only[go_sem,↓reduceIte,reduceCtorEq];exact k)):PW P E c F H Q:=k.h _ _ (PW.rg hd fun K hK=>h K (hK _ _ hq))
theorem PW.f{P:Program}{E:Env}{F:Fr}{H:za}{Q R:Exit→Fr→za→Prop}{c:Code}{id:Nat}{ops:Array Oper}{F':Fr}{H':za}[k:Ld P E c Q (.region id ops false) R](h:∀ K:Fr→za→Prop,K F' H'→VO P (ops.toList.map (·.dst)) ops.toList (some (F,H)) K)(hq:R .normal F' H')(hd:ops.toList.all (zI E.N)=true:=by rfl):PW P E c F H Q:=k.h _ _ (PW.rg hd fun K hK=>h K (hK _ _ hq))
instance ld2{P:Program}{E:Env}{Q:Exit→Fr→za→Prop}{o:Operand}{a b:Code}:Ld P E (.cond o a b) Q (.cond o a b) Q:=⟨fun _ _ h=>h⟩
theorem PW.t{P:Program}{E:Env}{F:Fr}{H:za}{Q R:Exit→Fr→za→Prop}{c:Code}{o:Operand}{a b:Code}[k:Ld P E c Q (.cond o a b) R](h:PW P E a F H R)(e:ev (slot F) o= .bool true:=by rfl):PW P E c F H Q:=k.h _ _ (PW.cond e (fun _=>h) (fun h=>by cases h))
theorem PW.u{P:Program}{E:Env}{F:Fr}{H:za}{Q R:Exit→Fr→za→Prop}{c:Code}{o:Operand}{a b:Code}[k:Ld P E c Q (.cond o a b) R](h:PW P E b F H R)(e:ev (slot F) o= .bool false:=by rfl):PW P E c F H Q:=k.h _ _ (PW.cond e (fun h=>by cases h) (fun _=>h))
theorem PW.us{P:Program}{E:Env}{F:Fr}{H:za}{Q R:Exit→Fr→za→Prop}{c:Code}{o:Operand}{a:Code}[k:Ld P E c Q (.cond o a .skip) R](h:R .normal F H)(e:ev (slot F) o= .bool false:=by rfl):PW P E c F H Q:=PW.u (k:=k) (PW.skip h) e
theorem PW.g{P:Program}{E:Env}{F:Fr}{H:za}{Q R:Exit→Fr→za→Prop}{c:Code}{id:Nat}{ops:Array Oper}{F':Fr}{H':za}[k:Ld P E c Q (.region id ops false) R]{p:Prop}(x:p)(hq:R .normal F' H')(hd:ops.toList.all (zI E.N)=true:=by rfl)(h:∀ K:Fr→za→Prop,K F' H'→p→VO P (ops.toList.map (·.dst)) ops.toList (some (F,H)) K:=by(intro K k x;simp(maxSteps:=3000000) (disch:=omega) only[go_sem,↓reduceIte,reduceCtorEq,x];exact k)):PW P E c F H Q:=k.h _ _ (PW.rg hd fun K hK=>h K (hK _ _ hq) x)
theorem PW.k{P:Program}{E:Env}{F:Fr}{H:za}{Q R:Exit→Fr→za→Prop}{c:Code}{id:Nat}{ops:Array Oper}{F':Fr}{H':za}[k:Ld P E c Q (.region id ops false) R]{p:Prop}(x:p)(hq:R .normal F' H')(hd:ops.toList.all (zI E.N)=true:=by rfl)(h:∀ K:Fr→za→Prop,K F' H'→p→VO P (ops.toList.map (·.dst)) ops.toList (some (F,H)) K:=by(intro K k x;simp(maxSteps:=3000000) (disch:=omega) only[go_sem,↓reduceIte,reduceCtorEq];refine VCx.call (x _) rfl ?_;simp(maxSteps:=3000000) (disch:=omega) only[go_sem,↓reduceIte,reduceCtorEq];exact k)):PW P E c F H Q:=k.h _ _ (PW.rg hd fun K hK=>h K (hK _ _ hq) x)
theorem PW.m{P:Program}{E:Env}{F:Fr}{H:za}{Q R:Exit→Fr→za→Prop}{c:Code}{id:Nat}{ops:Array Oper}{F':Fr}{H':za}[k:Ld P E c Q (.region id ops false) R]{p q:Prop}(y:q)(x:p)(hq:R .normal F' H')(hd:ops.toList.all (zI E.N)=true:=by rfl)(h:∀ K:Fr→za→Prop,K F' H'→q→p→VO P (ops.toList.map (·.dst)) ops.toList (some (F,H)) K:=by(intro K k y x;simp(maxSteps:=3000000) (disch:=omega) only[go_sem,↓reduceIte,reduceCtorEq,y];refine VCx.call (x _) rfl ?_;simp(maxSteps:=3000000) (disch:=omega) only[go_sem,↓reduceIte,reduceCtorEq,y];exact k)):PW P E c F H Q:=k.h _ _ (PW.rg hd fun K hK=>h K (hK _ _ hq) y x)
theorem PW.m2{P:Program}{E:Env}{F:Fr}{H:za}{Q R:Exit→Fr→za→Prop}{c:Code}{id:Nat}{ops:Array Oper}{F':Fr}{H':za}[k:Ld P E c Q (.region id ops false) R]{p q r:Prop}(y:q)(x:p)(z:r)(hq:R .normal F' H')(hd:ops.toList.all (zI E.N)=true:=by rfl)(h:∀ K:Fr→za→Prop,K F' H'→q→p→r→VO P (ops.toList.map (·.dst)) ops.toList (some (F,H)) K:=by(intro K k y x z;simp(maxSteps:=3000000) (disch:=omega) only[go_sem,↓reduceIte,reduceCtorEq,y];refine VCx.call (x _) rfl ?_;simp(maxSteps:=3000000) (disch:=omega) only[go_sem,↓reduceIte,reduceCtorEq,y];refine VCx.call (z _) rfl ?_;simp(maxSteps:=3000000) (disch:=omega) only[go_sem,↓reduceIte,reduceCtorEq,y];exact k)):PW P E c F H Q:=k.h _ _ (PW.rg hd fun K hK=>h K (hK _ _ hq) y x z)
theorem CallOk.go{P:Program}{H:za}{N:Nat}{f:FuncId}{fn:Func}{c:Code}{rs:Array ResultVar}{F0:Fr}{args:List PV}{v:PV}{Hout:za}(hf:P.funcs[f]? =some fn)(hN:fn.ntmps=N)(hrs:fn.results=rs)(h:PW P ⟨N,H⟩ c F0 H (znV P rs.toList (Fin H v Hout)))(hF:zbM args 0=F0:=by(simp only[zbM,Nat.reduceAdd];rfl))(hb:fn.body=some c:=by rfl)(hcall:zaz P f=true:=by kernel_rfl)(hn:Nat.ble args.length N=true:=by rfl):CallOk P f args H v Hout:=CallOk.body hf hb hN hrs hF hcall hn h
theorem nq2{p q:Prop}(a:p)(b:q):p∧q:=⟨a,b⟩
instance ld3{P:Program}{E:Env}{Q:Exit→Fr→za→Prop}{id:Nat}{c:Code}:Ld P E (.block id c) Q (.block id c) Q:=⟨fun _ _ h=>h⟩
theorem PW.b{P:Program}{E:Env}{F:Fr}{H:za}{Q R:Exit→Fr→za→Prop}{c x:Code}{id:Nat}[k:Ld P E c Q (.block id x) R](h:PW P E x F H (zdU id R)):PW P E c F H Q:=k.h _ _ (PW.block h)
theorem PW.l{P:Program}{E:Env}{F:Fr}{H:za}{Q R:Exit→Fr→za→Prop}{c x:Code}{id:Nat}[k:Ld P E c Q (.block id (.loop x)) R](h:PL P E x F H (zdU id R)):PW P E c F H Q:=k.h _ _ (PW.block (PW.loop h))
theorem PW.c{P:Program}{E:Env}{F:Fr}{H:za}{Q R:Exit→Fr→za→Prop}{c:Code}{o:Operand}{a b:Code}{t:Bool}[k:Ld P E c Q (.cond o a b) R](h1:t=true→PW P E a F H R)(h2:t=false→PW P E b F H R)(e:ev (slot F) o= .bool t:=by rfl):PW P E c F H Q:=k.h _ _ (PW.cond e h1 h2)
theorem PW.v{P:Program}{E:Env}{F:Fr}{H:za}{Q:Exit→Fr→za→Prop}{rs:List ResultVar}{R:PV→Prop}(v:PV)(h:R v)(c:(∃ u,zr P rs (slot F) H=some u∧R u)=Q .ret F H:=by rfl)(e:zr P rs (slot F) H=some v:=by(simp(maxSteps:=3000000) (disch:=omega) only[go_sem,↓reduceIte,reduceCtorEq,zr,zF,List.mapM_cons,List.mapM_nil,Option.pure_def,Option.bind_eq_bind,Option.bind_some,Array.toList])):PW P E .ret F H Q:=PW.ret (c▸⟨v,e,h⟩)
theorem PW.w{P:Program}{E:Env}{F:Fr}{H:za}{Q:Exit→Fr→za→Prop}{rs:List ResultVar}{R:PV→Prop}(v:PV){p:Prop}(x:p)(h:R v)(c:(∃ u,zr P rs (slot F) H=some u∧R u)=Q .ret F H:=by rfl)(e:p→zr P rs (slot F) H=some v:=by(intro x;simp(maxSteps:=3000000) (disch:=omega) only[go_sem,↓reduceIte,reduceCtorEq,zr,zF,List.mapM_cons,List.mapM_nil,Option.pure_def,Option.bind_eq_bind,Option.bind_some,Array.toList,x])):PW P E .ret F H Q:=PW.ret (c▸⟨v,e x,h⟩)
attribute [go_sem] pappend.eq_1 zc2
theorem nqb:(∀ b:Bool,((!b)=true)=(b=false))∧(∀ b:Bool,((!b)=false)=(b=true))∧(∀(p:Prop) [Decidable p],(decide p=true)=p)∧(∀(p:Prop) [Decidable p],(decide p=false)=¬ p):=⟨fun b=>by cases b<;>simp,fun b=>by cases b<;>simp,fun p _=>by simp,fun p _=>by simp⟩
theorem sqz{p q:Prop}(k:q)(h:q→p:=by(intro k;simp(maxSteps:=3000000) (disch:=omega) only[go_sem,↓reduceIte,reduceCtorEq];exact k)):p:=h k
theorem sqx{p q f:Prop}(x:f)(k:q)(h:f→q→p:=by(intro x k;simp(maxSteps:=3000000) (disch:=omega) only[go_sem,↓reduceIte,reduceCtorEq,x];exact k)):p:=h x k
end Go.Proofs.YtpjlfoficnpfoaaGreatDoor.Pm
