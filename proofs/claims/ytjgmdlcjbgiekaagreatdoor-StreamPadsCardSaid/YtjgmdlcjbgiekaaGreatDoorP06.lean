/-
  Parts of the proof, put together in one text. No condition.
-/
import Derived.Test.YtjgmdlcjbgiekaaGreatDoorP05
namespace Go.Proofs.YtjgmdlcjbgiekaaGreatDoor.Pm
set_option linter.all false
open Go.RowKit
variable {P:Program} {C:Ctx} {H:za} {w:World} {F:Fr} {a:Act} {N:Nat}
def eqL {α:Type} (f:α→α→Bool):List α→List α→Bool
 | [],[]=>true
 | x::xs,y::ys=>match f x y with|true=>eqL f xs ys|false=>false
 | _,_=>false
theorem zdF {α:Type} {f:α→α→Bool} (hf:∀ x y,f x y=true→x=y):∀ {xs ys:List α},eqL f xs ys=true→xs=ys
 | [],[],_=>rfl
 | x::xs,y::ys,h=>by
  simp only [eqL] at h
  split at h
  ·rename_i h1;rw [hf _ _ h1,zdF hf h]
  ·cases h
 | [],_::_,h=>by cases h
 | _::_,[],h=>by cases h
def eqb:Nat→PV→PV→Bool
 | 0,_,_=>false
 | _+1,.int k a,.int k' b=>decide (k=k')&&decide (a=b)
 | _+1,.bool a,.bool b=>a==b
 | _+1,.str a,.str b=>decide (a=b)
 | _+1,.nilp,.nilp=>true
 | _+1,.nl a,.nl b=>Nat.beq a b
 | _+1,.undef,.undef=>true
 | _+1,.ptr a b c,.ptr a' b' c'=>Nat.beq a a'&&Nat.beq b b'&&Nat.beq c c'
 | n+1,.ip xs o,.ip ys o'=>Nat.beq o o'&&eqL (eqb n) xs ys
 | n+1,.slice xs l f,.slice ys l' f'=>Nat.beq l l'&&(f==f')&&eqL (eqb n) xs ys
 | _+1,.msl a b c d e g,.msl a' b' c' d' e' g'=>Nat.beq a a'&&Nat.beq b b'&&Nat.beq c c'&&Nat.beq d d'&&Nat.beq e e'&&(g==g')
 | _+1,.mp a b,.mp a' b'=>Nat.beq a a'&&Nat.beq b b'
 | n+1,.agg xs,.agg ys=>eqL (eqb n) xs ys
 | n+1,.tup xs,.tup ys=>eqL (eqb n) xs ys
 | n+1,.func f xs us,.func f' ys vs=>Nat.beq f f'&&eqL (eqb n) xs ys&&eqL (eqb n) us vs
 | _+1,_,_=>false
theorem zfd:∀ (n:Nat) (x y:PV),eqb n x y=true→x=y
 | 0,_,_,h=>by simp [eqb] at h
 | n+1,x,y,h=>by
  have ih:∀ {xs ys:List PV},eqL (eqb n) xs ys=true→xs=ys:=fun h=>zdF (zfd n) h
  have nb:∀ {a b:Nat},Nat.beq a b=true→a=b:=fun h=>Nat.eq_of_beq_eq_true h
  cases x<;>cases y<;>simp only [eqb,Bool.false_eq_true,Bool.and_eq_true,decide_eq_true_eq,beq_iff_eq] at h
  case int=>rw [h.1,h.2]
  case bool=>rw [h]
  case str=>rw [h]
  case nilp=>rfl
  case nl=>rw [nb h]
  case ptr=>rw [nb h.1.1,nb h.1.2,nb h.2]
  case ip=>rw [nb h.1,ih h.2]
  case slice=>rw [nb h.1.1,ih h.2,h.1.2]
  case msl=>rw [nb h.1.1.1.1.1,nb h.1.1.1.1.2,nb h.1.1.1.2,nb h.1.1.2,nb h.1.2,h.2]
  case mp=>rw [nb h.1,nb h.2]
  case agg=>rw [ih h]
  case tup=>rw [ih h]
  case func=>rw [nb h.1.1,ih h.1.2,ih h.2]
  case undef=>rfl
def zqa (a b:Blk):Bool:=Nat.beq a.e b.e&&Nat.beq a.ver b.ver&&eqL (eqb 20) a.cells b.cells
theorem zj4 (a b:Blk) (h:zqa a b=true):a=b:=by
 simp only [zqa,Bool.and_eq_true] at h
 cases a;cases b
 simp only [Blk.mk.injEq]
 exact ⟨Nat.eq_of_beq_eq_true h.1.1,Nat.eq_of_beq_eq_true h.1.2,zdF (zfd 20) h.2⟩
def eqH (a b:za):Bool:=eqL zqa a b
theorem zhL {a b:za} (h:eqH a b=true):a=b:=zdF zj4 h
inductive Task where
 | code (N:Nat) (c:Code) (F:Fr) (H:za)
 | loop (N:Nat) (c:Code) (F:Fr) (H:za)
 | ops (d:Bool) (ds:List (Option Nat)) (l:List Oper) (F:Fr) (H:za)
 | call (f:FuncId) (args:List PV) (H:za)
inductive Res where
 | code (e:Exit) (F:Fr) (H:za)
 | val (v:PV) (H:za)
def zin (ks:List Nat):Fr→List Nat
 | []=>ks
 | (t,_)::r=>match ks.any (Nat.beq t) with|true=>zin ks r|false=>zin (t::ks) r
def zbA (P:Program) (ih:Task→Option Res):Task→Option Res
 | .code N c F H=>match c with
  | .skip=>some (.code .normal F H)
  | .region _ ops d=>match ops.toList.all (zQ N)&&(!d||(P.follows .mixedOrders&&zfe N ops.toList)) with
   | true=>ih (.ops d (ops.toList.map (·.dst)) ops.toList F H)
   | false=>none
  | .seq x y=>match ih (.code N x F H) with
   | some (.code .normal F1 H1)=>ih (.code N y F1 H1)
   | r=>r
  | .cond c x y=>match ev (slot F) c with
   | .bool true=>ih (.code N x F H)
   | .bool false=>ih (.code N y F H)
   | _=>none
  | .block id x=>match ih (.code N x F H) with
   | some (.code (.exit id') F1 H1)=>match Nat.beq id' id with|true=>some (.code .normal F1 H1)|false=>some (.code (.exit id') F1 H1)
   | r=>r
  | .loop x=>ih (.loop N x F H)
  | .exit id=>some (.code (.exit id) F H)
  | .label _=>some (.code .normal F H)
  | .scope x=>match ih (.code N x F H) with
   | some (.code (.goto _) _ _)=>none
   | r=>r
  | .ret=>some (.code .ret F H)
  | _=>none
 | .loop N x F H=>match ih (.code N x F H) with
  | some (.code .normal F1 H1)=>ih (.loop N x (kp (zin [] F1) F1) H1)
  | r=>r
 | .ops _ _ [] F H=>some (.code .normal F H)
 | .ops d ds (o::r) F H=>match zE o.op with
  | false=>match stp P ds o F H with
   | some (F1,H1)=>ih (.ops d ds r F1 H1)
   | none=>none
  | true=>match zad ds F o with
   | some true=>match zo o.op (slot F) with
    | some (g,args)=>match d&&zaq o.op with
     | true=>match args,ih (.call g [] []) with
      | [],some (.val v [])=>ih (.ops d ds r (put F o.dst v) H)
      | _,_=>none
     | false=>match ih (.call g args H) with
      | some (.val v H1)=>match !d||eqH H1 H with
       | true=>ih (.ops d ds r (put F o.dst v) H1)
       | false=>none
      | _=>none
    | none=>none
   | some false=>ih (.ops d ds r (put F o.dst (.tup [])) H)
   | none=>none
 | .call f args H=>match P.funcs[f]? with
  | some fn=>match fn.body with
   | some c=>match zaG P f&&Nat.ble args.length fn.ntmps with
    | true=>match ih (.code fn.ntmps c (zb7 args 0) H) with
     | some (.code e F1 H1)=>match (match e with| .ret=>true| .normal=>true|_=>false) with
      | true=>match zd P fn.results.toList (slot F1) H1 with
       | some v=>match eqH (H1.take H.length) H with
        | true=>match frz H.length H1 20 v with
         | some v1=>some (.val v1 H)
         | none=>some (.val v H1)
        | false=>some (.val v H1)
       | none=>none
      | false=>none
     | _=>none
    | false=>none
   | none=>none
  | none=>none
noncomputable def zg0 (P:Program) (n:Nat):Task→Option Res:=n.rec (fun _=>none) (fun _ ih=>zbA P ih)
def zvl (P:Program):Task→Res→Prop
 | .code N c F H,.code e F1 H1=>∀ H0,PW P ⟨N,H0⟩ c F H (fun e' F' H'=>e'=e∧F'=F1∧H'=H1)
 | .loop N c F H,.code e F1 H1=>∀ H0,PL P ⟨N,H0⟩ c F H (fun e' F' H'=>e'=e∧F'=F1∧H'=H1)
 | .ops false ds l F H,.code .normal F1 H1=>VO P ds l (some (F,H)) (fun F' H'=>F'=F1∧H'=H1)
 | .ops true ds l F H,.code .normal F1 H1=>VOd P ds l (some (F,H)) (fun F' H'=>F'=F1∧H'=H1)
 | .call f args H,.val v H1=>CallOk P f args H v H1
 | _,_=>False
theorem zf7 {ds:List (Option Nat)} {K K':Fr→za→Prop} (hk:∀ F H,K F H→K' F H):∀ {l:List Oper} {s:Option (Fr×za)},VO P ds l s K→VO P ds l s K'
 | l,none,h=>by rw [ziZ] at h;exact h.elim
 | [],some (F,H),h=>hk F H h
 | o::r,some (F,H),h=>by
  cases hc:zE o.op with
  | false=>rw [zmF hc] at h ⊢;exact zf7 hk h
  | true=>
   rw [zeK hc] at h ⊢
   unfold VC at h ⊢
   split at h
   ·split at h
    ·obtain ⟨R,h1,h2⟩:=h;exact ⟨R,h1,fun v H' hR=>zf7 hk (h2 v H' hR)⟩
    ·exact h
   ·exact zf7 hk h
   ·exact h
theorem zeJ {ds:List (Option Nat)} {K K':Fr→za→Prop} (hk:∀ F H,K F H→K' F H):∀ {l:List Oper} {s:Option (Fr×za)},VOd P ds l s K→VOd P ds l s K'
 | l,none,h=>by rw [zhc] at h;exact h.elim
 | [],some (F,H),h=>hk F H h
 | o::r,some (F,H),h=>by
  rw [zb9] at h ⊢
  cases hc:zE o.op with
  | false=>rw [hc] at h;exact zeJ hk h
  | true=>
   rw [hc] at h
   simp only [VCd,VRd] at h ⊢
   split at h
   ·split at h
    ·obtain ⟨v,h1,h2⟩:=h;exact ⟨v,h1,zeJ hk h2⟩
    ·exact h
   ·exact zeJ hk h
   ·exact h
theorem zkt {ih:Task→Option Res} (hih:∀ t r,ih t=some r→zvl P t r):∀ t r,zbA P ih t=some r→zvl P t r:=by
 intro t r h
 cases t with
 | code N c F H=>
  have sub:∀ {x:Code} {F:Fr} {H:za} {r:Res},ih (.code N x F H)=some r→∃ e F1 H1,r= .code e F1 H1∧∀ H0,PW P ⟨N,H0⟩ x F H (fun e' F' H'=>e'=e∧F'=F1∧H'=H1):=fun {x F H r} hx=>by
   have:=hih _ _ hx
   cases r with
   | code e F1 H1=>exact ⟨e,F1,H1,rfl,this⟩
   | val v H1=>exact this.elim
  cases c with
  | skip=>simp only [zbA,Option.some.injEq] at h;subst h;exact fun H0=>PW.skip ⟨rfl,rfl,rfl⟩
  | exit id=>simp only [zbA,Option.some.injEq] at h;subst h;exact fun H0=>PW.exit ⟨rfl,rfl,rfl⟩
  | label l=>simp only [zbA,Option.some.injEq] at h;subst h;exact fun H0=>PW.label ⟨rfl,rfl,rfl⟩
  | ret=>simp only [zbA,Option.some.injEq] at h;subst h;exact fun H0=>PW.ret ⟨rfl,rfl,rfl⟩
  | scope x=>
   simp only [zbA] at h
   cases hx:ih (.code N x F H) with
   | none=>rw [hx] at h;cases h
   | some r1=>
    obtain ⟨e,F1,H1,rfl,hp⟩:=sub hx
    rw [hx] at h
    cases e with
    | goto l=>cases h
    | _=>
     injection h with h
     subst h
     intro H0
     refine PW.scope ((hp H0).mono ?_)
     rintro e' F' H' ⟨rfl,rfl,rfl⟩
     exact ⟨rfl,rfl,rfl⟩
  | region id ops d=>
   simp only [zbA] at h
   split at h
   ·rename_i hc
    simp only [Bool.and_eq_true,Bool.or_eq_true,Bool.not_eq_true'] at hc
    have:=hih _ _ h
    cases d with
    | false=>
     cases r with
     | val v H1=>exact this.elim
     | code e F1 H1=>
      cases e with
      | normal=>
       intro H0
       refine PW.rg hc.1 fun K hK=>zf7 (fun F' H' hq=>hK _ _ ?_) this
       exact ⟨rfl,hq⟩
      | _=>exact this.elim
    | true=>
     rcases hc.2 with h2|h2
     ·cases h2
     ·cases r with
      | val v H1=>exact this.elim
      | code e F1 H1=>
       cases e with
       | normal=>
        intro H0
        refine PW.draw h2.1 h2.2 fun K hK=>zeJ (fun F' H' hq=>hK _ _ ?_) this
        exact ⟨rfl,hq⟩
       | _=>exact this.elim
   ·cases h
  | seq x y=>
   simp only [zbA] at h
   cases hx:ih (.code N x F H) with
   | none=>rw [hx] at h;cases h
   | some rx=>
    obtain ⟨e,F1,H1,rfl,hp⟩:=sub hx
    rw [hx] at h
    cases e with
    | normal=>
     obtain ⟨e2,F2,H2,rfl,hp2⟩:=sub h
     intro H0
     exact PW.seq ((hp H0).mono fun e' F' H' hq=>by obtain ⟨rfl,rfl,rfl⟩:=hq;exact hp2 H0)
    | _=>
     simp only [Option.some.injEq] at h
     subst h
     intro H0
     exact PW.seq ((hp H0).mono fun e' F' H' hq=>by obtain ⟨rfl,rfl,rfl⟩:=hq;exact ⟨rfl,rfl,rfl⟩)
  | cond c x y=>
   simp only [zbA] at h
   split at h
   ·rename_i hc
    obtain ⟨e2,F2,H2,rfl,hp2⟩:=sub h
    exact fun H0=>PW.cond hc (fun _=>hp2 H0) (fun e=>by cases e)
   ·rename_i hc
    obtain ⟨e2,F2,H2,rfl,hp2⟩:=sub h
    exact fun H0=>PW.cond hc (fun e=>by cases e) (fun _=>hp2 H0)
   ·cases h
  | block id x=>
   simp only [zbA] at h
   cases hx:ih (.code N x F H) with
   | none=>rw [hx] at h;cases h
   | some rx=>
    obtain ⟨e,F1,H1,rfl,hp⟩:=sub hx
    rw [hx] at h
    cases e with
    | exit id'=>
     simp only at h
     split at h
     ·rename_i hb
      simp only [Option.some.injEq] at h
      subst h
      intro H0
      exact PW.block ((hp H0).mono fun e' F' H' hq=>by
       obtain ⟨rfl,rfl,rfl⟩:=hq
       simp only [zfn]
       rw [if_pos (Nat.eq_of_beq_eq_true hb)];simp)
     ·rename_i hb
      simp only [Option.some.injEq] at h
      subst h
      intro H0
      exact PW.block ((hp H0).mono fun e' F' H' hq=>by
       obtain ⟨rfl,rfl,rfl⟩:=hq
       simp only [zfn]
       rw [if_neg (by intro e;rw [e,Nat.beq_refl] at hb;cases hb)];simp)
    | _=>
     simp only [Option.some.injEq] at h
     subst h
     intro H0
     exact PW.block ((hp H0).mono fun e' F' H' hq=>by obtain ⟨rfl,rfl,rfl⟩:=hq;exact ⟨rfl,rfl,rfl⟩)
  | loop x=>
   simp only [zbA] at h
   have:=hih _ _ h
   cases r with
   | val v H1=>exact this.elim
   | code e F1 H1=>exact fun H0=>PW.loop (this H0)
  | _=>simp [zbA] at h
 | loop N x F H=>
  simp only [zbA] at h
  cases hx:ih (.code N x F H) with
  | none=>rw [hx] at h;cases h
  | some rx=>
   have h1:=hih _ _ hx
   cases rx with
   | val v H1=>exact h1.elim
   | code e F1 H1=>
    rw [hx] at h
    cases e with
    | normal=>
     have h2:=hih _ _ h
     cases r with
     | val v H1=>exact h2.elim
     | code e2 F2 H2=>
      intro H0
      refine PL.round ((h1 H0).mono fun e' F' H' hq=> ?_)
      obtain ⟨rfl,rfl,rfl⟩:=hq
      exact PL.keep (zin [] F') (h2 H0)
    | _=>
     simp only [Option.some.injEq] at h
     subst h
     intro H0
     exact PL.round ((h1 H0).mono fun e' F' H' hq=>by obtain ⟨rfl,rfl,rfl⟩:=hq;exact ⟨rfl,rfl,rfl⟩)
 | ops d ds l F H=>
  cases l with
  | nil=>simp only [zbA,Option.some.injEq] at h;subst h;cases d<;>exact ⟨rfl,rfl⟩
  | cons o l=>
   simp only [zbA] at h
   have rest:∀ {F1:Fr} {H1:za},ih (.ops d ds l F1 H1)=some r→∃ F2 H2,r= .code .normal F2 H2∧(d=false→VO P ds l (some (F1,H1)) (fun F' H'=>F'=F2∧H'=H2))∧(d=true→VOd P ds l (some (F1,H1)) (fun F' H'=>F'=F2∧H'=H2)):=fun {F1 H1} hx=>by
    have:=hih _ _ hx
    cases r with
    | val v H1=>cases d<;>exact this.elim
    | code e F2 H2=>
     cases e with
     | normal=>cases d<;>exact ⟨F2,H2,rfl,fun e=>(by first|exact this|cases e),fun e=>(by first|exact this|cases e)⟩
     | _=>cases d<;>exact this.elim
   split at h
   ·rename_i hc
    split at h
    ·rename_i F1 H1 hs
     obtain ⟨F2,H2,rfl,h1,h2⟩:=rest h
     cases d with
     | false=>show VO P ds (o::l) (some (F,H)) _;rw [zmF hc,hs];exact h1 rfl
     | true=>show VOd P ds (o::l) (some (F,H)) _;rw [zb9,hc];show VOd P ds l (stp P ds o F H) _;rw [hs];exact h2 rfl
    ·cases h
   ·rename_i hc
    split at h
    ·rename_i ha
     split at h
     ·rename_i g args hp
      split at h
      ·rename_i hpc
       simp only [Bool.and_eq_true] at hpc
       obtain ⟨rfl,hpc⟩:=hpc
       split at h
       ·rename_i v hcall
        have hk:CallOk P g [] [] v []:=hih _ _ hcall
        have hall:∀ K,CallOk P g [] K v K:=fun K=>hk.frame (fun x hx=>by cases hx)
        obtain ⟨F2,H2,rfl,h1,h2⟩:=rest h
        show VOd P ds (o::l) (some (F,H)) _
        rw [zb9,hc]
        exact VCd.call (hall H) (fun _=>hall) ha hp (h2 rfl)
       ·cases h
      rename_i hpc
      split at h
      ·rename_i v H1 hcall
       split at h
       ·rename_i hd
        have hk:=hih _ _ hcall
        obtain ⟨F2,H2,rfl,h1,h2⟩:=rest h
        cases d with
        | false=>
         show VO P ds (o::l) (some (F,H)) _
         rw [zeK hc]
         exact VC.call hk ha hp (h1 rfl)
        | true=>
         have he:H1=H:=zhL (by simpa using hd)
         subst he
         show VOd P ds (o::l) (some (F,H1)) _
         rw [zb9,hc]
         exact VCd.call hk (fun e=>by rw [e] at hpc;cases hpc) ha hp (h2 rfl)
       ·cases h
      ·cases h
     ·cases h
    ·rename_i ha
     obtain ⟨F2,H2,rfl,h1,h2⟩:=rest h
     cases d with
     | false=>
      show VO P ds (o::l) (some (F,H)) _
      rw [zeK hc]
      unfold VC
      rw [ha]
      exact h1 rfl
     | true=>
      show VOd P ds (o::l) (some (F,H)) _
      rw [zb9,hc]
      simp only [VCd,ha]
      exact h2 rfl
    ·cases h
 | call f args H=>
  simp only [zbA] at h
  split at h
  ·rename_i fn hf
   split at h
   ·rename_i c hb
    split at h
    ·rename_i hq
     simp only [Bool.and_eq_true] at hq
     split at h
     ·rename_i e F1 H1 hcode
      have hg:=hih _ _ hcode
      split at h
      ·rename_i he
       split at h
       ·rename_i v hres
        have fin:∀ v1 H2,Fin H v1 H2 v H1→CallOk P f args H v1 H2:=fun v1 H2 hfin=>by
         refine CallOk.body hf hb rfl rfl rfl hq.1 hq.2 ((hg H).mono fun e' F' H' hq=> ?_)
         obtain ⟨rfl,rfl,rfl⟩:=hq
         cases e' with
         | ret=>exact ⟨v,hres,hfin⟩
         | normal=>exact ⟨v,hres,hfin⟩
         | _=>cases he
        split at h
        ·rename_i hH
         split at h
         ·rename_i v1 hz
          simp only [Option.some.injEq] at h
          subst h
          refine fin v1 H (.inr (.inl ⟨H1.drop H.length,20,?_,rfl,hz⟩))
          have:=zhL hH
          conv=>lhs;rw [←List.take_append_drop H.length H1,this]
         ·simp only [Option.some.injEq] at h
          subst h
          exact fin v H1 (.inl ⟨rfl,rfl⟩)
        ·simp only [Option.some.injEq] at h
         subst h
         exact fin v H1 (.inl ⟨rfl,rfl⟩)
       ·cases h
      ·cases h
     ·cases h
    ·cases h
   ·cases h
  ·cases h
theorem zd0:∀ (n:Nat) (t:Task) (r:Res),zg0 P n t=some r→zvl P t r
 | 0,t,r,h=>by cases h
 | n+1,t,r,h=>zkt (zd0 n) t r h
theorem CallOk.eval (n:Nat) {f:FuncId} {args:List PV} {v:PV} (h:zg0 P n (.call f args [])=some (.val v [])) (hs:∀ x∈args,Scoped 0 x):CallOk P f args H v H:=(zd0 n _ _ h).frame hs
def zpQ:Option Res→Bool
 | some (.val (.bool true) [])=>true
 | _=>false
theorem CallOk.evalT (n:Nat) {f:FuncId} (h:zpQ (zg0 P n (.call f [] []))=true):CallOk P f [] H (.bool true) H:=by
 refine CallOk.eval n ?_ (fun x hx=>by cases hx)
 unfold zpQ at h
 split at h
 ·rename_i he;exact he
 ·cases h
end Go.Proofs.YtjgmdlcjbgiekaaGreatDoor.Pm
namespace Go.Proofs.YtjgmdlcjbgiekaaGreatDoor.Pm
set_option linter.all false
open Go.RowKit
variable {P:Program} {C:Ctx} {H:za} {w:World} {F:Fr} {a:Act} {N:Nat}
def RunG (E:Oper→(Nat→PV)→za→PV→za→Prop):List Oper→(Nat→PV)→za→((Nat→PV)→za→Prop)→Prop
 | [],f,H,K=>K f H
 | o::r,f,H,K=>∃ v H',E o f H v H'∧RunG E r (upd f o.dst v) H' K
def zkj (E:Oper→(Nat→PV)→za→PV→za→Prop) (cmp:Oper→Oper→Bool):Prop:=
 ∀ (x o:Oper) (f:Nat→PV) (H:za) (vx:PV) (Hx:za) (v:PV) (H1:za),cmp x o=true→E x f H vx Hx→E o (upd f x.dst vx) Hx v H1→∃ H3,E o f H v H3∧E x (upd f o.dst v) H3 vx H1∧upd (upd f x.dst vx) o.dst v=upd (upd f o.dst v) x.dst vx
def zmG (P:Program) (N:Nat) (ops:Array Oper) (E:Oper→(Nat→PV)→za→PV→za→Prop):Prop:=
 ∀ (o:Oper) (f:Nat→PV) (H:za) (v:PV) (H':za) (C:Ctx) (a:Act) (w:World),zQ N o=true→WRel C H w→FRel C N f a→E o f H v H'→
  (Region.wanted o (yielded ops a.tmps)=false∧v= .tup []∧H'=H)∨
  (Region.wanted o (yielded ops a.tmps)=true∧∀ (next:Act→World→Prop) (Q:Exit→Act→World→Prop),(∀ C' u w',CLe C C'→WRel C' H' w'→Below C.B w w'→FRel C' N (upd f o.dst v) (a.put o.dst u)→next (a.put o.dst u) w')→o.wp P a w next Q)
theorem RunG.front {E:Oper→(Nat→PV)→za→PV→za→Prop} {cmp:Oper→Oper→Bool} {K:(Nat→PV)→za→Prop} {o:Oper} {l2:List Oper} (hs:zkj E cmp):∀ (l1:List Oper) (f:Nat→PV) (H:za),RunG E (l1++o::l2) f H K→(∀ x∈l1,cmp x o=true)→
  ∃ v H1,E o f H v H1∧RunG E (l1++l2) (upd f o.dst v) H1 K
 | [],f,H,h,_=>h
 | x::l1,f,H,h,hc=>by
  obtain ⟨vx,Hx,hx,hr⟩:=h
  obtain ⟨v,H1,ho,hr2⟩:=RunG.front hs l1 _ _ hr (fun y hy=>hc y (List.mem_cons_of_mem _ hy))
  obtain ⟨H3,g1,g2,g3⟩:=hs x o f H vx Hx v H1 (hc x (List.mem_cons_self ..)) hx ho
  exact ⟨v,H3,g1,vx,H1,g2,g3▸hr2⟩
def zfx (cmp:Oper→Oper→Bool) (ms:List Nat) (N:Nat) (ops:List Oper) (i:Nat):Bool:=match ops[i]? with
 | none=>false
 | some o=>zQ N o&&(bnd o).all (fun j=>Nat.blt j i)&&(Nat.beq (ms.getD i 0) (zb4 ms o))&&(List.range i).all fun j=>(ms.getD i 0).testBit j||(match ops[j]? with|some x=>cmp x o|none=>false)
def zff (cmp:Oper→Oper→Bool) (N:Nat) (ops:List Oper):Bool:=(List.range ops.length).all (zfx cmp (zeq ops) N ops)
theorem zg2 {cmp:Oper→Oper→Bool} {ms:List Nat} {ops:List Oper} {i:Nat} {o:Oper} (ho:ops[i]? =some o) (h:zfx cmp ms N ops i=true):
  zQ N o=true∧(∀ j∈bnd o,j<i)∧ms.getD i 0=zb4 ms o∧∀ j,j<i→(ms.getD i 0).testBit j=true∨∃ x,ops[j]? =some x∧cmp x o=true:=by
 unfold zfx at h
 simp only [ho,Bool.and_eq_true,List.all_eq_true,List.mem_range,Bool.or_eq_true] at h
 obtain ⟨⟨⟨h1,h2⟩,h3⟩,h4⟩:=h
 refine ⟨h1,fun j hj=>by simpa [Nat.blt_eq] using h2 j hj,Nat.eq_of_beq_eq_true h3,fun j hj=> ?_⟩
 rcases h4 j hj with h|h
 ·exact .inl h
 ·split at h
  ·rename_i x hx;exact .inr ⟨x,hx,h⟩
  ·cases h
theorem zpB {cmp:Oper→Oper→Bool} {ms:List Nat} {ops:List Oper} (hall:∀ i,i<ops.length→zfx cmp ms N ops i=true) {S:Nat→Prop} (down:∀ i o,ops[i]? =some o→S i→∀ j∈bnd o,S j):
  ∀ (i:Nat) (o:Oper),ops[i]? =some o→(∀ j∈bnd o,S j)→∀ j,(ms.getD i 0).testBit j=true→S j:=by
 intro i
 induction i using Nat.strongRecOn with
 | _ i ih=>
  intro o ho hp j hj
  have hi:=(List.getElem?_eq_some_iff.1 ho).1
  obtain ⟨_,h2,h3,_⟩:=zg2 ho (hall i hi)
  rw [h3,zb4] at hj
  rcases zfb ms j _ _ hj with h|⟨k,hk,h⟩
  ·simp at h
  ·rcases h with h|rfl
   ·have hki:=h2 k hk
    have hkl:k<ops.length:=by omega
    exact ih k hki ops[k] (List.getElem?_eq_getElem hkl) (down k _ (List.getElem?_eq_getElem hkl) (hp k hk)) j h
   ·exact hp k hk
theorem ziW {cmp:Oper→Oper→Bool} {E:Oper→(Nat→PV)→za→PV→za→Prop} {ops:Array Oper} {Q:Exit→Act→World→Prop} {K:(Nat→PV)→za→Prop} (hall:∀ i,i<ops.toList.length→zfx cmp (zeq ops.toList) N ops.toList i=true)
  (hswap:zkj E cmp) (hstep:zmG P N ops E):
  ∀ (fuel:Nat) (listed:Array Bool) (f:Nat→PV) (H:za) (C:Ctx) (a:Act) (w:World),listed.size=ops.size→(∀ i o,ops[i]? =some o→listed.getD i true=true→∀ j∈bnd o,listed.getD j true=true)→
   fuel=(left ops.size listed).length→RunG E ((left ops.size listed).filterMap fun i=>ops[i]?) f H K→a.defers=[]→WRel C H w→FRel C N f a→
   (∀ C' f' H' a' w',CLe C C'→a'.defers=[]→WRel C' H' w'→Below C.B w w'→FRel C' N f' a'→K f' H'→Q .normal a' w')→wpAny P .any ops Q fuel listed a w:=by
 have rdy:∀ (listed:Array Bool) (i:Nat),i∈Region.ready .any ops listed↔i∈left ops.size listed∧∃ o,ops[i]? =some o∧∀ e∈o.after.toList,Region.binds .any e=true→listed.getD e.on false=true:=by
  intro listed i
  unfold Region.ready
  rw [List.mem_filter,zaX,List.mem_range]
  constructor
  ·rintro ⟨h1,h2⟩
   simp only [Bool.and_eq_true,Bool.not_eq_true'] at h2
   refine ⟨⟨h1,h2.1⟩,ops[i],Array.getElem?_eq_getElem h1,fun e he hb=> ?_⟩
   have h3:=h2.2
   rw [Array.getElem?_eq_getElem h1] at h3
   simp only [Option.map_some,Option.getD_some,Array.all_eq_true_iff_forall_mem] at h3
   have:=h3 e (Array.mem_toList_iff.1 he)
   simpa [hb] using this
  ·rintro ⟨⟨h1,h2⟩,o,ho,h3⟩
   refine ⟨h1,?_⟩
   simp only [h2,Bool.not_false,Bool.true_and,ho,Option.map_some,Option.getD_some,Array.all_eq_true_iff_forall_mem]
   intro e he
   cases hb:Region.binds .any e with
   | false=>rfl
   | true=>simp [h3 e (Array.mem_toList_iff.2 he) hb]
 intro fuel
 induction fuel with
 | zero=>
  intro listed f H C a w hsz hdown hfu hr hd hw hf hQ
  have hnil:left ops.size listed=[]:=List.eq_nil_of_length_eq_zero hfu.symm
  refine ⟨List.eq_nil_iff_forall_not_mem.2 fun i hi=> ?_,?_⟩
  ·have:=((rdy listed i).1 hi).1
   rw [hnil] at this
   simp at this
  ·rw [hnil] at hr
   exact hQ C f H a w (.refl _) hd hw (.refl _ _) hf hr
 | succ fuel ih=>
  intro listed f H C a w hsz hdown hfu hr hd hw hf hQ
  refine ⟨fun hnone=> ?_,fun i hi=> ?_⟩
  ·exfalso
   obtain ⟨i,r,hl⟩:=List.exists_cons_of_length_eq_add_one hfu.symm
   have hmem:i∈left ops.size listed:=by rw [hl];exact List.mem_cons_self ..
   have hil:=(zaX.1 hmem).1
   have hs:=zbF ops.size listed
   rw [hl,List.pairwise_cons] at hs
   have:i∈Region.ready .any ops listed:=by
    refine (rdy listed i).2 ⟨hmem,ops[i],Array.getElem?_eq_getElem hil,fun e he hb=> ?_⟩
    have hlt:=(zg2 (by simpa using Array.getElem?_eq_getElem hil) (hall i (by simpa using hil))).2.1 e.on (List.mem_map.2 ⟨e,List.mem_filter.2 ⟨he,hb⟩,rfl⟩)
    have hnm:e.on∉left ops.size listed:=by
     rw [hl]
     intro hm
     rcases List.mem_cons.1 hm with h|h
     ·omega
     ·have:=hs.1 _ h;omega
    have h1:listed.getD e.on true=true:=by
     cases hg:listed.getD e.on true with
     | true=>rfl
     | false=>exact absurd (zaX.2 ⟨by omega,hg⟩) hnm
    have h2:e.on<listed.size:=by omega
    rw [Array.getD_eq_getD_getElem?,Array.getElem?_eq_getElem h2] at h1 ⊢
    exact h1
   rw [hnone] at this
   simp at this
  ·obtain ⟨hmem,o,ho,hpre⟩:=(rdy listed i).1 hi
   have hil:=(zaX.1 hmem).1
   have hoL:ops.toList[i]? =some o:=by simpa using ho
   obtain ⟨d1,d2,d3,d4⟩:=zg2 hoL (hall i (by simpa using hil))
   obtain ⟨l1,l2,hl⟩:=List.append_of_mem hmem
   have hs:=zbF ops.size listed
   rw [hl,List.pairwise_append,List.pairwise_cons] at hs
   have hsz':i<listed.size:=by omega
   have getFT:∀ j,listed.getD j false=true→listed.getD j true=true:=fun j hj=>by
    rw [Array.getD_eq_getD_getElem?] at hj ⊢
    cases hg:listed[j]? with
    | none=>rw [hg] at hj;simp at hj
    | some b=>rw [hg] at hj;simpa using hj
   have hpre':∀ j∈bnd o,listed.getD j true=true:=fun j hj=>by
    obtain ⟨e,he,rfl⟩:=List.mem_map.1 hj
    obtain ⟨he1,he2⟩:=List.mem_filter.1 he
    exact getFT _ (hpre e he1 he2)
   rw [hl,List.filterMap_append,List.filterMap_cons_some ho] at hr
   have hcomp:∀ x∈l1.filterMap (fun i=>ops[i]?),cmp x o=true:=by
    intro x hx
    obtain ⟨j,hj,hjx⟩:=List.mem_filterMap.1 hx
    have hji:j<i:=hs.2.2 j hj i (List.mem_cons_self ..)
    rcases d4 j hji with h|⟨x',hx',hc⟩
    ·have hS:=zpB (N:=N) hall (S:=fun j=>listed.getD j true=true) (fun i o ho hS=>hdown i o (by simpa using ho) hS) i o hoL hpre' j h
     have hjm:j∈left ops.size listed:=by rw [hl];exact List.mem_append.2 (.inl hj)
     rw [(zaX.1 hjm).2] at hS
     cases hS
    ·have:ops[j]? =some x':=by simpa using hx'
     simp only [this,Option.some.injEq] at hjx
     subst hjx
     exact hc
   obtain ⟨v,H1,hex,hrun⟩:=RunG.front hswap _ _ _ hr hcomp
   rw [←List.filterMap_append,←zer hsz' hl] at hrun
   have hdown':∀ i' o',ops[i']? =some o'→(listed.setIfInBounds i true).getD i' true=true→∀ j∈bnd o',(listed.setIfInBounds i true).getD j true=true:=by
    intro i' o' ho' h j hj
    rw [zgU _ _ _ hsz'] at h ⊢
    by_cases hi':i'=i
    ·subst hi'
     rw [ho] at ho'
     injection ho' with ho'
     subst ho'
     split
     ·rfl
     ·exact hpre' j hj
    ·rw [if_neg hi'] at h
     split
     ·rfl
     ·exact hdown i' o' ho' h j hj
   have hfu':fuel=(left ops.size (listed.setIfInBounds i true)).length:=by
    rw [zer hsz' hl]
    rw [hl] at hfu
    simp at hfu ⊢
    omega
   have next:∀ C' u w',CLe C C'→WRel C' H1 w'→Below C.B w w'→FRel C' N (upd f o.dst v) (a.put o.dst u)→wpAny P .any ops Q fuel (listed.setIfInBounds i true) (a.put o.dst u) w':=by
    intro C' u w' q1 q2 q3 q4
    refine ih _ _ _ C' _ w' (by simpa using hsz) hdown' hfu' hrun (by cases hod:o.dst<;>simp [Act.put,hd]) q2 q4 ?_
    intro C'' f'' H'' a'' w'' p1 p2 p3 p4 p5 p6
    exact hQ C'' f'' H'' a'' w'' (q1.trans p1) p2 p3 (q3.trans (by rw [←q1.B];exact p4)) p5 p6
   unfold wpOp
   rw [ho]
   simp only
   rcases hstep o f H v H1 C a w d1 hw hf hex with ⟨h1,h2,h3⟩|⟨h1,h2⟩
   ·rw [if_neg (by rw [h1];simp)]
    subst h2 h3
    exact next C _ w (.refl _) hw (.refl _ _) (hf.put o.dst (zai d1) VRel.undefV)
   ·rw [if_pos h1]
    left
    exact h2 _ _ next
def zJ:PV→List Nat
 | .ptr id _ _=>[id]
 | .msl id _ _ _ _ _=>[id]
 | .mp id _=>[id]
 | _=>[]
def zdM (op:Op) (f:Nat→PV):List Nat:=(op.operands.toList.map fun x=>zJ (ev f x)).flatten
theorem zhD {op:Op} {f:Nat→PV} {x:Operand} {id:Nat} (hx:x∈op.operands.toList) (hi:id∈zJ (ev f x)):id∈zdM op f:=List.mem_flatten.2 ⟨_,List.mem_map.2 ⟨x,hx,rfl⟩,hi⟩
def zaE:Op→Bool
 | .nilCheck .. | .fieldAddr .. | .indexAddr .. | .slice .. | .binOp .. =>true
 | .call { callee:=.builtin .len,.. }=>true
 | _=>false
variable {K:za}
def VEq (H K:za) (id:Nat):Prop:=(K[id]?).map Blk.ver=(H[id]?).map Blk.ver
theorem zco {id:Nat} (h:VEq H K id) (ver:Nat):zbc K id ver=zbc H id ver:=by
 unfold VEq at h
 unfold zbc
 cases h1:H[id]? <;>cases h2:K[id]? <;>rw [h1,h2] at h<;>simp at h
 simp [h]
theorem zt9 {x:PV} (h:∀ id∈zJ x,VEq H K id):zhi K x=zhi H x:=by
 cases x<;>simp only [zhi]
 rename_i id ver off
 rw [zco (h id (by simp [zJ]))]
theorem zuc {op:BinOp} {t:TypeId} {x y:PV} (hx:∀ id∈zJ x,VEq H K id) (hy:∀ id∈zJ y,VEq H K id):ze5 P K op t x y=ze5 P H op t x y:=by
 unfold ze5
 split<;>try rfl
 ·rename_i id ver off;rw [zco (hx id (by simp [zJ]))]
 ·rename_i id ver off;rw [zco (hy id (by simp [zJ]))]
theorem zm2 {op:BinOp} {t:TypeId} {x:PV} (hx:∀ id∈zJ x,VEq H K id):zbt P K op t x=zbt P H op t x:=by
 unfold zbt
 split<;>try rfl
 split<;>try rfl
 rename_i id ver off n sz g
 rw [zco (hx id (by simp [zJ]))]
theorem zoT {t:TypeId} {x:PV} {lo hi mx:Option PV} (hx:∀ id∈zJ x,VEq H K id):zcl P K t x lo hi mx=zcl P H t x lo hi mx:=by
 unfold zcl
 split<;>try rfl
 ·rename_i e id ver off len sz g hu;rw [zco (hx id (by simp [zJ]))]
 ·rename_i len e id ver off hu;rw [zco (hx id (by simp [zJ]))]
theorem zii {s:TypeId} {x:PV} {f:Nat} (hx:∀ id∈zJ x,VEq H K id):zal P K s x f=zal P H s x f:=by
 cases x<;>simp only [zal]
 rename_i id ver off
 simp only [zco (hx id (by simp [zJ]))]
theorem zif {t:TypeId} {x i:PV} (hx:∀ id∈zJ x,VEq H K id):zak P K t x i=zak P H t x i:=by
 unfold zak
 split<;>try rfl
 ·rename_i e id ver off len sz g k i hu;rw [zco (hx id (by simp [zJ]))]
 ·rename_i len e id ver off k i hu;rw [zco (hx id (by simp [zJ]))]
theorem zua {t:TypeId} {x:PV} (hx:∀ id∈zJ x,VEq H K id):ze1 P K t x=ze1 P H t x:=by
 unfold ze1
 split<;>try rfl
 rename_i e id ver off n sz g hu
 rw [zco (hx id (by simp [zJ]))]
theorem zgq {sz:Nat} {x:PV} (hx:∀ id∈zJ x,K[id]? =H[id]?):zaK K sz x=zaK H sz x:=by
 cases x<;>simp only [zaK]
 rename_i id ver off len s g
 rw [hx id (by simp [zJ])]
theorem zrF {t:TypeId} {x:PV} (hx:∀ id∈zJ x,K[id]? =H[id]?):zc4 P K t x=zc4 P H t x:=by
 cases x<;>simp only [zc4]
 rename_i id ver off
 rw [hx id (by simp [zJ])]
theorem zrI {s d:TypeId} {x:PV} (hx:∀ id∈zJ x,K[id]? =H[id]?):zdL P K s d x=zdL P H s d x:=by
 unfold zdL
 split<;>try rfl
 rw [zgq hx]
theorem zrE {t:TypeId} {m k:PV} {ok:Bool} (hx:∀ id∈zJ m,K[id]? =H[id]?):zc3 P K t m k ok=zc3 P H t m k ok:=by
 have:zar P K t m=zar P H t m:=by
  unfold zar
  split<;>try rfl
  rename_i kt e id ver hu
  rw [hx id (by simp [zJ])]
 unfold zc3
 rw [this]
theorem zfa {x:Option PV} {v:PV} {H':za} (h:(x.map fun v=>(v,H))=some (v,H')):(x.map fun v=>(v,K))=some (v,K):=by
 simp only [Option.map_eq_some_iff,Prod.mk.injEq] at h ⊢
 obtain ⟨u,h1,h2,_⟩:=h
 exact ⟨u,h1,h2,trivial⟩
theorem zgz {f:Nat→PV} {op:Op} {v:PV} {H':za} (h:zaE op=true) (hi:∀ id∈zdM op f,VEq H K id) (hp:pop P op f H=some (v,H')):pop P op f K=some (v,K):=by
 have ids:∀ x∈op.operands.toList,∀ id∈zJ (ev f x),VEq H K id:=fun x hx id hid=>hi id (zhD hx hid)
 cases op<;>try (simp [zaE] at h;done)
 case nilCheck x=>simp only [pop] at hp ⊢;rw [zt9 (ids x (by simp [Op.operands]))];exact zfa hp
 case fieldAddr s x k=>simp only [pop] at hp ⊢;rw [zii (ids x (by simp [Op.operands]))];exact zfa hp
 case indexAddr t x i=>simp only [pop] at hp ⊢;rw [zif (ids x (by simp [Op.operands]))];exact zfa hp
 case slice t x lo hi mx=>simp only [pop] at hp ⊢;rw [zoT (ids x (by simp [Op.operands]))];exact zfa hp
 case binOp op t x y z=>
  simp only [pop] at hp ⊢
  split at hp
  ·rw [zm2 (ids x (by simp [Op.operands]))];exact zfa hp
  split at hp
  ·exact zfa hp
  ·rw [zuc (ids x (by simp [Op.operands])) (ids y (by simp [Op.operands]))];exact zfa hp
 case call c=>
  obtain ⟨callee,args,ts⟩:=c
  cases callee with
  | builtin b=>
   cases b<;>try (simp [zaE] at h;done)
   have key:∀ (tl:List TypeId) (al:List PV),(∀ x∈al,∀ id∈zJ x,VEq H K id)→zy P H .len tl al=some (v,H')→zy P K .len tl al=some (v,K):=fun tl al hal hq=>by
    match tl,al,hq with
    | [t],[x],hq=>
     simp only [zy] at hq ⊢
     rw [zua (hal x (by simp))];exact zfa hq
    | [],_,hq=>simp [zy] at hq
    | _::_::_,_,hq=>simp [zy] at hq
    | [_],[],hq=>simp [zy] at hq
    | [_],_::_::_,hq=>simp [zy] at hq
   simp only [pop] at hp ⊢
   refine key _ _ (fun x hx id hid=> ?_) hp
   obtain ⟨y,hy,rfl⟩:=List.mem_map.1 hx
   exact ids y (by simp [Op.operands,Call.operands];exact Array.mem_toList_iff.1 hy) id hid
  | _=>simp [zaE] at h
theorem zjw {f:Nat→PV} {op:Op} {v:PV} {H':za} (h:eff op=false) (hi:∀ id∈zdM op f,K[id]? =H[id]?) (hp:pop P op f H=some (v,H')):pop P op f K=some (v,K):=by
 have ids:∀ x∈op.operands.toList,∀ id∈zJ (ev f x),K[id]? =H[id]? :=fun x hx id hid=>hi id (zhD hx hid)
 cases hl:zaE op with
 | true=>exact zgz hl (fun id hid=>by unfold VEq;rw [hi id hid]) hp
 | false=>
 cases hpu:zaf op with
 | true=>exact (zag hpu hp K).2
 | false=>
 cases op<;>try (simp [eff] at h;done)
 all_goals try (simp [zaE] at hl;done)
 all_goals try (simp [zaf] at hpu;done)
 case load t x=>simp only [pop] at hp ⊢;rw [zrF (ids x (by simp [Op.operands]))];exact zfa hp
 case convert s d x=>simp only [pop] at hp ⊢;rw [zrI (ids x (by simp [Op.operands]))];exact zfa hp
 case lookup t m k ok=>simp only [pop] at hp ⊢;rw [zrE (ids m (by simp [Op.operands]))];exact zfa hp
 case makeFunc fn x y=>cases fn<;>simp only [pop,Option.some.injEq,Prod.mk.injEq] at hp ⊢<;>first|exact ⟨hp.1,trivial⟩|cases hp
 case call c=>
  obtain ⟨callee,args,ts⟩:=c
  cases callee with
  | builtin b=>
   simp only [eff] at h
   simp only [pop] at hp ⊢
   unfold zy at hp ⊢
   split at hp
   ·simp [zaE] at hl
   ·simp [zld] at h
   ·simp [zld] at h
   ·exact zfa hp
   ·exact zfa hp
   ·cases hp
  | _=>simp only [pop] at hp;cases hp
 all_goals (simp only [pop] at hp;cases hp)
structure Ag (ws rs:List Nat) (H K:za):Prop where
 len:K.length=H.length
 all:∀ i,i∉ws→K[i]? =H[i]?
 ver:∀ i,i∉rs→VEq H K i
theorem Ag.refl (ws rs:List Nat) (H:za):Ag ws rs H H:=⟨rfl,fun _ _=>rfl,fun _ _=>rfl⟩
theorem Ag.symm {ws rs:List Nat} {H K:za} (h:Ag ws rs H K):Ag ws rs K H:=⟨h.len.symm,fun i hi=>(h.all i hi).symm,fun i hi=>(h.ver i hi).symm⟩
theorem Ag.trans {ws rs:List Nat} {H K L:za} (h:Ag ws rs H K) (k:Ag ws rs K L):Ag ws rs H L:=⟨k.len.trans h.len,fun i hi=>(k.all i hi).trans (h.all i hi),fun i hi=>Eq.trans (k.ver i hi) (h.ver i hi)⟩
theorem Ag.set {ws rs:List Nat} {H:za} {id:Nat} {k b:Blk} (hk:H[id]? =some k) (hw:id∈ws) (hv:b.ver=k.ver∨id∈rs):Ag ws rs H (H.set id b):=by
 have hid:id<H.length:=(List.getElem?_eq_some_iff.1 hk).1
 refine ⟨by simp,fun i hi=> ?_,fun i hi=> ?_⟩
 ·rw [List.getElem?_set_ne (show id≠i from fun e=>hi (by rw [←e];exact hw))]
 ·unfold VEq
  by_cases e:id=i
  ·subst e
   rcases hv with hv|hv
   ·rw [List.getElem?_set_self hid,hk];simp [hv]
   ·exact absurd hv hi
  ·rw [List.getElem?_set_ne e]
def rsv (rs:List (Nat×Nat)) (d:Option Nat):Option Nat:=match d with
 | none=>none
 | some d=>match rs with
  | []=>none
  | (t,r)::l=>match Nat.beq t d with|true=>some r|false=>rsv l (some d)
def zdY (P:Program) (elem:TypeId) (r:Nat) (H:za):Option (PV×za):=match zj P elem,H[r]? with
 | some z,some k=>if k.e=elem∧k.ver=0 then some (.ptr r 1 0,H.set r ⟨elem,1,z⟩) else none
 | _,_=>none
def zcO (rs:List (Nat×Nat)) (o:Oper):Option (TypeId×Nat):=match o.op with
 | .alloc elem=>match rsv rs o.dst with|some r=>some (elem,r)|none=>none
 | _=>none
def zdW (P:Program) (rs:List (Nat×Nat)) (o:Oper) (f:Nat→PV) (H:za):Option (PV×za):=match zcO rs o with
 | some (elem,r)=>zdY P elem r H
 | none=>pop P o.op f H
def zbw:Op→Bool
 | .store .. =>true
 | _=>false
def zmQ (op:Op) (f:Nat→PV):Option Nat:=match op with
 | .store _ x _=>match ev f x with
  | .ptr id _ _=>some id
  | _=>none
 | _=>none
def zlY (ids ws:List Nat):Bool:=ids.all fun i=> !(ws.elem i)
def zj9 (ws:List Nat) (rs:List (Nat×Nat)) (o:Oper) (f:Nat→PV):Bool:=match zcO rs o with
 | some (_,r)=>ws.elem r&&(rs.map (·.2)).elem r
 | none=>match zbw o.op with
  | true=>match zmQ o.op f with|some id=>ws.elem id|none=>false
  | false=>match zaf o.op||eff o.op with
   | true=>true
   | false=>match zaE o.op with
    | true=>zlY (zdM o.op f) (rs.map (·.2))
    | false=>zlY (zdM o.op f) ws
def ExH (P:Program) (all:List Oper) (ws:List Nat) (rs:List (Nat×Nat)) (o:Oper) (f:Nat→PV) (H:za) (v:PV) (H':za):Prop:=
 (za7 all f o=some false∧v= .tup []∧H'=H)∨
 (za7 all f o=some true∧match zo o.op f with
  | some (fn,args)=>H'=H∧∀ K,Ag ws (rs.map (·.2)) H K→CallOk P fn args K v K
  | none=>zdW P rs o f H=some (v,H')∧zj9 ws rs o f=true)
def zpO (rs:List (Nat×Nat)) (o:Oper):Bool:=zbw o.op||(zcO rs o).isSome
def zk1 (rs:List (Nat×Nat)) (o:Oper):Bool:= !eff o.op&& !(zcO rs o).isSome
def zvw (rs:List (Nat×Nat)) (x y:Oper):Bool:=match zcO rs x,zcO rs y with
 | some _,some _=> !(x.dst==y.dst)
 | _,_=>false
theorem zh3:∀ {rs:List (Nat×Nat)} {d r:Nat},rsv rs (some d)=some r→r∈rs.map (·.2)
 | (t,q)::l,d,r,h=>by
  simp only [rsv] at h
  split at h
  ·injection h with h;subst h;simp
  ·exact List.mem_cons_of_mem _ (zh3 h)
theorem zlG:∀ {rs:List (Nat×Nat)} {d e r q:Nat},(rs.map (·.2)).Nodup→rsv rs (some d)=some r→rsv rs (some e)=some q→d≠e→r≠q
 | (t,p)::l,d,e,r,q,hn,h1,h2,hne=>by
  simp only [List.map_cons,List.nodup_cons] at hn
  simp only [rsv] at h1 h2
  split at h1
  ·rename_i b1
   injection h1 with h1
   subst h1
   split at h2
   ·rename_i b2
    exact absurd ((Nat.eq_of_beq_eq_true b1).symm.trans (Nat.eq_of_beq_eq_true b2)) hne
   ·intro e1;subst e1;exact hn.1 (zh3 h2)
  ·split at h2
   ·injection h2 with h2
    subst h2
    intro e1;subst e1;exact hn.1 (zh3 h1)
   ·exact zlG hn.2 h1 h2 hne
theorem zjq {rs:List (Nat×Nat)} {o:Oper} {el:TypeId} {r:Nat} (h:zcO rs o=some (el,r)):∃ d,o.dst=some d∧rsv rs (some d)=some r:=by
 unfold zcO at h
 split at h
 ·split at h
  ·rename_i q hq
   simp only [Option.some.injEq,Prod.mk.injEq] at h
   obtain ⟨_,rfl⟩:=h
   cases hd:o.dst with
   | none=>rw [hd] at hq;simp [rsv] at hq
   | some d=>rw [hd] at hq;exact ⟨d,rfl,hq⟩
  ·cases h
 ·cases h
def zfZ (ds:List (Option Nat)) (rs:List (Nat×Nat)) (x y:Oper):Bool:=clear ds x y&&clear ds y x&&((zk1 rs x&&zk1 rs y)||(zk1 rs x&&zpO rs y)||(zpO rs x&&zk1 rs y)||zaf x.op||zaf y.op||zvw rs x y)
theorem zdd {rs:List (Nat×Nat)} {o:Oper} {f:Nat→PV} {er:TypeId×Nat} (h:zcO rs o=some er):zo o.op f=none:=by
 unfold zcO at h
 split at h
 ·rename_i elem ho;rw [ho];rfl
 ·cases h
theorem zhY {op:Op} {f:Nat→PV} (h:zbw op=true):zo op f=none:=by
 cases op<;>first|(simp [zbw] at h;done)|rfl
theorem zkH {rs:List (Nat×Nat)} {o:Oper} {f g:Nat→PV} (h:∀ x∈o.op.operands.toList,ev f x=ev g x):zdW P rs o f H=zdW P rs o g H:=by
 unfold zdW
 split
 ·rfl
 ·exact ze0 h
theorem zlk {ws:List Nat} {rs:List (Nat×Nat)} {o:Oper} {f g:Nat→PV} (h:∀ x∈o.op.operands.toList,ev f x=ev g x):zj9 ws rs o f=zj9 ws rs o g:=by
 have e1:zdM o.op f=zdM o.op g:=by
  unfold zdM
  congr 1
  exact List.map_congr_left fun x hx=>by rw [h x hx]
 have e2:zmQ o.op f=zmQ o.op g:=by
  unfold zmQ
  split
  ·rename_i t x y ho
   rw [ho] at h
   rw [h x (by simp [Op.operands])]
  ·rfl
 unfold zj9
 rw [e1,e2]
theorem ExH.congr {all:List Oper} {ws:List Nat} {rs:List (Nat×Nat)} {o:Oper} {f g:Nat→PV} {v:PV} {H':za} (h:∀ t∈zhA (all.map (·.dst)) o,f t=g t) (he:ExH P all ws rs o f H v H'):ExH P all ws rs o g H v H':=by
 have e1:za7 all f o=za7 all g o:=zcK fun t ht=>h t (List.mem_append.2 (.inr ht))
 have e2:∀ x∈o.op.operands.toList,ev f x=ev g x:=fun x hx=>zeB fun t ht=>h t (List.mem_append.2 (.inl (zen (ht▸hx))))
 unfold ExH at he ⊢
 rw [←e1,←zbu e2,←zkH e2,←zlk e2]
 exact he
theorem zjN {ids ws:List Nat} (h:zlY ids ws=true):∀ i∈ids,i∉ws:=fun i hi hw=>by
 have:=List.all_eq_true.1 h i hi
 rw [List.elem_eq_mem] at this
 simp [hw] at this
theorem ExH.move {all:List Oper} {ws:List Nat} {rs:List (Nat×Nat)} {o:Oper} {f:Nat→PV} {v:PV} {H' K:za} (hr:zk1 rs o=true∨zaf o.op=true) (he:ExH P all ws rs o f H v H'):H'=H∧(Ag ws (rs.map (·.2)) H K→ExH P all ws rs o f K v K):=by
 have hres:zcO rs o=none:=by
  rcases hr with hr|hr
  ·simp only [zk1,Bool.and_eq_true,Bool.not_eq_true'] at hr
   cases h:zcO rs o with
   | none=>rfl
   | some r=>rw [h] at hr;simp at hr
  ·unfold zcO
   split
   ·rename_i elem ho;rw [ho] at hr;simp [zaf] at hr
   ·rfl
 rcases he with ⟨h1,h2,h3⟩|⟨h1,h2⟩
 ·exact ⟨h3,fun _=>.inl ⟨h1,h2,rfl⟩⟩
 ·split at h2
  ·rename_i fn args hc
   exact ⟨h2.1,fun ha=>.inr ⟨h1,by rw [hc];exact ⟨rfl,fun L hL=>h2.2 L (ha.trans hL)⟩⟩⟩
  ·rename_i hc
   obtain ⟨hp,hk⟩:=h2
   have hpp:pop P o.op f H=some (v,H'):=by unfold zdW at hp;rw [hres] at hp;exact hp
   have heff:eff o.op=false∨zaf o.op=true:=by
    rcases hr with hr|hr
    ·simp only [zk1,Bool.and_eq_true,Bool.not_eq_true'] at hr;exact .inl hr.1
    ·exact .inr hr
   have hH:H'=H:=by
    rcases heff with h|h
    ·exact zcx h hpp
    ·exact (zag h hpp H).1
   refine ⟨hH,fun ha=>.inr ⟨h1,?_⟩⟩
   rw [hc]
   refine ⟨?_,hk⟩
   unfold zdW
   rw [hres]
   cases hpu:zaf o.op with
   | true=>exact (zag hpu hpp K).2
   | false=>
    have he':eff o.op=false:=by rcases heff with h|h<;>simp_all
    have hst:zbw o.op=false:=by
     cases hs:zbw o.op with
     | false=>rfl
     | true=>cases ho:o.op<;>rw [ho] at hs he'<;>simp [zbw,eff] at hs he'
    unfold zj9 at hk
    rw [hres,hst,hpu,he'] at hk
    simp only [Bool.or_self] at hk
    cases hl:zaE o.op with
    | true=>
     rw [hl] at hk
     exact zgz hl (fun id hid=>ha.ver id (zjN hk id hid)) hpp
    | false=>
     rw [hl] at hk
     exact zjw he' (fun id hid=>ha.all id (zjN hk id hid)) hpp
theorem ExH.write {all:List Oper} {ws:List Nat} {rs:List (Nat×Nat)} {o:Oper} {f:Nat→PV} {v:PV} {H':za} (hr:zpO rs o=true) (he:ExH P all ws rs o f H v H'):Ag ws (rs.map (·.2)) H H':=by
 rcases he with ⟨_,_,h3⟩|⟨_,h2⟩
 ·rw [h3];exact .refl _ _ _
 ·have hc:zo o.op f=none:=by
   simp only [zpO,Bool.or_eq_true] at hr
   rcases hr with hr|hr
   ·exact zhY hr
   ·obtain ⟨er,her⟩:=Option.isSome_iff_exists.1 hr
    exact zdd her
  rw [hc] at h2
  obtain ⟨hp,hk⟩:=h2
  unfold zdW at hp
  unfold zj9 at hk
  cases hres:zcO rs o with
  | some er=>
   obtain ⟨elem,r⟩:=er
   rw [hres] at hp hk
   simp only [Bool.and_eq_true] at hk
   simp only [zdY] at hp
   split at hp
   ·rename_i z k hz hkk
    split at hp
    ·rename_i hq
     simp only [Option.some.injEq,Prod.mk.injEq] at hp
     rw [←hp.2]
     exact .set hkk (by have:=hk.1;rw [List.elem_eq_mem] at this;simpa using this) (.inr (by have:=hk.2;rw [List.elem_eq_mem] at this;simpa using this))
    ·cases hp
   ·cases hp
  | none=>
   rw [hres] at hp hk
   have hs:zbw o.op=true:=by
    simp only [zpO,hres,Bool.or_eq_true] at hr
    rcases hr with hr|hr
    ·exact hr
    ·simp at hr
   rw [hs] at hk
   simp only at hk hp
   cases ho:o.op<;>rw [ho] at hs hk hp<;>try (simp [zbw] at hs;done)
   rename_i t x y
   simp only [zmQ] at hk
   simp only [pop,Option.map_eq_some_iff,Prod.mk.injEq] at hp
   obtain ⟨H2,h1,_,rfl⟩:=hp
   unfold zcP at h1
   split at h1
   ·rename_i id ver off hx
    rw [hx] at hk
    simp only at hk
    split at h1
    ·rename_i k hkk
     split at h1
     ·simp only [Option.map_eq_some_iff] at h1
      obtain ⟨c,_,rfl⟩:=h1
      exact .set hkk (by rw [List.elem_eq_mem] at hk;simpa using hk) (.inl rfl)
     ·cases h1
    ·cases h1
   ·cases h1
theorem ExH.pureAny {all:List Oper} {ws:List Nat} {rs:List (Nat×Nat)} {o:Oper} {f:Nat→PV} {v:PV} {H':za} (hr:zaf o.op=true) (he:ExH P all ws rs o f H v H') (K:za):H'=H∧ExH P all ws rs o f K v K:=by
 have hres:zcO rs o=none:=by
  unfold zcO
  split
  ·rename_i elem ho;rw [ho] at hr;simp [zaf] at hr
  ·rfl
 rcases he with ⟨h1,h2,h3⟩|⟨h1,h2⟩
 ·exact ⟨h3,.inl ⟨h1,h2,rfl⟩⟩
 ·have hc:zo o.op f=none:=by
   unfold zo
   split
   ·rename_i ho;rw [ho] at hr;simp [zaf] at hr
   ·rfl
  rw [hc] at h2
  obtain ⟨hp,hk⟩:=h2
  unfold zdW at hp
  rw [hres] at hp
  obtain ⟨q1,q2⟩:=zag hr hp K
  exact ⟨q1,.inr ⟨h1,by rw [hc];exact ⟨by unfold zdW;rw [hres];exact q2,hk⟩⟩⟩
theorem zvP {all:List Oper} {ws:List Nat} {rs:List (Nat×Nat)} (hnd:(rs.map (·.2)).Nodup):zkj (ExH P all ws rs) (zfZ (all.map (·.dst)) rs):=by
 intro x o f H vx Hx v H1 hc hx ho
 unfold zfZ at hc
 simp only [Bool.and_eq_true,Bool.or_eq_true] at hc
 obtain ⟨⟨c1,c2⟩,c3⟩:=hc
 have ho':ExH P all ws rs o f Hx v H1:=ho.congr fun t ht=>za3 (zax c1 t ht)
 have hx':∀ K K',ExH P all ws rs x f K vx K'→ExH P all ws rs x (upd f o.dst v) K vx K':=fun K K' h=>h.congr fun t ht=>(za3 (zax c2 t ht)).symm
 have hcm:=zd7 (f:=f) (u:=vx) (v:=v) (zdG c1)
 rcases c3 with ((((⟨e1,e2⟩|⟨e1,e2⟩)|⟨e1,e2⟩)|e1)|e1)|e1
 ·obtain ⟨rfl,_⟩:=hx.move (K:=H) (.inl e1)
  obtain ⟨rfl,_⟩:=ho'.move (K:=H1) (.inl e2)
  exact ⟨_,ho',hx' _ _ hx,hcm⟩
 ·obtain ⟨rfl,hm⟩:=hx.move (K:=H1) (.inl e1)
  have ha:=ho'.write e2
  exact ⟨H1,ho',hx' _ _ (hm ha),hcm⟩
 ·have ha:=hx.write e1
  obtain ⟨rfl,hm⟩:=ho'.move (K:=H) (.inl e2)
  exact ⟨H,hm ha.symm,hx' _ _ hx,hcm⟩
 ·obtain ⟨rfl,hp⟩:=hx.pureAny e1 H1
  exact ⟨H1,ho',hx' _ _ hp,hcm⟩
 ·obtain ⟨rfl,hp⟩:=ho'.pureAny e1 H
  exact ⟨H,hp,hx' _ _ hx,hcm⟩
 ·unfold zvw at e1
  split at e1
  ·rename_i er1 er2 hra hrb
   obtain ⟨ea,ra⟩:=er1
   obtain ⟨eb,rb⟩:=er2
   have hne:ra≠rb:=by
    obtain ⟨d,hd,h1⟩:=zjq hra
    obtain ⟨d2,hd2,h2⟩:=zjq hrb
    refine zlG hnd h1 h2 (fun e=> ?_)
    rw [hd,hd2,e] at e1
    simp at e1
   have cx:=zdd (f:=f) hra
   have co:=zdd (f:=f) hrb
   rcases hx with ⟨x1,x2,x3⟩|⟨x1,x2⟩
   ·subst x3
    exact ⟨H1,ho',hx' _ _ (.inl ⟨x1,x2,rfl⟩),hcm⟩
   ·rw [cx] at x2
    obtain ⟨xp,xk⟩:=x2
    rcases ho' with ⟨o1,o2,o3⟩|⟨o1,o2⟩
    ·subst o3
     exact ⟨H,.inl ⟨o1,o2,rfl⟩,hx' _ _ (.inr ⟨x1,by rw [cx];exact ⟨xp,xk⟩⟩),hcm⟩
    ·rw [co] at o2
     obtain ⟨op,ok⟩:=o2
     unfold zdW at xp op
     rw [hra] at xp
     rw [hrb] at op
     simp only [zdY] at xp op
     split at xp
     ·rename_i z k hz hkk
      split at xp
      ·rename_i hq
       simp only [Option.some.injEq,Prod.mk.injEq] at xp
       obtain ⟨rfl,rfl⟩:=xp
       split at op
       ·rename_i z2 k2 hz2 hkk2
        split at op
        ·rename_i hq2
         simp only [Option.some.injEq,Prod.mk.injEq] at op
         obtain ⟨rfl,rfl⟩:=op
         rw [List.getElem?_set_ne hne] at hkk2
         refine ⟨H.set rb ⟨eb,1,z2⟩,.inr ⟨o1,?_⟩,hx' _ _ (.inr ⟨x1,?_⟩),hcm⟩
         ·rw [co];exact ⟨by unfold zdW;rw [hrb];simp only [zdY,hz2,hkk2];rw [if_pos hq2],ok⟩
         ·rw [cx]
          refine ⟨?_,xk⟩
          unfold zdW
          rw [hra]
          have:(H.set rb ⟨eb,1,z2⟩)[ra]? =some k:=by rw [List.getElem?_set_ne (fun e=>hne e.symm)];exact hkk
          simp only [zdY,hz,this]
          rw [if_pos hq,List.set_comm _ _ (fun e=>hne e.symm)]
        ·cases op
       ·cases op
      ·cases xp
     ·cases xp
  ·cases e1
theorem zvT {ops:Array Oper} {ws:List Nat} {rs:List (Nat×Nat)}:zmG P N ops (ExH P ops.toList ws rs):=by
 intro o f H v H' C a w hd hw hf he
 rcases he with ⟨h1,h2,h3⟩|⟨h1,h2⟩
 ·have hwant:=zL hf h1
  rw [Array.toArray_toList] at hwant
  exact .inl ⟨hwant,h2,h3⟩
 ·have hwant:=zL hf h1
  rw [Array.toArray_toList] at hwant
  refine .inr ⟨hwant,fun next Q hn=> ?_⟩
  split at h2
  ·rename_i fn args hc
   obtain ⟨rfl,h2⟩:=h2
   have:Exec P o f H' v H':=by unfold Exec;rw [hc];exact h2 H' (.refl _ _ _)
   exact zbr hd hw hf this _ _ hn
  ·rename_i hc
   obtain ⟨hp,hk⟩:=h2
   unfold zdW at hp
   cases hres:zcO rs o with
   | none=>
    rw [hres] at hp
    have:Exec P o f H v H':=by unfold Exec;rw [hc];exact hp
    exact zbr hd hw hf this _ _ hn
   | some er=>
    obtain ⟨elem,r⟩:=er
    rw [hres] at hp
    have ho:o.op= .alloc elem:=by
     unfold zcO at hres
     split at hres
     ·rename_i e ho
      split at hres
      ·simp only [Option.some.injEq,Prod.mk.injEq] at hres;rw [ho,hres.1]
      ·cases hres
     ·cases hres
    simp only [zdY] at hp
    split at hp
    ·rename_i z k hz hkk
     split at hp
     ·rename_i hq
      simp only [Option.some.injEq,Prod.mk.injEq] at hp
      obtain ⟨rfl,rfl⟩:=hp
      obtain ⟨i,zv,hi,hzv,hzr,hzl,hzc⟩:=zaa hz
      have hid:r<H.length:=(List.getElem?_eq_some_iff.1 hkk).1
      obtain ⟨c1,c2,c3⟩:=hw.move hkk 1 (by omega) z zv.cells hzc (by rw [←hzl];simp) (fun j x u hx hu=>hzr C j x u hx (by simpa using hu))
      rw [hq.1] at c2 c3
      have hrun:(execOp a.eval o).run P w= .ok (.value (.pointer (some ⟨w.heap.size,0,none⟩))) (w.alloc (.cells zv.cells elem)):=by
       simp [execOp,ho,Instr.alloc,newVar,newRow,zeroValue,typeInfo,hi,hzv]
      unfold Oper.wp
      rw [hrun,Oper.upon_value]
      have hl1:r<C.mu.length:=by rw [hw.len];exact hid
      have hl2:r<C.vs.length:=by rw [hw.lenv];exact hid
      exact hn _ _ _ c1 c2 c3 ((hf.mono c1).put _ (zai hd) (.ptr (by simp [hl1]) (by simp [hl2])))
     ·cases hp
    ·cases hp
def zq9 (P:Program) (ws:List Nat) (rs:List (Nat×Nat)) (ds:List (Option Nat)) (o:Oper) (F:Fr) (H:za):Option (Fr×za):=
 match zad ds F o with
 | none=>none
 | some b=>cond b (match zj9 ws rs o (slot F) with
  | true=>(match zdW P rs o (slot F) H with|some (v,H')=>some (put F o.dst v,H')|none=>none)
  | false=>none) (some (put F o.dst (.tup []),H))
def VCk (P:Program) (ws:List Nat) (rs:List (Nat×Nat)) (o:Oper) (F:Fr) (H:za) (K:Fr→za→Prop):Prop:=
 match zo o.op (slot F) with
 | some (g,args)=>∃ v,(∀ L,Ag ws (rs.map (·.2)) H L→CallOk P g args L v L)∧K (put F o.dst v) H
 | none=>False
def VCh (P:Program) (ws:List Nat) (rs:List (Nat×Nat)) (ds:List (Option Nat)) (o:Oper) (F:Fr) (H:za) (K:Fr→za→Prop):Prop:=
 match zad ds F o with
 | none=>False
 | some b=>(b=true→VCk P ws rs o F H K)∧(b=false→K (put F o.dst (.tup [])) H)
def VOh (P:Program) (ws:List Nat) (rs:List (Nat×Nat)) (ds:List (Option Nat)):List Oper→Option (Fr×za)→(Fr→za→Prop)→Prop
 | _,none,_=>False
 | [],some (F,H),K=>K F H
 | o::r,some (F,H),K=>match zE o.op with
  | false=>VOh P ws rs ds r (zq9 P ws rs ds o F H) K
  | true=>VCh P ws rs ds o F H fun F' H'=>VOh P ws rs ds r (some (F',H')) K
def VRh (P:Program) (ws:List Nat) (rs:List (Nat×Nat)) (ds:List (Option Nat)) (r:List Oper) (K:Fr→za→Prop) (F:Fr) (H:za):Prop:=VOh P ws rs ds r (some (F,H)) K
theorem zsS (ws:List Nat) (rs:List (Nat×Nat)) (ds:List (Option Nat)) (K:Fr→za→Prop) (F:Fr) (H:za):VOh P ws rs ds [] (some (F,H)) K=K F H:=rfl
theorem zhb (ws:List Nat) (rs:List (Nat×Nat)) (ds:List (Option Nat)) (l:List Oper) (K:Fr→za→Prop):VOh P ws rs ds l none K=False:=by cases l<;>rfl
theorem zkg (ws:List Nat) (rs:List (Nat×Nat)) (ds:List (Option Nat)) (o:Oper) (r:List Oper) (K:Fr→za→Prop) (F:Fr) (H:za):
  VOh P ws rs ds (o::r) (some (F,H)) K=match zE o.op with|false=>VOh P ws rs ds r (zq9 P ws rs ds o F H) K|true=>VCh P ws rs ds o F H (VRh P ws rs ds r K):=by
 cases h:zE o.op with
 | false=>simp only [VOh,h]
 | true=>simp only [VOh,h];rfl
theorem zS {ws:List Nat} {rs:List (Nat×Nat)} {ds:List (Option Nat)} {l:List Oper} {K:Fr→za→Prop} {x:Bool} {A B:Option (Fr×za)} (h1:x=true→VOh P ws rs ds l A K) (h2:x=false→VOh P ws rs ds l B K):VOh P ws rs ds l (cond x A B) K:=by
 cases x with
 | true=>exact h1 rfl
 | false=>exact h2 rfl
theorem VCk.call {ws:List Nat} {rs:List (Nat×Nat)} {o:Oper} {K:Fr→za→Prop} {g:FuncId} {args:List PV} {v:PV} (h:∀ L,Ag ws (rs.map (·.2)) H L→CallOk P g args L v L) (hc:zo o.op (slot F)=some (g,args)) (hk:K (put F o.dst v) H):VCk P ws rs o F H K:=by
 unfold VCk
 simp only [hc]
 exact ⟨v,h,hk⟩
theorem zmC {all:List Oper} {ws:List Nat} {rs:List (Nat×Nat)} {K:Fr→za→Prop}:∀ (l:List Oper) (F:Fr) (H:za),VOh P ws rs (all.map (·.dst)) l (some (F,H)) K→RunG (ExH P all ws rs) l (slot F) H (fun f H'=>∃ F',f=slot F'∧K F' H')
 | [],F,H,h=>⟨F,rfl,h⟩
 | o::r,F,H,h=>by
  have hcl:zE o.op=false→zo o.op (slot F)=none:=fun hc=>by
   unfold zo
   split
   ·rename_i f args ts ho;rw [ho] at hc;simp [zE] at hc
   ·rfl
  rw [zkg] at h
  have go:∀ v H',ExH P all ws rs o (slot F) H v H'→VOh P ws rs (all.map (·.dst)) r (some (put F o.dst v,H')) K→RunG (ExH P all ws rs) (o::r) (slot F) H (fun f H'=>∃ F',f=slot F'∧K F' H'):=fun v H' he hr=>by
   refine ⟨v,H',he,?_⟩
   rw [←zY]
   exact zmC r _ _ hr
  cases hc:zE o.op with
  | false=>
   simp only [hc] at h
   unfold zq9 at h
   split at h
   ·rw [zhb] at h;exact h.elim
   ·rename_i b hb
    cases b with
    | false=>exact go _ _ (.inl ⟨zt all F o hb,rfl,rfl⟩) h
    | true=>
     simp only [cond_true] at h
     split at h
     ·rename_i hk
      split at h
      ·rename_i v H' hp
       exact go v H' (.inr ⟨zt all F o hb,by rw [hcl hc];exact ⟨hp,hk⟩⟩) h
      ·rw [zhb] at h;exact h.elim
     ·rw [zhb] at h;exact h.elim
  | true=>
   simp only [hc] at h
   unfold VCh at h
   split at h
   ·exact h.elim
   ·rename_i b hb
    cases b with
    | false=>exact go _ _ (.inl ⟨zt all F o hb,rfl,rfl⟩) (h.2 rfl)
    | true=>
     have h:=h.1 rfl
     unfold VCk at h
     split at h
     ·rename_i fn args hp
      obtain ⟨v,h1,h2⟩:=h
      exact go v H (.inr ⟨zt all F o hb,by rw [hp];exact ⟨rfl,h1⟩⟩) h2
     ·exact h.elim
theorem PW.drawh {E:Env} {Q:Exit→Fr→za→Prop} {id:Nat} {ops:Array Oper} (ws:List Nat) (rs:List (Nat×Nat)) (hm:P.follows .mixedOrders=true) (hd:zff (zfZ (ops.toList.map (·.dst)) rs) E.N ops.toList=true) (hnd:(rs.map (·.2)).Nodup)
  (h:∀ K:Fr→za→Prop,(∀ F' H',Q .normal F' H'→K F' H')→VOh P ws rs (ops.toList.map (·.dst)) ops.toList (some (F,H)) K):PW P E (.region id ops true) F H Q:=fun hs C a w hdf hw hf=>by
 refine wp_region_any hm ?_
 have hr:=zmC (P:=P) _ _ _ (h (fun F' H'=>Q .normal F' H') fun _ _ h=>h)
 have hall:∀ i,i<ops.toList.length→zfx (zfZ (ops.toList.map (·.dst)) rs) (zeq ops.toList) E.N ops.toList i=true:=by
  intro i hi
  unfold zff at hd
  exact List.all_eq_true.1 hd i (List.mem_range.2 hi)
 refine ziW (P:=P) hall (zvP hnd) zvT ops.size (Array.replicate ops.size false) (slot F) H C a w.drew (by simp) ?_ (by rw [za0];simp) (by rw [za0,zeI];exact hr) hdf hw.drew hf ?_
 ·intro i o ho hl j hj
  have hi:i<ops.size:=(Array.getElem?_eq_some_iff.1 ho).1
  simp [Array.getD,hi] at hl
 ·rintro C' f' H' a' w' p1 p2 p3 p4 p5 ⟨F',rfl,p6⟩
  exact ⟨C',F',H',p1.toN _,p2,p3,((Below.refl C.B w).drew).trans p4,p5,p6⟩
theorem Vs.place {E:Env} (e:Nat):Vs E F H F (H++[⟨e,0,[]⟩]):=fun _ C a w hw hf=>by
 obtain ⟨g1,g2⟩:=hw.ghost e 0
 exact ⟨_,g1.toN _,g2,hf.mono g1⟩
theorem zsr {i j:Nat} {l:List Nat} (h:i≠j):(j::l).elem i=l.elem i:=by
 simp [List.elem_cons,h]
theorem zqd (i:Nat) (l:List Nat):(i::l).elem i=true:=by simp
theorem znq (i:Nat):([]:List Nat).elem i=false:=rfl
end Go.Proofs.YtjgmdlcjbgiekaaGreatDoor.Pm
namespace Go.Proofs.YtjgmdlcjbgiekaaGreatDoor.Pm
set_option linter.all false
open Go.RowKit
variable {P:Program} {H:za} {F:Fr}
theorem zob (ds:List (Option Nat)) (o:Oper):stp P ds o F H=match zad ds F o with
  | none=>none
  | some b=>cond b (match pop P o.op (slot F) H with|some (v,H')=>some (put F o.dst v,H')|none=>none) (some (put F o.dst (.tup []),H)):=by
 unfold stp
 cases zad ds F o with
 | none=>rfl
 | some b=>cases b<;>rfl
theorem zk {ds:List (Option Nat)} {l:List Oper} {K:Fr→za→Prop} {x:Bool} {A B:Option (Fr×za)} (h1:x=true→VO P ds l A K) (h2:x=false→VO P ds l B K):VO P ds l (cond x A B) K:=by
 cases x with
 | true=>exact h1 rfl
 | false=>exact h2 rfl
theorem zn {ds:List (Option Nat)} {l:List Oper} {K:Fr→za→Prop} {x:Bool} {A B:Option (Fr×za)} (h1:x=true→VOd P ds l A K) (h2:x=false→VOd P ds l B K):VOd P ds l (cond x A B) K:=by
 cases x with
 | true=>exact h1 rfl
 | false=>exact h2 rfl
theorem zT {ds:List (Option Nat)} {l:List Oper} {K:Fr→za→Prop} {x:Bool} {A B:Option (Fr×za)} (h1:x=true→VOg P ds l A K) (h2:x=false→VOg P ds l B K):VOg P ds l (cond x A B) K:=by
 cases x with
 | true=>exact h1 rfl
 | false=>exact h2 rfl
theorem VC.guard {ds:List (Option Nat)} {o:Oper} {K:Fr→za→Prop} {x:Bool} (ha:zad ds F o=some x) (h1:x=true→VC P ds { o with guard:=none } F H K) (h2:x=false→K (put F o.dst (.tup [])) H):VC P ds o F H K:=by
 cases x with
 | true=>
  have:=h1 rfl
  unfold VC at this ⊢
  rw [ha]
  exact this
 | false=>
  unfold VC
  rw [ha]
  exact h2 rfl
theorem VCd.guard {ds:List (Option Nat)} {o:Oper} {K:Fr→za→Prop} {x:Bool} (ha:zad ds F o=some x) (h1:x=true→VCd P ds { o with guard:=none } F H K) (h2:x=false→K (put F o.dst (.tup [])) H):VCd P ds o F H K:=by
 cases x with
 | true=>
  have:=h1 rfl
  unfold VCd at this ⊢
  rw [ha]
  exact this
 | false=>
  unfold VCd
  rw [ha]
  exact h2 rfl
def VCx (P:Program) (o:Oper) (F:Fr) (H:za) (K:Fr→za→Prop):Prop:=
 match zo o.op (slot F) with
 | some (g,args)=>∃ R,CallEx P g args H R∧∀ v H',R v H'→K (put F o.dst v) H'
 | none=>False
def VCy (P:Program) (o:Oper) (F:Fr) (H:za) (K:Fr→za→Prop):Prop:=
 match zo o.op (slot F) with
 | some (g,args)=>∃ v,(CallOk P g args H v H∧(zaq o.op=true→∀ K,CallOk P g args K v K))∧K (put F o.dst v) H
 | none=>False
theorem zw1 (ds:List (Option Nat)) (o:Oper) (K:Fr→za→Prop):VC P ds o F H K=match zad ds F o with
  | none=>False
  | some b=>(b=true→VCx P o F H K)∧(b=false→K (put F o.dst (.tup [])) H):=by
 unfold VC VCx
 cases zad ds F o with
 | none=>rfl
 | some b=>cases b<;>simp<;>exact Iff.rfl
theorem zvi (ds:List (Option Nat)) (o:Oper) (K:Fr→za→Prop):VCd P ds o F H K=match zad ds F o with
  | none=>False
  | some b=>(b=true→VCy P o F H K)∧(b=false→K (put F o.dst (.tup [])) H):=by
 unfold VCd VCy
 cases zad ds F o with
 | none=>rfl
 | some b=>cases b<;>simp<;>exact Iff.rfl
def VCz (P:Program) (o:Oper) (F:Fr) (H:za) (K:Fr→za→Prop):Prop:=
 match zo o.op (slot F) with
 | some (g,args)=>∃ v,((∀ L,CallOk P g args (H++L) v (H++L))∧(zaq o.op=true→∀ K,CallOk P g args K v K))∧K (put F o.dst v) H
 | none=>False
theorem zvh (ds:List (Option Nat)) (o:Oper) (K:Fr→za→Prop):VCg P ds o F H K=match zad ds F o with
  | none=>False
  | some b=>(b=true→VCz P o F H K)∧(b=false→K (put F o.dst (.tup [])) H):=by
 unfold VCg VCz
 cases zad ds F o with
 | none=>rfl
 | some b=>cases b<;>simp<;>exact Iff.rfl
theorem VCz.call {o:Oper} {K:Fr→za→Prop} {g:FuncId} {args:List PV} {v:PV} (h:∀ L,CallOk P g args (H++L) v (H++L)) (hc:zo o.op (slot F)=some (g,args)) (hk:K (put F o.dst v) H) (hp:zaq o.op=false:=by rfl):VCz P o F H K:=by
 unfold VCz
 simp only [hc]
 exact ⟨v,⟨h,fun e=>by rw [hp] at e;cases e⟩,hk⟩
theorem VCx.call {o:Oper} {K:Fr→za→Prop} {g:FuncId} {args:List PV} {v:PV} {H':za} (h:CallOk P g args H v H') (hc:zo o.op (slot F)=some (g,args)) (hk:K (put F o.dst v) H'):VCx P o F H K:=by
 unfold VCx
 simp only [hc]
 exact ⟨_,h.toEx,fun v' H'' e=>by rw [e.1,e.2];exact hk⟩
theorem VCx.callR {o:Oper} {K:Fr→za→Prop} {g:FuncId} {args:List PV} {R:PV→za→Prop} (h:CallEx P g args H R) (hc:zo o.op (slot F)=some (g,args)) (hk:∀ v H',R v H'→K (put F o.dst v) H'):VCx P o F H K:=by
 unfold VCx
 simp only [hc]
 exact ⟨R,h,hk⟩
theorem VCy.call {o:Oper} {K:Fr→za→Prop} {g:FuncId} {args:List PV} {v:PV} (h:CallOk P g args H v H) (hc:zo o.op (slot F)=some (g,args)) (hk:K (put F o.dst v) H) (hp:zaq o.op=false:=by rfl):VCy P o F H K:=by
 unfold VCy
 simp only [hc]
 exact ⟨v,⟨h,fun e=>by rw [hp] at e;cases e⟩,hk⟩
theorem VCy.callP {o:Oper} {K:Fr→za→Prop} {g:FuncId} {args:List PV} {v:PV} (h:∀ K,CallOk P g args K v K) (hc:zo o.op (slot F)=some (g,args)) (hk:K (put F o.dst v) H):VCy P o F H K:=by
 unfold VCy
 simp only [hc]
 exact ⟨v,⟨h H,fun _=>h⟩,hk⟩
theorem zpf (k k':IntKind) (a b:Int):zbb .add k a k' b=if k=k' then some (.int k (k.wrap (a+b))) else none:=rfl
theorem zo5 (k k':IntKind) (a b:Int):zbb .sub k a k' b=if k=k' then some (.int k (k.wrap (a - b))) else none:=rfl
theorem zo9 (k k':IntKind) (a b:Int):zbb .mul k a k' b=if k=k' then some (.int k (k.wrap (a * b))) else none:=rfl
theorem zpe (k k':IntKind) (a b:Int):zbb .eql k a k' b=if k=k' then some (.bool (a==b)) else none:=rfl
theorem zo8 (k k':IntKind) (a b:Int):zbb .neq k a k' b=if k=k' then some (.bool (a !=b)) else none:=rfl
theorem zpa (k k':IntKind) (a b:Int):zbb .lss k a k' b=if k=k' then some (.bool (decide (a<b))) else none:=rfl
theorem zpb (k k':IntKind) (a b:Int):zbb .leq k a k' b=if k=k' then some (.bool (decide (a≤b))) else none:=rfl
theorem zpc (k k':IntKind) (a b:Int):zbb .gtr k a k' b=if k=k' then some (.bool (decide (b<a))) else none:=rfl
theorem zpd (k k':IntKind) (a b:Int):zbb .geq k a k' b=if k=k' then some (.bool (decide (b≤a))) else none:=rfl
theorem zo7 (k k':IntKind) (a b:Int):zbb .quo k a k' b=if k=k' then (if b=0 then none else some (.int k (k.wrap (a.tdiv b)))) else none:=rfl
theorem zo6 (k k':IntKind) (a b:Int):zbb .rem k a k' b=if k=k' then (if b=0 then none else some (.int k (a.tmod b))) else none:=rfl
theorem hp4 (H K:za) (a b c d e:Blk):(H++a::b::c::d::e::K)[H.length+4]? =some e:=by rw [List.getElem?_append_right (by omega)];simp
theorem hp5 (H K:za) (a b c d e f:Blk):(H++a::b::c::d::e::f::K)[H.length+5]? =some f:=by rw [List.getElem?_append_right (by omega)];simp
theorem hp6 (H K:za) (a b c d e f g:Blk):(H++a::b::c::d::e::f::g::K)[H.length+6]? =some g:=by rw [List.getElem?_append_right (by omega)];simp
theorem hs3 (H K:za) (a b c d x:Blk):(H++a::b::c::d::K).set (H.length+3) x=H++a::b::c::x::K:=by rw [List.set_append_right _ _ (by omega)];simp
theorem hs4 (H K:za) (a b c d e x:Blk):(H++a::b::c::d::e::K).set (H.length+4) x=H++a::b::c::d::x::K:=by rw [List.set_append_right _ _ (by omega)];simp
theorem hs5 (H K:za) (a b c d e f x:Blk):(H++a::b::c::d::e::f::K).set (H.length+5) x=H++a::b::c::d::e::x::K:=by rw [List.set_append_right _ _ (by omega)];simp
theorem hs6 (H K:za) (a b c d e f g x:Blk):(H++a::b::c::d::e::f::g::K).set (H.length+6) x=H++a::b::c::d::e::f::x::K:=by rw [List.set_append_right _ _ (by omega)];simp
theorem hl4 (H:za) (a b c d:Blk):(H++[a,b,c,d]).length=H.length+4:=by simp
theorem hl5 (H:za) (a b c d e:Blk):(H++[a,b,c,d,e]).length=H.length+5:=by simp
theorem hl6 (H:za) (a b c d e f:Blk):(H++[a,b,c,d,e,f]).length=H.length+6:=by simp
attribute [go_sem] hp4 hp5 hp6 hs3 hs4 hs5 hs6 hl4 hl5 hl6 zpf zo5 zo9 zpe zo8 zpa zpb zpc zpd zo7 zo6 zw1 zvi zvh VRg zsT zkh zsS zkg VRh VCh zq9 zj9 zdW zdY zcO rsv zbw zmQ zlY zdM zJ zaE eff zld zaf zsr zqd znq Op.operands true_implies Bool.true_eq_false Bool.false_eq_true VR zvg zsV VRd zsU zb9 zE zob zad zo pop zcU zk2 zbt zc3 zc2 zar ev pvc pv1 slot put Nat.beq ze5 zrv peq zcu zcQ zdH zbS zhj zaQ zdi List.range List.range.loop pun Option.map Option.bind zbc zaK zdL rd zc4 wr zcP zal zij zak zig zas zcl zc6 zbD zjB zbh zft zrD zm4 zej zy zhi zcp zdm zfS PV.cells PV.cell zdX zcc zaw Option.isSome_some Option.isSome_none kp hp0 hp1 hp2 hp3 hs0 hs1 hs2 hl1 hl2 hl3 List.append_assoc Nat.beq_refl List.length_cons List.length_nil List.all_cons List.all_nil zN zbD List.replicate_succ List.replicate_zero List.flatten_cons List.flatten_nil List.take_succ_cons List.take_zero List.take_nil List.drop_succ_cons List.drop_zero List.drop_nil Nat.zero_mul Nat.sub_self true_implies false_implies and_true true_and false_and and_false and_self not_true_eq_false not_false_eq_true Bool.false_eq_true Bool.false_and Bool.and_false Bool.true_or Bool.or_true Bool.false_or Bool.or_false if_true if_false ite_true ite_false forall_const List.map_cons List.map_nil List.cons_append List.nil_append List.append_nil Array.toList Nat.zero_add Nat.add_zero Nat.mul_one Nat.one_mul beq_self_eq_true Bool.true_and Bool.and_true List.getElem?_cons_succ List.getElem?_cons_zero List.getElem?_toArray List.set_cons_zero List.set_cons_succ beq_true beq_false Bool.not_true Bool.not_false decide_true decide_false cond_true cond_false zuw zux w64 w8 w32 zwN zwO zwX zwY zwT zwU Int.toNat_natCast IntWalk.toNatUp
class Ld (P:Program) (E:Env) (c:Code) (Q:Exit→Fr→za→Prop) (r:outParam Code) (R:outParam (Exit→Fr→za→Prop)):Prop where
 h:∀ F H,PW P E r F H R→PW P E c F H Q
instance ld0 {P:Program} {E:Env} {Q:Exit→Fr→za→Prop} {id:Nat} {ops:Array Oper} {b:Bool}:Ld P E (.region id ops b) Q (.region id ops b) Q:=⟨fun _ _ h=>h⟩
instance ld1 {P:Program} {E:Env} {Q R:Exit→Fr→za→Prop} {x y r:Code} [k:Ld P E x (zge (fun F' H'=>PW P E y F' H' Q) Q) r R]:Ld P E (.seq x y) Q r R:=⟨fun F H h=>PW.seq (k.h F H h)⟩
theorem PW.e {P:Program} {E:Env} {F:Fr} {H:za} {Q R:Exit→Fr→za→Prop} {c:Code} {id:Nat} {ops:Array Oper} {F':Fr} {H':za} [k:Ld P E c Q (.region id ops false) R] (hq:R .normal F' H') (hd:ops.toList.all (zQ E.N)=true:=by rfl) (h:∀ K:Fr→za→Prop,K F' H'→VO P (ops.toList.map (·.dst)) ops.toList (some (F,H)) K:=by (intro K k;simp (maxSteps:=3000000) (disch:=omega) only [go_sem,↓reduceIte,reduceCtorEq];exact k)):PW P E c F H Q:=
 k.h _ _ (PW.rg hd fun K hK=>h K (hK _ _ hq))
theorem PW.f {P:Program} {E:Env} {F:Fr} {H:za} {Q R:Exit→Fr→za→Prop} {c:Code} {id:Nat} {ops:Array Oper} {F':Fr} {H':za} [k:Ld P E c Q (.region id ops false) R] (h:∀ K:Fr→za→Prop,K F' H'→VO P (ops.toList.map (·.dst)) ops.toList (some (F,H)) K) (hq:R .normal F' H') (hd:ops.toList.all (zQ E.N)=true:=by rfl):PW P E c F H Q:=
 k.h _ _ (PW.rg hd fun K hK=>h K (hK _ _ hq))
attribute [go_sem] zaL ze1
theorem nqb:(∀ b:Bool,((!b)=true)=(b=false))∧(∀ b:Bool,((!b)=false)=(b=true))∧(∀ (p:Prop) [Decidable p],(decide p=true)=p)∧(∀ (p:Prop) [Decidable p],(decide p=false)=¬ p):=⟨fun b=>by cases b<;>simp,fun b=>by cases b<;>simp,fun p _=>by simp,fun p _=>by simp⟩
end Go.Proofs.YtjgmdlcjbgiekaaGreatDoor.Pm
