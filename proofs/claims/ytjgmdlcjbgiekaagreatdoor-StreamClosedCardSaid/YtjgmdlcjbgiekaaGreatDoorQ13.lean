/-
  Parts of the proof, put together in one text. No condition.
-/
import Derived.Test.YtjgmdlcjbgiekaaGreatDoorQ12
namespace Go.Proofs.YtjgmdlcjbgiekaaGreatDoor.Pm
set_option linter.all false
open Go.RowKit
variable {P:Program} {C:Ctx} {H:za} {w:World} {F:Fr} {a:Act} {N:Nat}
def eqL {α:Type} (f:α→α→Bool):List α→List α→Bool
 | [],[]=>true
 | x::xs,y::ys=>match f x y with|true=>eqL f xs ys|false=>false
 | _,_=>false
theorem zdN {α:Type} {f:α→α→Bool} (hf:∀ x y,f x y=true→x=y):∀ {xs ys:List α},eqL f xs ys=true→xs=ys
 | [],[],_=>rfl
 | x::xs,y::ys,h=>by
  simp only [eqL] at h
  split at h
  ·rename_i h1;rw [hf _ _ h1,zdN hf h]
  ·cases h
 | [],_::_,h=>by cases h
 | _::_,[],h=>by cases h
def eqb:Nat→PV→PV→Bool
 | 0,_,_=>false
 | _+1,.int k a,.int k' b=>decide (k=k')&&decide (a=b)
 | _+1,.bool a,.bool b=>a==b
 | _+1,.str a,.str b=>decide (a=b)
 | _+1,.nilp,.nilp=>true
 | _+1,.nl a,.nl b=>Nat.beq a b
 | _+1,.undef,.undef=>true
 | _+1,.ptr a b c,.ptr a' b' c'=>Nat.beq a a'&&Nat.beq b b'&&Nat.beq c c'
 | n+1,.ip xs o,.ip ys o'=>Nat.beq o o'&&eqL (eqb n) xs ys
 | n+1,.slice xs l f,.slice ys l' f'=>Nat.beq l l'&&(f==f')&&eqL (eqb n) xs ys
 | _+1,.msl a b c d e g,.msl a' b' c' d' e' g'=>Nat.beq a a'&&Nat.beq b b'&&Nat.beq c c'&&Nat.beq d d'&&Nat.beq e e'&&(g==g')
 | _+1,.mp a b,.mp a' b'=>Nat.beq a a'&&Nat.beq b b'
 | n+1,.agg xs,.agg ys=>eqL (eqb n) xs ys
 | n+1,.tup xs,.tup ys=>eqL (eqb n) xs ys
 | n+1,.func f xs us,.func f' ys vs=>Nat.beq f f'&&eqL (eqb n) xs ys&&eqL (eqb n) us vs
 | _+1,_,_=>false
theorem zfc:∀ (n:Nat) (x y:PV),eqb n x y=true→x=y
 | 0,_,_,h=>by simp [eqb] at h
 | n+1,x,y,h=>by
  have ih:∀ {xs ys:List PV},eqL (eqb n) xs ys=true→xs=ys:=fun h=>zdN (zfc n) h
  have nb:∀ {a b:Nat},Nat.beq a b=true→a=b:=fun h=>Nat.eq_of_beq_eq_true h
  cases x<;>cases y<;>simp only [eqb,Bool.false_eq_true,Bool.and_eq_true,decide_eq_true_eq,beq_iff_eq] at h
  case int=>rw [h.1,h.2]
  case bool=>rw [h]
  case str=>rw [h]
  case nilp=>rfl
  case nl=>rw [nb h]
  case ptr=>rw [nb h.1.1,nb h.1.2,nb h.2]
  case ip=>rw [nb h.1,ih h.2]
  case slice=>rw [nb h.1.1,ih h.2,h.1.2]
  case msl=>rw [nb h.1.1.1.1.1,nb h.1.1.1.1.2,nb h.1.1.1.2,nb h.1.1.2,nb h.1.2,h.2]
  case mp=>rw [nb h.1,nb h.2]
  case agg=>rw [ih h]
  case tup=>rw [ih h]
  case func=>rw [nb h.1.1,ih h.1.2,ih h.2]
  case undef=>rfl
def zqb (a b:Blk):Bool:=Nat.beq a.e b.e&&Nat.beq a.ver b.ver&&eqL (eqb 20) a.cells b.cells
theorem zj4 (a b:Blk) (h:zqb a b=true):a=b:=by
 simp only [zqb,Bool.and_eq_true] at h
 cases a;cases b
 simp only [Blk.mk.injEq]
 exact ⟨Nat.eq_of_beq_eq_true h.1.1,Nat.eq_of_beq_eq_true h.1.2,zdN (zfc 20) h.2⟩
def eqH (a b:za):Bool:=eqL zqb a b
theorem zhM {a b:za} (h:eqH a b=true):a=b:=zdN zj4 h
inductive Task where
 | code (N:Nat) (c:Code) (F:Fr) (H:za)
 | loop (N:Nat) (c:Code) (F:Fr) (H:za)
 | ops (d:Bool) (ds:List (Option Nat)) (l:List Oper) (F:Fr) (H:za)
 | call (f:FuncId) (args:List PV) (H:za)
inductive Res where
 | code (e:Exit) (F:Fr) (H:za)
 | val (v:PV) (H:za)
def ziq (ks:List Nat):Fr→List Nat
 | []=>ks
 | (t,_)::r=>match ks.any (Nat.beq t) with|true=>ziq ks r|false=>ziq (t::ks) r
def zbC (P:Program) (ih:Task→Option Res):Task→Option Res
 | .code N c F H=>match c with
  | .skip=>some (.code .normal F H)
  | .region _ ops d=>match ops.toList.all (zR N)&&(!d||(P.follows .mixedOrders&&zfd N ops.toList)) with
   | true=>ih (.ops d (ops.toList.map (·.dst)) ops.toList F H)
   | false=>none
  | .seq x y=>match ih (.code N x F H) with
   | some (.code .normal F1 H1)=>ih (.code N y F1 H1)
   | r=>r
  | .cond c x y=>match ev (slot F) c with
   | .bool true=>ih (.code N x F H)
   | .bool false=>ih (.code N y F H)
   | _=>none
  | .block id x=>match ih (.code N x F H) with
   | some (.code (.exit id') F1 H1)=>match Nat.beq id' id with|true=>some (.code .normal F1 H1)|false=>some (.code (.exit id') F1 H1)
   | r=>r
  | .loop x=>ih (.loop N x F H)
  | .exit id=>some (.code (.exit id) F H)
  | .label _=>some (.code .normal F H)
  | .scope x=>match ih (.code N x F H) with
   | some (.code (.goto _) _ _)=>none
   | r=>r
  | .ret=>some (.code .ret F H)
  | _=>none
 | .loop N x F H=>match ih (.code N x F H) with
  | some (.code .normal F1 H1)=>ih (.loop N x (kp (ziq [] F1) F1) H1)
  | r=>r
 | .ops _ _ [] F H=>some (.code .normal F H)
 | .ops d ds (o::r) F H=>match zJ o.op with
  | false=>match stp P ds o F H with
   | some (F1,H1)=>ih (.ops d ds r F1 H1)
   | none=>none
  | true=>match zac ds F o with
   | some true=>match zr o.op (slot F) with
    | some (g,args)=>match d&&zan o.op with
     | true=>match args,ih (.call g [] []) with
      | [],some (.val v [])=>ih (.ops d ds r (put F o.dst v) H)
      | _,_=>none
     | false=>match ih (.call g args H) with
      | some (.val v H1)=>match !d||eqH H1 H with
       | true=>ih (.ops d ds r (put F o.dst v) H1)
       | false=>none
      | _=>none
    | none=>none
   | some false=>ih (.ops d ds r (put F o.dst (.tup [])) H)
   | none=>none
 | .call f args H=>match P.funcs[f]? with
  | some fn=>match fn.body with
   | some c=>match zaE P f&&Nat.ble args.length fn.ntmps with
    | true=>match ih (.code fn.ntmps c (zce args 0) H) with
     | some (.code e F1 H1)=>match (match e with| .ret=>true| .normal=>true|_=>false) with
      | true=>match zd P fn.results.toList (slot F1) H1 with
       | some v=>match eqH (H1.take H.length) H with
        | true=>match frz H.length H1 20 v with
         | some v1=>some (.val v1 H)
         | none=>some (.val v H1)
        | false=>some (.val v H1)
       | none=>none
      | false=>none
     | _=>none
    | false=>none
   | none=>none
  | none=>none
noncomputable def zgZ (P:Program) (n:Nat):Task→Option Res:=n.rec (fun _=>none) (fun _ ih=>zbC P ih)
def zvl (P:Program):Task→Res→Prop
 | .code N c F H,.code e F1 H1=>∀ H0,PW P ⟨N,H0⟩ c F H (fun e' F' H'=>e'=e∧F'=F1∧H'=H1)
 | .loop N c F H,.code e F1 H1=>∀ H0,PL P ⟨N,H0⟩ c F H (fun e' F' H'=>e'=e∧F'=F1∧H'=H1)
 | .ops false ds l F H,.code .normal F1 H1=>VO P ds l (some (F,H)) (fun F' H'=>F'=F1∧H'=H1)
 | .ops true ds l F H,.code .normal F1 H1=>VOd P ds l (some (F,H)) (fun F' H'=>F'=F1∧H'=H1)
 | .call f args H,.val v H1=>CallOk P f args H v H1
 | _,_=>False
theorem zf7 {ds:List (Option Nat)} {K K':Fr→za→Prop} (hk:∀ F H,K F H→K' F H):∀ {l:List Oper} {s:Option (Fr×za)},VO P ds l s K→VO P ds l s K'
 | l,none,h=>by rw [zi2] at h;exact h.elim
 | [],some (F,H),h=>hk F H h
 | o::r,some (F,H),h=>by
  cases hc:zJ o.op with
  | false=>rw [zmO hc] at h ⊢;exact zf7 hk h
  | true=>
   rw [zeJ hc] at h ⊢
   unfold VC at h ⊢
   split at h
   ·split at h
    ·obtain ⟨R,h1,h2⟩:=h;exact ⟨R,h1,fun v H' hR=>zf7 hk (h2 v H' hR)⟩
    ·exact h
   ·exact zf7 hk h
   ·exact h
theorem zeI {ds:List (Option Nat)} {K K':Fr→za→Prop} (hk:∀ F H,K F H→K' F H):∀ {l:List Oper} {s:Option (Fr×za)},VOd P ds l s K→VOd P ds l s K'
 | l,none,h=>by rw [zha] at h;exact h.elim
 | [],some (F,H),h=>hk F H h
 | o::r,some (F,H),h=>by
  rw [zcg] at h ⊢
  cases hc:zJ o.op with
  | false=>rw [hc] at h;exact zeI hk h
  | true=>
   rw [hc] at h
   simp only [VCd,VRd] at h ⊢
   split at h
   ·split at h
    ·obtain ⟨v,h1,h2⟩:=h;exact ⟨v,h1,zeI hk h2⟩
    ·exact h
   ·exact zeI hk h
   ·exact h
theorem zku {ih:Task→Option Res} (hih:∀ t r,ih t=some r→zvl P t r):∀ t r,zbC P ih t=some r→zvl P t r:=by
 intro t r h
 cases t with
 | code N c F H=>
  have sub:∀ {x:Code} {F:Fr} {H:za} {r:Res},ih (.code N x F H)=some r→∃ e F1 H1,r= .code e F1 H1∧∀ H0,PW P ⟨N,H0⟩ x F H (fun e' F' H'=>e'=e∧F'=F1∧H'=H1):=fun {x F H r} hx=>by
   have:=hih _ _ hx
   cases r with
   | code e F1 H1=>exact ⟨e,F1,H1,rfl,this⟩
   | val v H1=>exact this.elim
  cases c with
  | skip=>simp only [zbC,Option.some.injEq] at h;subst h;exact fun H0=>PW.skip ⟨rfl,rfl,rfl⟩
  | exit id=>simp only [zbC,Option.some.injEq] at h;subst h;exact fun H0=>PW.exit ⟨rfl,rfl,rfl⟩
  | label l=>simp only [zbC,Option.some.injEq] at h;subst h;exact fun H0=>PW.label ⟨rfl,rfl,rfl⟩
  | ret=>simp only [zbC,Option.some.injEq] at h;subst h;exact fun H0=>PW.ret ⟨rfl,rfl,rfl⟩
  | scope x=>
   simp only [zbC] at h
   cases hx:ih (.code N x F H) with
   | none=>rw [hx] at h;cases h
   | some r1=>
    obtain ⟨e,F1,H1,rfl,hp⟩:=sub hx
    rw [hx] at h
    cases e with
    | goto l=>cases h
    | _=>
     injection h with h
     subst h
     intro H0
     refine PW.scope ((hp H0).mono ?_)
     rintro e' F' H' ⟨rfl,rfl,rfl⟩
     exact ⟨rfl,rfl,rfl⟩
  | region id ops d=>
   simp only [zbC] at h
   split at h
   ·rename_i hc
    simp only [Bool.and_eq_true,Bool.or_eq_true,Bool.not_eq_true'] at hc
    have:=hih _ _ h
    cases d with
    | false=>
     cases r with
     | val v H1=>exact this.elim
     | code e F1 H1=>
      cases e with
      | normal=>
       intro H0
       refine PW.rg hc.1 fun K hK=>zf7 (fun F' H' hq=>hK _ _ ?_) this
       exact ⟨rfl,hq⟩
      | _=>exact this.elim
    | true=>
     rcases hc.2 with h2|h2
     ·cases h2
     ·cases r with
      | val v H1=>exact this.elim
      | code e F1 H1=>
       cases e with
       | normal=>
        intro H0
        refine PW.draw h2.1 h2.2 fun K hK=>zeI (fun F' H' hq=>hK _ _ ?_) this
        exact ⟨rfl,hq⟩
       | _=>exact this.elim
   ·cases h
  | seq x y=>
   simp only [zbC] at h
   cases hx:ih (.code N x F H) with
   | none=>rw [hx] at h;cases h
   | some rx=>
    obtain ⟨e,F1,H1,rfl,hp⟩:=sub hx
    rw [hx] at h
    cases e with
    | normal=>
     obtain ⟨e2,F2,H2,rfl,hp2⟩:=sub h
     intro H0
     exact PW.seq ((hp H0).mono fun e' F' H' hq=>by obtain ⟨rfl,rfl,rfl⟩:=hq;exact hp2 H0)
    | _=>
     simp only [Option.some.injEq] at h
     subst h
     intro H0
     exact PW.seq ((hp H0).mono fun e' F' H' hq=>by obtain ⟨rfl,rfl,rfl⟩:=hq;exact ⟨rfl,rfl,rfl⟩)
  | cond c x y=>
   simp only [zbC] at h
   split at h
   ·rename_i hc
    obtain ⟨e2,F2,H2,rfl,hp2⟩:=sub h
    exact fun H0=>PW.cond hc (fun _=>hp2 H0) (fun e=>by cases e)
   ·rename_i hc
    obtain ⟨e2,F2,H2,rfl,hp2⟩:=sub h
    exact fun H0=>PW.cond hc (fun e=>by cases e) (fun _=>hp2 H0)
   ·cases h
  | block id x=>
   simp only [zbC] at h
   cases hx:ih (.code N x F H) with
   | none=>rw [hx] at h;cases h
   | some rx=>
    obtain ⟨e,F1,H1,rfl,hp⟩:=sub hx
    rw [hx] at h
    cases e with
    | exit id'=>
     simp only at h
     split at h
     ·rename_i hb
      simp only [Option.some.injEq] at h
      subst h
      intro H0
      exact PW.block ((hp H0).mono fun e' F' H' hq=>by
       obtain ⟨rfl,rfl,rfl⟩:=hq
       simp only [zfl]
       rw [if_pos (Nat.eq_of_beq_eq_true hb)];simp)
     ·rename_i hb
      simp only [Option.some.injEq] at h
      subst h
      intro H0
      exact PW.block ((hp H0).mono fun e' F' H' hq=>by
       obtain ⟨rfl,rfl,rfl⟩:=hq
       simp only [zfl]
       rw [if_neg (by intro e;rw [e,Nat.beq_refl] at hb;cases hb)];simp)
    | _=>
     simp only [Option.some.injEq] at h
     subst h
     intro H0
     exact PW.block ((hp H0).mono fun e' F' H' hq=>by obtain ⟨rfl,rfl,rfl⟩:=hq;exact ⟨rfl,rfl,rfl⟩)
  | loop x=>
   simp only [zbC] at h
   have:=hih _ _ h
   cases r with
   | val v H1=>exact this.elim
   | code e F1 H1=>exact fun H0=>PW.loop (this H0)
  | _=>simp [zbC] at h
 | loop N x F H=>
  simp only [zbC] at h
  cases hx:ih (.code N x F H) with
  | none=>rw [hx] at h;cases h
  | some rx=>
   have h1:=hih _ _ hx
   cases rx with
   | val v H1=>exact h1.elim
   | code e F1 H1=>
    rw [hx] at h
    cases e with
    | normal=>
     have h2:=hih _ _ h
     cases r with
     | val v H1=>exact h2.elim
     | code e2 F2 H2=>
      intro H0
      refine PL.round ((h1 H0).mono fun e' F' H' hq=> ?_)
      obtain ⟨rfl,rfl,rfl⟩:=hq
      exact PL.keep (ziq [] F') (h2 H0)
    | _=>
     simp only [Option.some.injEq] at h
     subst h
     intro H0
     exact PL.round ((h1 H0).mono fun e' F' H' hq=>by obtain ⟨rfl,rfl,rfl⟩:=hq;exact ⟨rfl,rfl,rfl⟩)
 | ops d ds l F H=>
  cases l with
  | nil=>simp only [zbC,Option.some.injEq] at h;subst h;cases d<;>exact ⟨rfl,rfl⟩
  | cons o l=>
   simp only [zbC] at h
   have rest:∀ {F1:Fr} {H1:za},ih (.ops d ds l F1 H1)=some r→∃ F2 H2,r= .code .normal F2 H2∧(d=false→VO P ds l (some (F1,H1)) (fun F' H'=>F'=F2∧H'=H2))∧(d=true→VOd P ds l (some (F1,H1)) (fun F' H'=>F'=F2∧H'=H2)):=fun {F1 H1} hx=>by
    have:=hih _ _ hx
    cases r with
    | val v H1=>cases d<;>exact this.elim
    | code e F2 H2=>
     cases e with
     | normal=>cases d<;>exact ⟨F2,H2,rfl,fun e=>(by first|exact this|cases e),fun e=>(by first|exact this|cases e)⟩
     | _=>cases d<;>exact this.elim
   split at h
   ·rename_i hc
    split at h
    ·rename_i F1 H1 hs
     obtain ⟨F2,H2,rfl,h1,h2⟩:=rest h
     cases d with
     | false=>show VO P ds (o::l) (some (F,H)) _;rw [zmO hc,hs];exact h1 rfl
     | true=>show VOd P ds (o::l) (some (F,H)) _;rw [zcg,hc];show VOd P ds l (stp P ds o F H) _;rw [hs];exact h2 rfl
    ·cases h
   ·rename_i hc
    split at h
    ·rename_i ha
     split at h
     ·rename_i g args hp
      split at h
      ·rename_i hpc
       simp only [Bool.and_eq_true] at hpc
       obtain ⟨rfl,hpc⟩:=hpc
       split at h
       ·rename_i v hcall
        have hk:CallOk P g [] [] v []:=hih _ _ hcall
        have hall:∀ K,CallOk P g [] K v K:=fun K=>hk.frame (fun x hx=>by cases hx)
        obtain ⟨F2,H2,rfl,h1,h2⟩:=rest h
        show VOd P ds (o::l) (some (F,H)) _
        rw [zcg,hc]
        exact VCd.call (hall H) (fun _=>hall) ha hp (h2 rfl)
       ·cases h
      rename_i hpc
      split at h
      ·rename_i v H1 hcall
       split at h
       ·rename_i hd
        have hk:=hih _ _ hcall
        obtain ⟨F2,H2,rfl,h1,h2⟩:=rest h
        cases d with
        | false=>
         show VO P ds (o::l) (some (F,H)) _
         rw [zeJ hc]
         exact VC.call hk ha hp (h1 rfl)
        | true=>
         have he:H1=H:=zhM (by simpa using hd)
         subst he
         show VOd P ds (o::l) (some (F,H1)) _
         rw [zcg,hc]
         exact VCd.call hk (fun e=>by rw [e] at hpc;cases hpc) ha hp (h2 rfl)
       ·cases h
      ·cases h
     ·cases h
    ·rename_i ha
     obtain ⟨F2,H2,rfl,h1,h2⟩:=rest h
     cases d with
     | false=>
      show VO P ds (o::l) (some (F,H)) _
      rw [zeJ hc]
      unfold VC
      rw [ha]
      exact h1 rfl
     | true=>
      show VOd P ds (o::l) (some (F,H)) _
      rw [zcg,hc]
      simp only [VCd,ha]
      exact h2 rfl
    ·cases h
 | call f args H=>
  simp only [zbC] at h
  split at h
  ·rename_i fn hf
   split at h
   ·rename_i c hb
    split at h
    ·rename_i hq
     simp only [Bool.and_eq_true] at hq
     split at h
     ·rename_i e F1 H1 hcode
      have hg:=hih _ _ hcode
      split at h
      ·rename_i he
       split at h
       ·rename_i v hres
        have fin:∀ v1 H2,Fin H v1 H2 v H1→CallOk P f args H v1 H2:=fun v1 H2 hfin=>by
         refine CallOk.body hf hb rfl rfl rfl hq.1 hq.2 ((hg H).mono fun e' F' H' hq=> ?_)
         obtain ⟨rfl,rfl,rfl⟩:=hq
         cases e' with
         | ret=>exact ⟨v,hres,hfin⟩
         | normal=>exact ⟨v,hres,hfin⟩
         | _=>cases he
        split at h
        ·rename_i hH
         split at h
         ·rename_i v1 hz
          simp only [Option.some.injEq] at h
          subst h
          refine fin v1 H (.inr (.inl ⟨H1.drop H.length,20,?_,rfl,hz⟩))
          have:=zhM hH
          conv=>lhs;rw [←List.take_append_drop H.length H1,this]
         ·simp only [Option.some.injEq] at h
          subst h
          exact fin v H1 (.inl ⟨rfl,rfl⟩)
        ·simp only [Option.some.injEq] at h
         subst h
         exact fin v H1 (.inl ⟨rfl,rfl⟩)
       ·cases h
      ·cases h
     ·cases h
    ·cases h
   ·cases h
  ·cases h
theorem zd5:∀ (n:Nat) (t:Task) (r:Res),zgZ P n t=some r→zvl P t r
 | 0,t,r,h=>by cases h
 | n+1,t,r,h=>zku (zd5 n) t r h
theorem CallOk.eval (n:Nat) {f:FuncId} {args:List PV} {v:PV} (h:zgZ P n (.call f args [])=some (.val v [])) (hs:∀ x∈args,Scoped 0 x):CallOk P f args H v H:=(zd5 n _ _ h).frame hs
def zpR:Option Res→Bool
 | some (.val (.bool true) [])=>true
 | _=>false
theorem CallOk.evalT (n:Nat) {f:FuncId} (h:zpR (zgZ P n (.call f [] []))=true):CallOk P f [] H (.bool true) H:=by
 refine CallOk.eval n ?_ (fun x hx=>by cases hx)
 unfold zpR at h
 split at h
 ·rename_i he;exact he
 ·cases h
end Go.Proofs.YtjgmdlcjbgiekaaGreatDoor.Pm
