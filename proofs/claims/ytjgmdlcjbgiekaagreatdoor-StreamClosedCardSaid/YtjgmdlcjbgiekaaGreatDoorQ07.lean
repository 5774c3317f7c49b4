/-
  Parts of the proof, put together in one text. No condition.
-/
import Derived.Test.YtjgmdlcjbgiekaaGreatDoorQ06
namespace Go.Proofs.YtjgmdlcjbgiekaaGreatDoor.Pm
set_option linter.all false
open Go.RowKit
variable {P:Program} {C:Ctx} {H:za} {w:World} {F:Fr} {a:Act} {N:Nat}
def zaE (P : Program) (f : FuncId) : Bool := match P.funcs[f]? with | some fn => fn.body.isSome && !(fn.name == "runtime.NumGoroutine") | none => false
def CallOk (P:Program) (f:FuncId) (args:List PV) (H:za) (v:PV) (H':za):Prop:=
 zaE P f=true∧∀ (C:Ctx) (us:List Value) (w:World),WRel C H w→VRels C args us→
  Calls P f us.toArray w fun e w'=>∃ C' u,CLe C C'∧WRel C' H' w'∧Below C.B w w'∧e= .returned u∧VRel C' v u
def CallEx (P:Program) (f:FuncId) (args:List PV) (H:za) (R:PV→za→Prop):Prop:=
 zaE P f=true∧∀ (C:Ctx) (us:List Value) (w:World),WRel C H w→VRels C args us→
  Calls P f us.toArray w fun e w'=>∃ C' u v H',R v H'∧CLe C C'∧WRel C' H' w'∧Below C.B w w'∧e= .returned u∧VRel C' v u
theorem CallOk.toEx {f:FuncId} {args:List PV} {v:PV} {H':za} (h:CallOk P f args H v H'):CallEx P f args H (fun v' H''=>v'=v∧H''=H'):=
 ⟨h.1,fun C us w hw hu=>(h.2 C us w hw hu).mono fun e w' ⟨C',u,q1,q2,q3,q4,q5⟩=>⟨C',u,v,H',⟨rfl,rfl⟩,q1,q2,q3,q4,q5⟩⟩
theorem CallEx.one {f:FuncId} {args:List PV} {v:PV} {H':za} (h:CallEx P f args H (fun v' H''=>v'=v∧H''=H')):CallOk P f args H v H':=
 ⟨h.1,fun C us w hw hu=>(h.2 C us w hw hu).mono fun e w' ⟨C',u,v',H'',⟨e1,e2⟩,q1,q2,q3,q4,q5⟩=>⟨C',u,q1,e2▸q2,q3,q4,e1▸q5⟩⟩
theorem CallEx.mono {f:FuncId} {args:List PV} {R R':PV→za→Prop} (h:CallEx P f args H R) (hr:∀ v H',R v H'→R' v H'):CallEx P f args H R':=
 ⟨h.1,fun C us w hw hu=>(h.2 C us w hw hu).mono fun e w' ⟨C',u,v',H'',q0,q1,q2,q3,q4,q5⟩=>⟨C',u,v',H'',hr _ _ q0,q1,q2,q3,q4,q5⟩⟩
theorem zcN {f:FuncId} {args:Array Value} (h:zaE P f=true):(callFunc f args).run P w= .ok (.enter f args) w:=by
 unfold zaE at h
 cases hf:P.funcs[f]? with
 | none=>simp [hf] at h
 | some fn=>
  simp only [hf,Bool.and_eq_true,Bool.not_eq_true'] at h
  have h1:¬ fn.body=none:=by intro hb;simp [hb] at h
  have h2 : ¬ fn.name = "runtime.NumGoroutine" := by intro hb; simp [hb] at h
  simp [callFunc,hf,h2,h1]
inductive Scoped (n:Nat):PV→Prop where
 | int (k:IntKind) (m:Int):Scoped n (.int k m)
 | bool (b:Bool):Scoped n (.bool b)
 | str (s:List UInt8):Scoped n (.str s)
 | nilp:Scoped n .nilp
 | nl (k:Nat):Scoped n (.nl k)
 | yl {l:Nat} {us:List Value} {fs:List PV} (h:∀ (j:Nat) (x:PV),fs[j]? =some x→Scoped n x):Scoped n (.yl l us fs)
 | lp (l:Nat) (o:Obj):Scoped n (.lp l o)
 | undef:Scoped n .undef
 | ptr {id ver off:Nat} (h:id<n):Scoped n (.ptr id ver off)
 | ip {xs:List PV} {off:Nat} (h:∀ (j:Nat) (x:PV),xs[j]? =some x→Scoped n x):Scoped n (.ip xs off)
 | slice {xs:List PV} {len:Nat} {full:Bool} (h:∀ (j:Nat) (x:PV),xs[j]? =some x→Scoped n x):Scoped n (.slice xs len full)
 | msl {id ver off len sz:Nat} {g:Bool} (h:id<n):Scoped n (.msl id ver off len sz g)
 | mp {id ver:Nat} (h:id<n):Scoped n (.mp id ver)
 | agg {cs:List PV} (h:∀ (j:Nat) (x:PV),cs[j]? =some x→Scoped n x):Scoped n (.agg cs)
 | tup {vs:List PV} (h:∀ (j:Nat) (x:PV),vs[j]? =some x→Scoped n x):Scoped n (.tup vs)
 | func {f:FuncId} {fs cs:List PV} (h:∀ (j:Nat) (x:PV),fs[j]? =some x→Scoped n x) (h':∀ (j:Nat) (x:PV),cs[j]? =some x→Scoped n x):Scoped n (.func f fs cs)
theorem zd9 {n:Nat} {xs:List PV} {us:List Value} (hl:us.length=xs.length) (h:∀ (j:Nat) (x:PV) (u:Value),xs[j]? =some x→us[j]? =some u→Scoped n x):∀ (j:Nat) (x:PV),xs[j]? =some x→Scoped n x:=fun j x hx=>by
 have hlt:j<us.length:=by have:=(List.getElem?_eq_some_iff.1 hx).1;omega
 exact h j x us[j] hx (List.getElem?_eq_getElem hlt)
theorem VRel.scoped {x:PV} {u:Value} (h:VRel C x u):Scoped C.vs.length x:=by
 have lt:∀ {id ver:Nat},C.vs[id]? =some ver→id<C.vs.length:=fun h=>(List.getElem?_eq_some_iff.1 h).1
 induction h with
 | nl k=>exact .nl k
 | yl hl _ ih=>exact .yl (zd9 hl ih)
 | int k n=>exact .int k n
 | bool b=>exact .bool b
 | str s=>exact .str _
 | nilp=>exact .nilp
 | ptr hm hv=>exact .ptr (lt hv)
 | ptrS v h1 hv hlt=>exact .ptr (lt hv)
 | ip hl hM hc _ ih=>exact .ip (zd9 hl ih)
 | slice hl hM hc _ hcap hmax hf ih=>exact .slice (zd9 hl ih)
 | sliceN ad full=>exact .slice (fun j x hx=>by simp at hx)
 | msl hm hv hcap hmax hg=>exact .msl (lt hv)
 | mslE hm hv hmax=>exact .msl (lt hv)
 | mslG ad hm hv=>exact .msl (lt hv)
 | mslS v h1 hv hlt=>exact .msl (lt hv)
 | mp hm hv hb=>exact .mp (lt hv)
 | mpS v h1 hv hlt=>exact .mp (lt hv)
 | agg hl hc _ ih=>exact .agg (zd9 hl ih)
 | tup hl _ ih=>exact .tup (zd9 hl ih)
 | func hl hl' _ _ ih ih'=>exact .func (zd9 hl ih) (zd9 hl' ih')
 | undef v=>exact .undef
structure CLeN (n:Nat) (C C':Ctx):Prop where
 B:C'.B=C.B
 M:∀ b o u,C.M b o=some u→C'.M b o=some u
 top:C'.top=C.top
 mnew:∀ b o u,C'.M b o=some u→C.M b o=some u∨C.top≤b∨some b∈C.mu
 unew:∀ b,some b∈C'.mu→some b∈C.mu∨C.top≤b
 ids:∀ (id ver:Nat),id<n→C.vs[id]? =some ver→∃ ver',C'.vs[id]? =some ver'∧ver≤ver'∧(ver'=ver→C'.mu[id]? =C.mu[id]? ∧C'.cp[id]? =C.cp[id]?)
theorem CLe.toN {C C':Ctx} (h:CLe C C') (n:Nat):CLeN n C C':=⟨h.B,h.M,h.top,h.mnew,h.unew,fun id ver _ hv=>h.ids id ver hv⟩
theorem CLeN.refl {n:Nat} (C:Ctx):CLeN n C C:=(CLe.refl C).toN n
theorem CLeN.trans {n:Nat} {C C' C'':Ctx} (h:CLeN n C C') (k:CLeN n C' C''):CLeN n C C'':=by
 refine ⟨k.B.trans h.B,fun b o u e=>k.M _ _ _ (h.M _ _ _ e),k.top.trans h.top,fun b o u e=> ?_,fun b e=> ?_,fun id ver hid e=> ?_⟩
 ·rcases k.mnew b o u e with e|e|e
  ·exact h.mnew b o u e
  ·exact .inr (.inl (by rw [←h.top];exact e))
  ·rcases h.unew b e with e|e
   ·exact .inr (.inr e)
   ·exact .inr (.inl e)
 ·rcases k.unew b e with e|e
  ·exact h.unew b e
  ·exact .inr (by rw [←h.top];exact e)
 obtain ⟨v1,e1,l1,q1⟩:=h.ids id ver hid e
 obtain ⟨v2,e2,l2,q2⟩:=k.ids id v1 hid e1
 refine ⟨v2,e2,Nat.le_trans l1 l2,fun he=> ?_⟩
 have h1:v1=ver:=by omega
 have h2:v2=v1:=by omega
 exact ⟨(q2 h2).1.trans (q1 h1).1,(q2 h2).2.trans (q1 h1).2⟩
theorem CLeN.full {n:Nat} {C C':Ctx} (h:CLeN n C C') (hn:C.vs.length=n):CLe C C':=⟨h.B,h.M,h.top,h.mnew,h.unew,fun id ver hv=>h.ids id ver (by have:=(List.getElem?_eq_some_iff.1 hv).1;omega) hv⟩
structure Env where
 N:Nat
 H0:za
def HSc (H:za):Prop:=∀ (id:Nat) (k:Blk),H[id]? =some k→∀ x∈k.cells,Scoped H.length x
theorem WRel.hsc (hw:WRel C H w):HSc H:=fun id k hk x hx=>by
 obtain ⟨m,hm⟩:∃ m,C.mu[id]? =some m:=⟨C.mu[id]'(by rw [hw.len];exact (List.getElem?_eq_some_iff.1 hk).1),List.getElem?_eq_getElem _⟩
 cases m with
 | none=>
  rcases hw.gho id k hk hm with h0|⟨b,es,clock,_,_,_,q4,q5⟩|⟨b,r,_,_,_,q4⟩
  ·rw [h0.2] at hx;cases hx
  ·obtain ⟨j,hj,rfl⟩:=List.getElem_of_mem hx
   have:=(q5 j _ es[j] (List.getElem?_eq_getElem hj) (Array.getElem?_eq_getElem (by omega))).scoped
   rwa [hw.lenv] at this
  ·rw [q4.1,List.mem_singleton] at hx
   rw [hx];exact .lp _ r
 | some b=>
 obtain ⟨cur,_,_,_,_,q7,q8⟩:=hw.own id k b hk hm
 obtain ⟨j,hj,rfl⟩:=List.getElem_of_mem hx
 have:=(q8 j _ cur[j] (List.getElem?_eq_getElem hj) (Array.getElem?_eq_getElem (by omega))).scoped
 rwa [hw.lenv] at this
def Post (E:Env) (C:Ctx) (w:World) (Q:Exit→Fr→za→Prop):Exit→Act→World→Prop:=
 fun e a' w'=>∃ C' F' H',CLeN E.H0.length C C'∧a'.defers=[]∧WRel C' H' w'∧Below C.B w w'∧FRel C' E.N (slot F') a'∧Q e F' H'
theorem Post.trans {E:Env} {C C1:Ctx} {w w1:World} {Q:Exit→Fr→za→Prop} (h1:CLeN E.H0.length C C1) (h2:Below C.B w w1) {e:Exit} {a':Act} {w':World} (h:Post E C1 w1 Q e a' w'):Post E C w Q e a' w':=by
 obtain ⟨C',F',H',q1,q2,q3,q4,q5,q6⟩:=h
 exact ⟨C',F',H',h1.trans q1,q2,q3,h2.trans (by rw [←h1.B];exact q4),q5,q6⟩
def PW (P:Program) (E:Env) (c:Code) (F:Fr) (H:za) (Q:Exit→Fr→za→Prop):Prop:=
 HSc E.H0→∀ (C:Ctx) (a:Act) (w:World),a.defers=[]→WRel C H w→FRel C E.N (slot F) a→c.wp P (Post E C w Q) a w
def zgf (K:Fr→za→Prop) (Q:Exit→Fr→za→Prop):Exit→Fr→za→Prop
 | .normal,F,H=>K F H
 | e,F,H=>Q e F H
def zfl (id:Nat) (Q:Exit→Fr→za→Prop):Exit→Fr→za→Prop
 | .exit id',F,H=>if id'=id then Q .normal F H else Q (.exit id') F H
 | e,F,H=>Q e F H
def ztY (Q:Exit→Fr→za→Prop):Exit→Fr→za→Prop
 | .goto _,_,_=>False
 | e,F,H=>Q e F H
section rules
variable {E:Env} {Q:Exit→Fr→za→Prop}
theorem PW.mono {c:Code} {Q':Exit→Fr→za→Prop} (h:PW P E c F H Q) (hq:∀ e F H,Q e F H→Q' e F H):PW P E c F H Q':=fun hs C a w hd hw hf=>
 wp_mono (h hs C a w hd hw hf) fun _ _ _ ⟨C',F',H',q1,q2,q3,q4,q5,q6⟩=>⟨C',F',H',q1,q2,q3,q4,q5,hq _ _ _ q6⟩
theorem PW.skip (h:Q .normal F H):PW P E .skip F H Q:=fun hs C a w hd hw hf=>wp_skip ⟨C,F,H,.refl _,hd,hw,.refl _ _,hf,h⟩
theorem PW.ret (h:Q .ret F H):PW P E .ret F H Q:=fun hs C a w hd hw hf=>wp_ret ⟨C,F,H,.refl _,hd,hw,.refl _ _,hf,h⟩
theorem PW.exit {id:Nat} (h:Q (.exit id) F H):PW P E (.exit id) F H Q:=fun hs C a w hd hw hf=>wp_exit ⟨C,F,H,.refl _,hd,hw,.refl _ _,hf,h⟩
theorem PW.label {l:Nat} (h:Q .normal F H):PW P E (.label l) F H Q:=fun hs C a w hd hw hf=>wp_label ⟨C,F,H,.refl _,hd,hw,.refl _ _,hf,h⟩
theorem PW.seq {x y:Code} (h:PW P E x F H (zgf (fun F' H'=>PW P E y F' H' Q) Q)):PW P E (.seq x y) F H Q:=fun hs C a w hd hw hf=>by
 refine wp_seq (wp_mono (h hs C a w hd hw hf) ?_)
 rintro e a1 w1 ⟨C1,F1,H1,q1,q2,q3,q4,q5,q6⟩
 cases e with
 | normal=>exact wp_mono (q6 hs C1 a1 w1 q2 q3 q5) fun _ _ _ hp=>hp.trans q1 q4
 | _=>exact ⟨C1,F1,H1,q1,q2,q3,q4,q5,q6⟩
theorem PW.scope {c:Code} (h:PW P E c F H (ztY Q)):PW P E (.scope c) F H Q:=fun hs C a w hd hw hf=>by
 refine wp_scope_straight (wp_mono (h hs C a w hd hw hf) ?_)
 rintro e a1 w1 ⟨C1,F1,H1,q1,q2,q3,q4,q5,q6⟩
 cases e with
 | goto l=>exact q6.elim
 | _=>exact ⟨C1,F1,H1,q1,q2,q3,q4,q5,q6⟩
theorem PW.cond {c:Operand} {x y:Code} {t:Bool} (hc:ev (slot F) c= .bool t) (h1:t=true→PW P E x F H Q) (h2:t=false→PW P E y F H Q):PW P E (.cond c x y) F H Q:=fun hs C a w hd hw hf=>by
 have hv:=zw hf c
 rw [hc] at hv
 exact wp_cond_split (zaf hv) (fun ht=>h1 ht hs C a w hd hw hf) (fun ht=>h2 ht hs C a w hd hw hf)
theorem PW.block {id:Nat} {c:Code} (h:PW P E c F H (zfl id Q)):PW P E (.block id c) F H Q:=fun hs C a w hd hw hf=>by
 refine wp_block (wp_mono (h hs C a w hd hw hf) ?_)
 rintro e a1 w1 ⟨C1,F1,H1,q1,q2,q3,q4,q5,q6⟩
 cases e with
 | exit id'=>
  simp only [zfl] at q6
  simp only [Exit.inBlock]
  split
  ·rename_i he;rw [if_pos he] at q6;exact ⟨C1,F1,H1,q1,q2,q3,q4,q5,q6⟩
  ·rename_i he;rw [if_neg he] at q6;exact ⟨C1,F1,H1,q1,q2,q3,q4,q5,q6⟩
 | _=>exact ⟨C1,F1,H1,q1,q2,q3,q4,q5,q6⟩
def kp (ks:List Nat) (F:Fr):Fr:=ks.map fun t=>(t,slot F t)
theorem zpY (ks:List Nat) (F:Fr) (t:Nat):slot (kp ks F) t=slot F t∨slot (kp ks F) t= .undef:=by
 induction ks with
 | nil=>exact .inr rfl
 | cons k ks ih=>
  show (match Nat.beq k t with|true=>slot F k|false=>slot (kp ks F) t)=slot F t∨(match Nat.beq k t with|true=>slot F k|false=>slot (kp ks F) t)= .undef
  cases hb:Nat.beq k t with
  | true=>rw [Nat.eq_of_beq_eq_true hb];exact .inl rfl
  | false=>exact ih
theorem FRel.keep (hf:FRel C N (slot F) a) (ks:List Nat):FRel C N (slot (kp ks F)) a:=⟨hf.1,fun t=>by
 rcases zpY ks F t with h|h
 ·rw [h];exact hf.2 t
 ·rw [h];exact .undef _⟩
theorem PW.keep {c:Code} (ks:List Nat) (h:PW P E c (kp ks F) H Q):PW P E c F H Q:=fun hs C a w hd hw hf=>h hs C a w hd hw (hf.keep ks)
def zpH (P:Program) (c:Code) (Q:Exit→Act→World→Prop) (a:Act) (w:World):Prop:=
 ∀ (b:Frame) (k:List Item) (cs:List Frame),∃ e a' w',Q e a' w'∧Arrives P (lone (b.at a (.code c:: .inLoop c::k)) cs w) b k cs e a' w'
theorem ziv {c:Code} {Q:Exit→Act→World→Prop} {a:Act} {w:World} (h:c.wp P (Exit.then (zpH P c Q) Q) a w):zpH P c Q a w:=by
 intro b k cs
 obtain ⟨e,a1,w1,hq,harr⟩:=h b (.inLoop c::k) cs
 cases e with
 | normal=>
  obtain ⟨e2,a2,w2,hq2,harr2⟩:=hq b k cs
  exact ⟨e2,a2,w2,hq2,.of_steps (Steps.trans harr (.one step_inLoop)) harr2⟩
 | exit id=>exact ⟨_,a1,w1,hq,.pass (x:=.inLoop c) rfl (fun _ _=>.inl (by simp)) harr⟩
 | goto l=>exact ⟨_,a1,w1,hq,.pass (x:=.inLoop c) rfl (fun _ _=>.inl (by simp)) harr⟩
 | ret=>exact ⟨_,a1,w1,hq,.pass (x:=.inLoop c) rfl (fun _ _=>.inl (by simp)) harr⟩
 | panic ch=>exact ⟨_,a1,w1,hq,.pass (x:=.inLoop c) rfl (fun _ _=>.inl (by simp)) harr⟩
 | outgrown=>exact ⟨_,a1,w1,hq,.pass (x:=.inLoop c) rfl (fun _ _=>.inl (by simp)) harr⟩
def PL (P:Program) (E:Env) (c:Code) (F:Fr) (H:za) (Q:Exit→Fr→za→Prop):Prop:=
 HSc E.H0→∀ (C:Ctx) (a:Act) (w:World),a.defers=[]→WRel C H w→FRel C E.N (slot F) a→zpH P c (Post E C w Q) a w
theorem PW.loop {c:Code} (h:PL P E c F H Q):PW P E (.loop c) F H Q:=fun hs C a w hd hw hf b k cs=>by
 obtain ⟨e,a',w',hq,harr⟩:=h hs C a w hd hw hf b k cs
 exact ⟨e,a',w',hq,.of_steps (.one step_loop) harr⟩
theorem PL.round {c:Code} (h:PW P E c F H (zgf (fun F' H'=>PL P E c F' H' Q) Q)):PL P E c F H Q:=fun hs C a w hd hw hf=>by
 refine ziv (wp_mono (h hs C a w hd hw hf) ?_)
 rintro e a1 w1 ⟨C1,F1,H1,q1,q2,q3,q4,q5,q6⟩
 cases e with
 | normal=>
  have hk:=q6 hs C1 a1 w1 q2 q3 q5
  exact fun b k cs=>by
   obtain ⟨e2,a2,w2,hq2,harr2⟩:=hk b k cs
   exact ⟨e2,a2,w2,hq2.trans q1 q4,harr2⟩
 | _=>exact ⟨C1,F1,H1,q1,q2,q3,q4,q5,q6⟩
theorem PL.keep {c:Code} (ks:List Nat) (h:PL P E c (kp ks F) H Q):PL P E c F H Q:=fun hs C a w hd hw hf=>h hs C a w hd hw (hf.keep ks)
def za7 (all:List Oper) (F:Nat→PV) (o:Oper):Option Bool:=
 match o.guard with
 | none=>some true
 | some (j,b)=>match (all[j]?).bind (·.dst) with
  | some d=>match F d with
   | .bool x=>some (x==b)
   | .tup []=>some false
   | _=>none
  | none=>none
theorem zP {all:List Oper} {f:Nat→PV} {o:Oper} {b:Bool} (hf:FRel C N f a) (h:za7 all f o=some b):Region.wanted o (yielded all.toArray a.tmps)=b:=by
 unfold za7 at h
 unfold Region.wanted
 split at h
 ·rename_i hg;injection h with h;subst h;rw [hg]
 ·rename_i j t hg
  rw [hg]
  simp only
  split at h
  ·rename_i d hd
   have hv:=hf.2 d
   have hy:yielded all.toArray a.tmps j=match a.tmps[d]? with|some (.bool x)=>some x|_=>none:=by
    unfold yielded
    rw [List.getElem?_toArray,hd]
    rfl
   split at h
   ·rename_i x hx
    injection h with h
    subst h
    rw [hx] at hv
    have he:=zaf hv
    rw [Array.getD_eq_getD_getElem?] at he
    cases hq:a.tmps[d]? with
    | none=>simp [hq,Go.undef] at he
    | some u=>rw [hq] at he;simp at he;subst he;rw [hy,hq];simp
   ·rename_i hx
    injection h with h
    subst h
    rw [hx] at hv
    have he:a.tmps.getD d Go.undef=Go.undef:=by
     generalize a.tmps.getD d Go.undef=u at hv
     cases hv with
     | @tup _ us hl hR0=>
      have:us=[]:=List.eq_nil_of_length_eq_zero (by simpa using hl)
      subst this
      rfl
    rw [Array.getD_eq_getD_getElem?] at he
    rw [hy]
    cases hq:a.tmps[d]? with
    | none=>simp
    | some u=>rw [hq] at he;simp [Go.undef] at he;subst he;simp
   ·cases h
  ·cases h
def Exec (P:Program) (o:Oper) (f:Nat→PV) (H:za) (v:PV) (H':za):Prop:=
 match zr o.op f with
 | some (g,args)=>CallOk P g args H v H'
 | none=>pop P o.op f H=some (v,H')
def zR (N:Nat) (o:Oper):Bool:=match o.dst with|some d=>Nat.blt d N|none=>true
theorem zas {o:Oper} (h:zR N o=true):∀ t,o.dst=some t→t<N:=fun t ht=>by
 unfold zR at h
 rw [ht] at h
 simp only [Nat.blt_eq] at h
 exact h
def zcp (P:Program) (o:Oper) (f:Nat→PV) (H:za) (R:PV→za→Prop):Prop:=
 match zr o.op f with
 | some (g,args)=>CallEx P g args H R
 | none=>∃ v H',pop P o.op f H=some (v,H')∧R v H'
theorem Exec.toR {o:Oper} {f:Nat→PV} {v:PV} {H':za} (h:Exec P o f H v H'):zcp P o f H (fun v' H''=>v'=v∧H''=H'):=by
 unfold Exec at h
 unfold zcp
 split at h
 ·exact h.toEx
 ·exact ⟨v,H',h,rfl,rfl⟩
theorem zbL {o:Oper} {f:Nat→PV} {R:PV→za→Prop} (hd:zR N o=true) (hw:WRel C H w) (hf:FRel C N f a) (h:zcp P o f H R) (next:Act→World→Prop) (Q:Exit→Act→World→Prop)
  (hn:∀ C' u w' v H',R v H'→CLe C C'→WRel C' H' w'→Below C.B w w'→FRel C' N (upd f o.dst v) (a.put o.dst u)→next (a.put o.dst u) w'):o.wp P a w next Q:=by
 unfold zcp at h
 split at h
 ·rename_i g args hc
  unfold zr at hc
  split at hc
  ·rename_i x xs ts ho
   split at hc
   ·rename_i f' first captured hfv
    simp only [Option.some.injEq,Prod.mk.injEq] at hc
    obtain ⟨rfl,rfl⟩:=hc
    have hv:=zw hf x
    rw [hfv] at hv
    obtain ⟨us,ws,hl,hl',hR,hR',he⟩:∃ us ws,us.length=first.length∧ws.length=captured.length∧Rel C first us∧Rel C captured ws∧a.eval x= .func (.func f') us.toArray ws.toArray:=by
     generalize a.eval x=q at hv
     cases hv with
     | func hl hl' hR hR'=>exact ⟨_,_,hl,hl',hR,hR',rfl⟩
    obtain ⟨hal,har⟩:=zdL hf xs.toList
    have hrun:(execOp a.eval o).run P w= .ok (.enter f' (us++xs.toList.map a.eval++ws).toArray) w:=by
     have e1:us.toArray++xs.map a.eval++ws.toArray=(us++xs.toList.map a.eval++ws).toArray:=by
      apply Array.ext';simp
     simp only [execOp,ho,resolve,he,Deferred.ofValue,invoke,Sem.run_bind,Sem.run_pure,Result.andThen_ok,zcN h.1,e1]
    unfold Oper.wp
    rw [hrun,Oper.upon_enter]
    refine (h.2 C _ w hw ⟨by simp [hl,hl'],Rel.append (by simp [hl]) (Rel.append hl hR har) hR'⟩).mono ?_
    rintro e w' ⟨C',u,v,H',q0,q1,q2,q3,rfl,q5⟩
    exact hn C' u w' v H' q0 q1 q2 q3 ((hf.mono q1).put _ (zas hd) q5)
   ·cases hc
  ·cases hc
 ·obtain ⟨v,H',h,hR⟩:=h
  obtain ⟨C',u,w',q1,q2,q3,q4,q5⟩:=zm5 hw hf h
  unfold Oper.wp
  rcases q5 with q5|⟨q5,rfl⟩
  ·rw [q5,Oper.upon_value]
   exact hn C' u w' v H' hR q1 q2 q3 ((hf.mono q1).put _ (zas hd) q4)
  ·rw [q5,Oper.upon_skip]
   exact hn C' _ w' _ H' hR q1 q2 q3 ((hf.mono q1).put _ (zas hd) q4)
theorem zcY {o:Oper} {f:Nat→PV} {v:PV} {H':za} (hd:zR N o=true) (hw:WRel C H w) (hf:FRel C N f a) (h:Exec P o f H v H') (next:Act→World→Prop) (Q:Exit→Act→World→Prop)
  (hn:∀ C' u w',CLe C C'→WRel C' H' w'→Below C.B w w'→FRel C' N (upd f o.dst v) (a.put o.dst u)→next (a.put o.dst u) w'):o.wp P a w next Q:=
 zbL hd hw hf h.toR next Q fun C' u w' v' H'' e q1 q2 q3 q4=>hn C' u w' q1 (e.2▸q2) q3 (e.1▸q4)
def zbj (P:Program) (all:List Oper):List Oper→(Fr→za→Prop)→Fr→za→Prop
 | [],K,F,H=>K F H
 | o::r,K,F,H=>match za7 all (slot F) o with
  | some b=>(b=true→match zr o.op (slot F) with
    | some (g,args)=>∃ R,CallEx P g args H R∧∀ v H',R v H'→zbj P all r K (put F o.dst v) H'
    | none=>match pop P o.op (slot F) H with
     | some (v,H')=>zbj P all r K (put F o.dst v) H'
     | none=>False)∧(b=false→zbj P all r K (put F o.dst (.tup [])) H)
  | none=>False
theorem zbm {all:List Oper} {K:Fr→za→Prop}:∀ (l:List Oper) (F:Fr) (H:za),l.all (zR N)=true→zbj P all l K F H→∀ (C:Ctx) (a:Act) (w:World),a.defers=[]→WRel C H w→FRel C N (slot F) a→
  ∀ Q:Exit→Act→World→Prop,(∀ C' F' H' a' w',CLe C C'→a'.defers=[]→WRel C' H' w'→Below C.B w w'→FRel C' N (slot F') a'→K F' H'→Q .normal a' w')→wpList P all.toArray Q l a w
 | [],F,H,_,h,C,a,w,hd,hw,hf,Q,hQ=>hQ C F H a w (.refl _) hd hw (.refl _ _) hf h
 | o::r,F,H,hall,h,C,a,w,hd,hw,hf,Q,hQ=>by
  simp only [List.all_cons,Bool.and_eq_true] at hall
  simp only [zbj] at h
  split at h
  ·rename_i b hb
   have hwant:=zP hf hb
   unfold wpList
   cases b with
   | true=>
    rw [if_pos hwant]
    left
    have h1:=h.1 rfl
    have step:∀ R,zcp P o (slot F) H R→(∀ v H',R v H'→zbj P all r K (put F o.dst v) H')→o.wp P a w (wpList P all.toArray Q r) Q:=fun R he hr=>by
     refine zbL hall.1 hw hf he _ _ fun C' u w' v H' q0 q1 q2 q3 q4=> ?_
     rw [←zX] at q4
     refine zbm r _ _ hall.2 (hr v H' q0) C' _ w' (by cases ho:o.dst<;>simp [Act.put,hd]) q2 q4 Q ?_
     intro C'' F'' H'' a'' w'' p1 p2 p3 p4 p5 p6
     exact hQ C'' F'' H'' a'' w'' (q1.trans p1) p2 p3 (q3.trans (by rw [←q1.B];exact p4)) p5 p6
    split at h1
    ·rename_i g args hc
     obtain ⟨R,hcall,hr⟩:=h1
     exact step R (by unfold zcp;rw [hc];exact hcall) hr
    ·rename_i hc
     split at h1
     ·rename_i v H' hp
      exact step (fun v' H''=>v'=v∧H''=H') (by unfold zcp;rw [hc];exact ⟨v,H',hp,rfl,rfl⟩) (fun v' H'' e=>by rw [e.1,e.2];exact h1)
     ·exact h1.elim
   | false=>
    rw [if_neg (by rw [hwant];simp)]
    have h2:=h.2 rfl
    have q4:=hf.put o.dst (zas hall.1) (VRel.undefV (C:=C))
    rw [←zX] at q4
    exact zbm r _ _ hall.2 h2 C _ w (by cases ho:o.dst<;>simp [Act.put,hd]) hw q4 Q hQ
  ·exact h.elim
theorem PW.region {id:Nat} {ops:Array Oper} (hd:ops.toList.all (zR E.N)=true) (h:zbj P ops.toList ops.toList (fun F' H'=>Q .normal F' H') F H):PW P E (.region id ops false) F H Q:=fun hs C a w hdf hw hf=>by
 refine wp_region_list ?_
 have:=zbm (P:=P) (all:=ops.toList) ops.toList F H hd h C a w hdf hw hf (Post E C w Q) (fun C' F' H' a' w' p1 p2 p3 p4 p5 p6=>⟨C',F',H',p1.toN _,p2,p3,p4,p5,p6⟩)
 simpa using this
theorem PW.region_to {id:Nat} {ops:Array Oper} (ks:List Nat) (F1:Fr) (H1:za) (hd:ops.toList.all (zR E.N)=true) (h:zbj P ops.toList ops.toList (fun F' H'=>kp ks F'=F1∧H'=H1) F H) (hq:Q .normal F1 H1):
  PW P E (.region id ops false) F H Q:=fun hs C a w hdf hw hf=>by
 refine wp_region_list ?_
 have:=zbm (P:=P) (all:=ops.toList) ops.toList F H hd h C a w hdf hw hf (Post E C w Q) (fun C' F' H' a' w' p1 p2 p3 p4 p5 p6=>⟨C',F1,H1,p1.toN _,p2,p6.2▸p3,p4,p6.1▸p5.keep ks,hq⟩)
 simpa using this
end rules
end Go.Proofs.YtjgmdlcjbgiekaaGreatDoor.Pm
