/-
  Parts of the proof. No condition.
-/
import Derived.Test.YtleejngibkbjnaaGreatDoorW03
import Derived.Test.YtleejngibkbjnaaGreatDoorProg
import Derived.KernelRfl
open Go.Proofs.YtleejngibkbjnaaGreatDoor.Pm.PV renaming int → O
open Go.IntKind renaming i64 → J
open Array renaming toList → qF
open List renaming replicate → qA
open Nat renaming beq → qB, strongRecOn → qE, gcd → qG
open Option renaming some → qD
open Go.Proofs.Tryz
set_option linter.all false
set_option maxRecDepth 100000
set_option maxHeartbeats 32000000
namespace Go.Proofs.YtleejngibkbjnaaGreatDoor.Pm
open Go.RowKit
variable {P:Program} {C:Ctx} {H:za} {w:World} {F:Fr} {a:Act} {N:Nat}
theorem VRel.re{C D:Ctx}(h1:D.M=C.M)(h2:D.mu=C.mu)(h3:D.vs=C.vs)(h4:D.cp=C.cp){x:PV}{u:Value}(h:VRel C x u):VRel D x u:=by
 induction h with
 | nl k=>exact .nl k
 | yl hl _ ih=>exact .yl hl ih
 | int k n=>exact .int k n
 | bool b=>exact .bool b
 | str s=>exact .str s
 | nilp=>exact .nilp
 | ptr hm hv=>exact .ptr (by rw[h2];exact hm) (by rw[h3];exact hv)
 | ptrS v h1 hv hlt=>exact .ptrS v h1 (by rw[h3];exact hv) hlt
 | ip hl hM hc _ ih=>exact .ip hl (by rw[h1];exact hM) hc ih
 | slice hl hM hc _ hcap hmax hf ih=>exact .slice hl (by rw[h1];exact hM) hc ih hcap hmax hf
 | sliceN ad full=>exact .sliceN ad full
 | msl hm hv hcap hmax hg=>exact .msl (by rw[h2];exact hm) (by rw[h3];exact hv) hcap hmax (by rw[h4];exact hg)
 | mslE hm hv hmax=>exact .mslE (by rw[h2];exact hm) (by rw[h3];exact hv) hmax
 | mslG ad hm hv=>exact .mslG ad (by rw[h2,h4];exact hm) (by rw[h3];exact hv)
 | mp hm hv hb=>exact .mp (by rw[h2];exact hm) (by rw[h3];exact hv) (by rw[h4];exact hb)
 | mpS v h1 hv hlt=>exact .mpS v h1 (by rw[h3];exact hv) hlt
 | mslS v h1 hv hlt=>exact .mslS v h1 (by rw[h3];exact hv) hlt
 | agg hl hc _ ih=>exact .agg hl hc ih
 | tup hl _ ih=>exact .tup hl ih
 | func hl hl' _ _ ih ih'=>exact .func hl hl' ih ih'
 | undef v=>exact .undef v
def Vs(E:Env)(F:Fr)(H:za)(F1:Fr)(H1:za):Prop:=HSc E.H0->∀(C:Ctx) (a:Act) (w:World),WRel C H w->FRel C E.N (slot F) a->∃ C',CLeN E.H0.length C C'/\WRel C' H1 w/\FRel C' E.N (slot F1) a
section rules
variable {E:Env} {Q:Exit->Fr->za->Prop} {F1:Fr} {H1:za}
theorem PW.view{c:Code}(hv:Vs E F H F1 H1)(h:PW P E c F1 H1 Q):PW P E c F H Q:=λhs C a w hd hw hf=>by obtain⟨C',q1,q2,q3⟩:=hv hs C a w hw hf;exact wp_mono (h hs C' a w hd q2 q3) λ_ _ _ hp=>hp.trans q1 (.refl _ _)
theorem PL.view{c:Code}(hv:Vs E F H F1 H1)(h:PL P E c F1 H1 Q):PL P E c F H Q:=λhs C a w hd hw hf=>by obtain⟨C',q1,q2,q3⟩:=hv hs C a w hw hf;intro b k cs;obtain⟨e2,a2,w2,hq2,harr2⟩:=h hs C' a w hd q2 q3 b k cs;exact⟨e2,a2,w2,hq2.trans q1 (.refl _ _),harr2⟩
theorem PW.eq{c:Code}(hF:F=F1)(hH:H=H1)(h:PW P E c F1 H1 Q):PW P E c F H Q:=by simp_all
theorem PW.at{c:Code}(ks:List Nat)(h:PW P E c F1 H1 Q)(hF:kp ks F=F1)(hH:H=H1):PW P E c F H Q:=by subst hF hH;exact h.keep ks
theorem PL.at{c:Code}(ks:List Nat)(h:PL P E c F1 H1 Q)(hF:kp ks F=F1)(hH:H=H1):PL P E c F H Q:=by subst hF hH;exact h.keep ks
theorem PW.rgv{id:Nat}{ops:Array Oper}(ks:List Nat)(d:Nat)(v:PV)(hd:ops.toList.all (zT E.N)=true)(h:VO P (ops.toList.map (·.dst)) ops.toList (some (F,H)) (λF' H'=>kp (d::ks) F'=(d,v)::kp ks F/\H'=H))(hq:Q .normal ((d,v)::kp ks F) H):
  PW P E (.region id ops false) F H Q:=PW.rg1 (d::ks) _ H hd h hq
theorem PW.to{x y:Code}(ks:List Nat)(F1:Fr)(H1:za)(h:PW P E x F H (zhV (λF' H'=>kp ks F'=F1/\H'=H1) Q))(hj:PW P E y F1 H1 Q):PW P E (.seq x y) F H Q:=PW.join ks (λF' H'=>F'=F1/\H'=H1) h (λF' H' e=>by rw[e.1,e.2];exact hj)
def FzF(n:Nat)(H:za)(F:Fr):Fr->Prop
 | []=>True
 | (t,v)::r=>Fz n H (slot F t) v/\FzF n H F r
theorem FzF.slot{n:Nat}:∀{F1:Fr},FzF n H F F1->∀ t,Pm.slot F1 t= .undef\/Fz n H (Pm.slot F t) (Pm.slot F1 t)
 | [],_,t=>.inl rfl
 | (k,x)::r,h,t=>by
  show(match qB k t with|true=>x|false=>Pm.slot r t)= .undef\/Fz n H (Pm.slot F t) (match qB k t with|true=>x|false=>Pm.slot r t);cases hb:qB k t with
  | true=>exact .inr (by rw[<-wC hb];exact h.1)
  | false=>exact FzF.slot h.2 t
theorem Vs.cut(hn:E.H0.length<=H1.length)(hH:HSc E.H0->CutH H H1)(hF:FzF H1.length H F F1):Vs E F H F1 H1:=λhs C a w hw hf=>by
 obtain⟨g1,g2⟩:=hw.cutN (hH hs);refine⟨_,g1.less hn,g2,hf.1,λt=> ?_⟩;rcases hF.slot t with h|h
 .rw[h];exact .undef _
 .exact h.sound hw (hf.2 t)
theorem Scoped.mono{n m:Nat}(hm:n<=m){x:PV}(h:Scoped n x):Scoped m x:=by
 induction h with
 | nl k=>exact .nl k
 | yl _ ih=>exact .yl ih
 | lp l r=>exact .lp l r
 | int k m=>exact .int k m
 | bool b=>exact .bool b
 | str s=>exact .str s
 | nilp=>exact .nilp
 | undef=>exact .undef
 | ptr h=>exact .ptr om
 | msl h=>exact .msl om
 | mp h=>exact .mp om
 | ip _ ih=>exact .ip ih
 | slice _ ih=>exact .slice ih
 | agg _ ih=>exact .agg ih
 | tup _ ih=>exact .tup ih
 | func _ _ ih ih'=>exact .func ih ih'
def FzC(n:Nat)(H:za):List PV->List PV->Prop
 | [],[]=>True
 | x::xs,y::ys=>Fz n H x y/\FzC n H xs ys
 | _,_=>False
theorem FzC.pw{n:Nat}:∀{xs ys:List PV},FzC n H xs ys->ys.length=xs.length/\∀(j:Nat) (x y:PV),xs[j]? =some x->ys[j]? =some y->Fz n H x y
 | [],[],_=>⟨rfl,λj x y hx=>by simp at hx⟩
 | x::xs,y::ys,h=>by
  obtain⟨l,q⟩:=FzC.pw h.2;refine⟨by simp[l],λj a b ha hb=> ?_⟩;cases j with
  | zero=>simp at ha hb;subst ha hb;exact h.1
  | succ j=>exact q j a b (by simpa using ha) (by simpa using hb)
 | [],_::_,h=>h.elim
 | _::_,[],h=>h.elim
theorem FzC.refl{n:Nat}:∀{xs:List PV},(∀ x∈xs,Scoped n x)->FzC n H xs xs
 | [],_=>trivial
 | x::xs,h=>⟨.id (h x sp),FzC.refl λy hy=>h y (by simp[hy])⟩
theorem FzC.append{n:Nat}:∀{xs ys us vs:List PV},FzC n H xs ys->FzC n H us vs->FzC n H (xs++us) (ys++vs)
 | [],[],_,_,_,h=>h
 | x::xs,y::ys,_,_,h,h'=>⟨h.1,FzC.append h.2 h'⟩
 | [],_::_,_,_,h,_=>h.elim
 | _::_,[],_,_,h,_=>h.elim
theorem Fz.tupC{n:Nat}{xs ys:List PV}(h:FzC n H xs ys):Fz n H (.tup xs) (.tup ys):=.tup h.pw.1 h.pw.2
theorem Fz.aggC{n:Nat}{xs ys:List PV}(h:FzC n H xs ys):Fz n H (.agg xs) (.agg ys):=.agg h.pw.1 h.pw.2
theorem Fz.sliceC{n len:Nat}{f f':Bool}{xs ys:List PV}(h:FzC n H xs ys)(hf:f'=true->f=true):Fz n H (.slice xs len f) (.slice ys len f'):=.slice h.pw.1 h.pw.2 hf
theorem Fz.mslC{n id ver len sz e:Nat}{g:Bool}{xs ys:List PV}(hn:n<=id)(hk:H[id]? =some ⟨e,ver,xs⟩)(hl:xs.length=len * sz)(h:FzC n H xs ys):Fz n H (.msl id ver 0 len sz g) (.slice ys len false):=by
 have ht:((xs.drop 0).take (len * sz))=xs:=by grind
 exact .msl hn hk rfl (by simp only;omega) (by simp only;rw[ht];exact h.pw.1) (by simp only;rw[ht];exact h.pw.2)
def FzL(n:Nat)(H:za):List Blk->List Blk->Prop
 | [],[]=>True
 | k::r,k1::r1=>k1.e=k.e/\k1.ver=k.ver/\FzC n H k.cells k1.cells/\FzL n H r r1
 | _,_=>False
theorem FzL.get{n:Nat}:∀{L L1:List Blk},FzL n H L L1->L1.length=L.length/\∀(j:Nat) (k1:Blk),L1[j]? =some k1->∃ k,L[j]? =some k/\k1.e=k.e/\k1.ver=k.ver/\FzC n H k.cells k1.cells
 | [],[],_=>⟨rfl,λj k h=>by simp at h⟩
 | k::r,k1::r1,h=>by
  obtain⟨h1,h2,h3,h4⟩:=h;obtain⟨l,q⟩:=FzL.get h4;grind
 | [],_::_,h=>h.elim
 | _::_,[],h=>h.elim
theorem CutH.of{A L K L1:za}(hA:HSc A)(hL:FzL (A++L1).length (A++L++K) L L1):CutH (A++L++K) (A++L1):=by
 obtain⟨l,q⟩:=hL.get;refine⟨by simp[l],λj k1 hk1=> ?_⟩;by_cases hj:j<A.length
 .rw[gK hj]at hk1;refine⟨k1,by rw[gU,gK hj];exact hk1,rfl,rfl,rfl,λi x y hx hy=> ?_⟩;rw[hx]at hy;injection hy with hy;subst hy;exact .id ((hA j k1 hk1 x (uE hx)).mono sp)
 .rw[gN om]at hk1;obtain⟨k,hk,h1,h2,h3⟩:=q _ k1 hk1;have hlt:=(gA.1 hk).1;exact⟨k,by rw[gU,gN om,gK hlt];exact hk,h1,h2,h3.pw.1,h3.pw.2⟩
theorem CutH.base{A K:za}(hA:HSc A):CutH (A++K) A:=by have:=CutH.of (A:=A) (L:=[]) (K:=K) (L1:=[]) hA trivial;simp_all
theorem HSc.set{A:za}(hA:HSc A){id:Nat}{k:Blk}(hk:∀ x∈k.cells,Scoped A.length x):HSc (A.set id k):=λj k' hk' x hx=>by
 rw[gS];rw[vG]at hk';split at hk'
 .simp_all
 .exact hA j k' hk' x hx
theorem Vs.trim{K:za}(hA:HSc E.H0->HSc H1)(hn:E.H0.length<=H1.length)(hH:H=H1++K)(hF:FzF H1.length H F F1):Vs E F H F1 H1:=Vs.cut hn (λhs=>by rw[hH];exact CutH.base (hA hs)) hF
theorem Fin.cut{A K H':za}{v v':PV}(hH:H'=A++K)(hl:H.length=A.length)(hA:HSc H->HSc A)(hv:Fz A.length H' v' v):Fin H v A v' H':=by subst hH;exact .inr (.inr λhs=>⟨om,CutH.base (hA hs),hv⟩)
theorem Fin.base{K:za}{v v':PV}(hv:Fz H.length (H++K) v' v):Fin H v H v' (H++K):=Fin.cut rfl rfl (λh=>h) hv
theorem Fin.now{v:PV}{H1:za}:Fin H v H1 v H1:=.inl ⟨rfl,rfl⟩
theorem zjB{id sz:Nat}(hm:C.mu[id]? =some none/\C.cp[id]? =some 0)(hv:C.vs[id]? =some 0){u:Value}(h:VRel C (.slice [] 0 true) u):VRel C (.msl id 0 0 0 sz true) u:=by
 cases h with
 | slice hl hM hc hR hcap hmax hf=>rw[hf rfl];exact .mslG _ hm hv
 | sliceN=>exact .mslG _ hm hv
theorem Vs.ghost(t e sz:Nat)(hs:slot F t= .slice [] 0 true):Vs E F H ((t,.msl H.length 0 0 0 sz true)::F) (H++[⟨e,0,[]⟩]):=λ_ C a w hw hf=>by
 obtain⟨g1,g2⟩:=hw.ghost e 0;refine⟨_,g1.toN _,g2,hf.1,λt'=> ?_⟩;show VRel _ (match qB t t' with|true=>_|false=>slot F t') _;cases hb:qB t t' with
 | true=>
  rw[<-wC hb];have:=hf.2 t;rw[hs]at this;exact zjB ⟨by simp[Ctx.more,<-hw.len],by simp[Ctx.more,<-hw.lenc]⟩ (by simp[Ctx.more,<-hw.lenv]) (this.mono g1)
 | false=>exact(hf.2 t').mono g1
theorem WRel.recell(hw:WRel C H w){id j:Nat}{k:Blk}{x y:PV}(hk:H[id]? =some k)(hj:k.cells[j]? =some x)(hc:y.cell=true)(hlp:∀ l r,x≠.lp l r)(hR:∀ u,VRel C x u->VRel C y u):WRel C (H.set id ⟨k.e,k.ver,k.cells.set j y⟩) w:=by
 have hid:id<H.length:=(gA.1 hk).1;refine⟨hw.gl,hw.base,hw.tople,hw.imm,by rw[hw.len];simp,by rw[hw.lenv];simp,by rw[hw.lenc];simp,?_,?_,?_,hw.disj,hw.inj,hw.minj⟩
 .intro i k' hk';rw[vG]at hk';split at hk'
  .rename_i e;subst e;simp only[hid,wN,qD.injEq]at hk';subst hk';exact hw.ver id k hk
  .exact hw.ver i k' hk'
 .intro i k' hk' hm;rw[vG]at hk';split at hk'
  .rename_i e;subst e;simp only[hid,wN,qD.injEq]at hk';subst hk';rcases hw.gho id k hk hm with h0|⟨b,es,clock,q1,q2,q3,q4,q5⟩|⟨b,r,q1,q2,q3,q4⟩
   .simp_all
   .refine .inr (.inl ⟨b,es,clock,q1,q2,q3,by simpa using q4,λi z e hz he=> ?_⟩);grind
   grind
  .exact hw.gho i k' hk' hm
 .intro i k' b hk' hm;rw[vG]at hk';split at hk'
  .rename_i e;subst e;simp only[hid,wN,qD.injEq]at hk';subst hk';obtain⟨cur,q3,q4,q5,q6,q7,q8⟩:=hw.own id k b hk hm;grind
  .exact hw.own i k' b hk' hm
theorem Vs.ghostH{id j:Nat}{k:Blk}(e sz:Nat)(hk:H[id]? =some k)(hj:k.cells[j]? =some (.slice [] 0 true)):
  Vs E F H F (H.set id ⟨k.e,k.ver,k.cells.set j (.msl H.length 0 0 0 sz true)⟩++[⟨e,0,[]⟩]):=λ_ C a w hw hf=>by
 obtain⟨g1,g2⟩:=hw.ghost e 0;have hid:id<H.length:=(gA.1 hk).1;have:=g2.recell (id:=id) (j:=j) (k:=k) (y:=.msl H.length 0 0 0 sz true) (by rw[gK hid];exact hk) hj rfl (λ_ r h=>by cases h) (λu hu=>zjB ⟨by simp[Ctx.more,<-hw.len],by simp[Ctx.more,<-hw.lenc]⟩ (by simp[Ctx.more,<-hw.lenv]) hu);rw[uL _ _ hid]at this;exact⟨_,g1.toN _,this,hf.mono g1⟩
end rules
theorem WRel.grown(hw:WRel C H w){w':World}(hb:Below w.heap.size w w'):WRel C H w':=by
 have hcell:∀ b o u,w.cell? ⟨b,o,none⟩=some u->w'.cell? ⟨b,o,none⟩=some u:=λb o u hu=>by have hlt:=World.block_lt_of_cell? w ⟨b,o,none⟩ hu;have e:=hb.block b hlt;simp only[World.cell?]at hu |-;simp_all
 have hsz:=hb.size;refine⟨hw.gl,by have:=hw.base;omega,by have:=hw.tople;omega,λb o u hu=>hcell _ _ _ (hw.imm b o u hu),hw.len,hw.lenv,hw.lenc,hw.ver,λid k hk hm=>(hw.gho id k hk hm).imp_right (λm=>m.mono (.refl _) rfl (λb es c hp h3=>by rw[hb.block b (vJ.1 h3).1];exact h3)),λid k b hk hm=> ?_,hw.disj,hw.inj,hw.minj⟩;obtain⟨cur,q3,q4,q5,q6,q7,q8⟩:=hw.own id k b hk hm;exact⟨cur,q3,q4,by rw[hb.block b (hw.mu_lt hm)];exact q5,q6,q7,q8⟩
def Ctx.after(C C2:Ctx)(n:Nat):Ctx:={ C with M:=λb o=>if b<n then C.M b o else C2.M b o }
theorem zm4(C C2:Ctx)(hw:WRel C H w):CLe C (C.after C2 w.heap.size):=by
 refine⟨rfl,λb o u hu=> ?_,rfl,λb o u hu=> ?_,λb hb=>.inl hb,λid ver hv=>⟨ver,hv,gV _,λ_=>⟨rfl,rfl⟩⟩⟩
 .have:=hw.imm_lt hu;simp_all[Ctx.after]
 .simp only[Ctx.after]at hu;split at hu
  .simp_all
  .have:=hw.tople;exact .inr (.inl om)
theorem zwu{C2:Ctx}{w':World}(hw:WRel C H w)(hb:Below w.heap.size w w')(h2:WRel C2 [] w'):WRel (C.after C2 w.heap.size) H w':=by
 have h:=hw.grown hb;have hle:=zm4 C C2 hw;refine⟨h.gl.mono hle.M,h.base,h.tople,λb o u hu=> ?_,h.len,h.lenv,h.lenc,h.ver,λid k hk hm=>(h.gho id k hk hm).imp_right (λm=>m.mono hle rfl (λb es c hp h3=>h3)),λid k b hk hm=> ?_,λid b hm o=> ?_,h.inj,h.minj⟩
 .simp only[Ctx.after]at hu;split at hu
  .exact h.imm b o u hu
  .exact h2.imm b o u hu
 .obtain⟨cur,q3,q4,q5,q6,q7,q8⟩:=h.own id k b hk hm;exact⟨cur,q3,q4,q5,q6,q7,λj x u hx hu=>(q8 j x u hx hu).mono hle⟩
 .simp only[Ctx.after];rw[gD (hw.mu_lt hm)];exact hw.disj id b hm o
theorem zwv{n:Nat}{C2:Ctx}(hM:∀ b o u,C2.M b o=some u->C.M b o=some u\/n<=b)(hlt:∀ b o u,C.M b o=some u->b<n)(hC:∀ b o u,C.M b o=some u->C2.M b o=some u)(hv0:C2.vs=[]){x:PV}{u:Value}(h:VRel C2 x u):VRel (C.after C2 n) x u:=by
 have key:∀ b o u,C2.M b o=some u->(C.after C2 n).M b o=some u:=λb o u hu=>by grind[Ctx.after]
 have no:∀{id ver:Nat},C2.vs[id]? =some ver->False:=λh=>by simp_all
 induction h with
 | nl k=>exact .nl k
 | yl hl _ ih=>exact .yl hl ih
 | int k n=>exact .int k n
 | bool b=>exact .bool b
 | str s=>exact .str s
 | nilp=>exact .nilp
 | ptr hm hv=>exact(no hv).elim
 | ptrS v h1 hv hlt=>exact(no hv).elim
 | ip hl hM hc _ ih=>exact .ip hl (λj u hu=>key _ _ _ (hM j u hu)) hc ih
 | slice hl hM hc _ hcap hmax hf ih=>exact .slice hl (λj u hu=>key _ _ _ (hM j u hu)) hc ih hcap hmax hf
 | sliceN ad full=>exact .sliceN ad full
 | msl hm hv hcap hmax hg=>exact(no hv).elim
 | mslE hm hv hmax=>exact(no hv).elim
 | mslG ad hm hv=>exact(no hv).elim
 | mslS v h1 hv hlt=>exact(no hv).elim
 | mp hm hv hb=>exact(no hv).elim
 | mpS v h1 hv hlt=>exact(no hv).elim
 | agg hl hc _ ih=>exact .agg hl hc ih
 | tup hl _ ih=>exact .tup hl ih
 | func hl hl' _ _ ih ih'=>exact .func hl hl' ih ih'
 | undef v=>exact .undef v
theorem CallEx.frame{f:FuncId}{args:List PV}{R:PV->Prop}(h:CallEx P f args [] (λv H'=>R v/\H'=[]))(hs:∀ x∈args,Scoped 0 x):CallEx P f args H (λv H'=>R v/\H'=H):=by
 refine⟨h.1,λC us w hw hu=> ?_⟩;have h0:WRel { B:=w.heap.size,M:=C.M,mu:=[],vs:=[],cp:=[],top:=w.heap.size } [] w:=⟨hw.gl,gV _,gV _,hw.imm,rfl,rfl,rfl,λid k h=>by simp at h,λid k h=>by simp at h,λid k b h=>by simp at h,λid b h=>by simp at h,λi j b h=>by simp at h,λi j b h=>by simp at h⟩;have ha:VRels { B:=w.heap.size,M:=C.M,mu:=[],vs:=[],cp:=[],top:=w.heap.size } args us:=⟨hu.1,λj x u hx hu'=>by
  have:=(hu.2 j x u hx hu').cut (n:=0) (M:=C.M) (λ_ _ _ h=>h) (hs x (uE hx));refine this.re ?_ ?_ ?_ ?_<;>simp[Ctx.cut]⟩
 refine(h.2 _ us w h0 ha).mono ?_;rintro e w' ⟨C2,u,v,H',⟨hR,rfl⟩,q1,q2,q3,q4,q5⟩;refine⟨C.after C2 w.heap.size,u,v,H,⟨hR,rfl⟩,zm4 C C2 hw,zwu hw q3 q2,q3.mono hw.base,q4,?_⟩;refine zwv (λb o u hu=> ?_) (λb o u hu=>hw.imm_lt hu) (λb o u hu=>q1.M b o u hu) (uU q2.lenv) q5;rcases q1.mnew b o u hu with h|h|h;all_goals simp_all
theorem CallOk.frame{f:FuncId}{args:List PV}{v:PV}(h:CallOk P f args [] v [])(hs:∀ x∈args,Scoped 0 x):CallOk P f args H v H:=(CallEx.frame (R:=λv'=>v'=v) h.toEx hs).one
theorem WRel.freeze1(hw:WRel C H w){id:Nat}{k:Blk}(hk:H[id]? =some k):∃ C1,CLe C C1/\WRel C1 (H.set id ⟨k.e,k.ver+1,[]⟩) w/\
  ∀(off len sz:Nat) (g:Bool) (u:Value),off+len * sz<=k.cells.length->VRel C (.msl id k.ver off len sz g) u->VRel C1 (.slice ((k.cells.drop off).take (len * sz)) len false) u:=by
 have hid:id<H.length:=(gA.1 hk).1;have e1:=hw.len;have e2:=hw.lenv;have e3:=hw.lenc;obtain⟨m,hm⟩:∃ m,C.mu[id]? =some m:=⟨C.mu[id]'om,gG _⟩;have hge:∀ b o u,C.M b o=some u->(if m=some b then w.cell? ⟨b,o,none⟩else C.M b o)=some u:=λb o u hu=>by
  split
  .exact hw.imm b o u hu
  .exact hu
 have hle:CLe C { B:=C.B,top:=C.top,M:=λb o=>if m=some b then w.cell? ⟨b,o,none⟩else C.M b o,mu:=C.mu.set id none,vs:=C.vs.set id (k.ver+1),cp:=C.cp.set id 0 }:=by
  refine⟨rfl,hge,rfl,λb o u hu=> ?_,λb hb=> ?_,λi ver hv=> ?_⟩
  .grind
  .grind
  .by_cases hi:i=id
   .subst hi;rw[hw.ver i k hk]at hv;simp_all
   grind
 refine⟨_,hle,?_,?_⟩
 .refine⟨hw.gl.mono hge,hw.base,hw.tople,λb o u hu=> ?_,by simp[e1],by simp[e2],by simp[e3],?_,?_,?_,?_,?_,?_⟩
  .simp only at hu;split at hu
   .exact hu
   .exact hw.imm b o u hu
  .intro i k' hk';by_cases hi:i=id
   .subst hi;simp[hid]at hk';subst hk';simp[e2,hid]
   .rw[gR om]at hk';rw[gR om];exact hw.ver i k' hk'
  .intro i k' hk' hm';by_cases hi:i=id
   .subst hi;simp[hid]at hk';subst hk';exact .inl ⟨by simp[e3,hid],rfl⟩
   .rw[gR om]at hk' hm';rw[gR om];exact(hw.gho i k' hk' hm').imp_right (λm=>m.mono hle rfl (λb es c hp h3=>h3))
  .intro i k' b hk' hm';by_cases hi:i=id
   .subst hi;simp[e1,hid]at hm'
   .rw[gR om]at hk' hm';obtain⟨c,q3,q4,q5,q6,q7,q8⟩:=hw.own i k' b hk' hm';exact⟨c,by rw[gR om];exact q3,q4,q5,q6,q7,λj x u hx hu=>(q8 j x u hx hu).mono hle⟩
  .intro i b hb o;by_cases hi:i=id
   .subst hi;simp[e1,hid]at hb
   .simp only[gR (by omega:id≠i)]at hb;simp only;rw[gC (λe=> ?_)]
    .exact hw.disj i b hb o
    .rw[e]at hm;exact hi (hw.inj i id b hb hm)
  .intro i j b hi hj;have ne:∀{i:Nat},(C.mu.set id none)[i]? =some (some b)->i≠id/\C.mu[i]? =some (some b):=fun{i} h=>by grind
   exact hw.inj i j b (ne hi).2 (ne hj).2
  .intro i j b mi mj ci cj;have ne:∀{i:Nat},(C.mu.set id none)[i]? =some none->(C.cp.set id 0)[i]? =some (b+1)->C.mu[i]? =some none/\C.cp[i]? =some (b+1):=fun{i} h h'=>by grind
   exact hw.minj i j b (ne mi ci).1 (ne mj cj).1 (ne mi ci).2 (ne mj cj).2
 .intro off len sz g u ho hv;obtain⟨b,cap,off',q1,rfl,hc1,hc2,ho',_⟩|⟨ad,hgh,h0,rfl⟩:=zbC hw hv (hw.ver id k hk)
  .rw[hm]at q1;injection q1 with q1;subst q1;obtain⟨cur,q3,q5,q6,q7,q8,q9,q10⟩:=hw.blk hk hm;have hlen:(((cur.toList.take k.cells.length).drop off).take (len * sz)).length=((k.cells.drop off).take (len * sz)).length:=by simp;omega
   refine .slice hlen (λj u hu=> ?_) (λx hx=>q6 x (wL (vI hx))) (λj x u hx hu=>(((q9.drop off).take (len * sz)) j x u hx hu).mono hle) hc1 hc2 (λhf=>by cases hf);simp only[wN];rcases vS len with h0|h0
   .subst h0;simp at hu
   .obtain rfl:=ho' h0;have:=((q8.drop off').take (len * sz)) j u hu;rwa[wF]at this
  .subst h0;have e:(k.cells.drop off).take (0 * sz)=[]:=by simp
   rw[e];exact .sliceN _ _
theorem Vs.frzCell{E:Env}{id id' j len sz:Nat}{g:Bool}{k k':Blk}(hk:H[id]? =some k)(hk':H[id']? =some k')(hne:id≠id')(hj:k'.cells[j]? =some (.msl id k.ver 0 len sz g))(hl:k.cells.length=len * sz):
  Vs E F H F ((H.set id ⟨k.e,k.ver+1,[]⟩).set id' ⟨k'.e,k'.ver,k'.cells.set j (.slice k.cells len false)⟩):=λ_ C a w hw hf=>by
 obtain⟨C1,hle,hw1,hfz⟩:=hw.freeze1 hk;have hid':id'<H.length:=(gA.1 hk').1;have hid:id<H.length:=(gA.1 hk).1;obtain⟨m,hm⟩:∃ m,C.mu[id']? =some m:=⟨C.mu[id']'(by rw[hw.len];exact hid'),gG _⟩;cases m with
 | none=>
  rcases hw.gho id' k' hk' hm with h0|⟨b,es,clock,q1,q2,q3,q4,q5⟩|⟨b,r,q1,q2,q3,q4⟩
  .simp_all
  .have hj':j<es.size:=by grind
   obtain⟨b,cap,off',_,e,_⟩|⟨ad,_,_,e⟩:=zbC hw (q5 j _ es[j] hj (wG hj')) (hw.ver id k hk)<;>cases e
  grind
 | some b=>
  obtain⟨cur,q3,q4,q5,q6,q7,q8⟩:=hw.own id' k' b hk' hm;have hk1:(H.set id ⟨k.e,k.ver+1,[]⟩)[id']? =some k':=by simp_all
  refine⟨C1,hle.toN _,?_,hf.mono hle⟩;have hlt:id'<(H.set id ⟨k.e,k.ver+1,[]⟩).length:=by simp_all
  refine⟨hw1.gl,hw1.base,hw1.tople,hw1.imm,by rw[hw1.len];simp,by rw[hw1.lenv];simp,by rw[hw1.lenc];simp,?_,?_,?_,hw1.disj,hw1.inj,hw1.minj⟩
  .intro i k2 hk2;rw[vG]at hk2;split at hk2
   .rename_i e;subst e;simp only[hlt,wN,qD.injEq]at hk2;subst hk2;exact hw1.ver id' k' hk1
   .exact hw1.ver i k2 hk2
  .intro i k2 hk2 hm2;rw[vG]at hk2;split at hk2
   .rename_i e;subst e;obtain⟨ver',e1,e2,e3⟩:=hle.ids id' k'.ver (hw.ver id' k' hk');have h2:=hw1.ver id' k' hk1;simp_all
   .exact hw1.gho i k2 hk2 hm2
  .intro i k2 b2 hk2 hm2;rw[vG]at hk2;split at hk2
   .rename_i e;subst e;simp only[hlt,wN,qD.injEq]at hk2;subst hk2;obtain⟨cur1,r3,r4,r5,r6,r7,r8⟩:=hw1.own id' k' b2 hk1 hm2;have hb:b2=b:=by obtain⟨ver',e1,e2,e3⟩:=hle.ids id' k'.ver (hw.ver id' k' hk');have h2:=hw1.ver id' k' hk1;simp_all
    subst hb;rw[q5]at r5;injection r5 with r5;injection r5 with r5;subst r5;refine⟨cur,r3,r4,q5,λz hz=> ?_,by simpa using r7,λi z u hz hu=> ?_⟩
    .rcases rW hz with hz|hz
     .simp_all
     .rw[hz];rfl
    grind
   .exact hw1.own i k2 b2 hk2 hm2
end Go.Proofs.YtleejngibkbjnaaGreatDoor.Pm
namespace Go.Proofs.YtleejngibkbjnaaGreatDoor.Pm
open Go.RowKit
variable {P:Program} {C:Ctx} {H:za} {w:World} {F:Fr} {a:Act} {N:Nat}
def eqL{α:Type}(f:α->α->Bool):List α->List α->Bool
 | [],[]=>true
 | x::xs,y::ys=>match f x y with|true=>eqL f xs ys|false=>false
 | _,_=>false
theorem zeY{α:Type}{f:α->α->Bool}(hf:∀ x y,f x y=true->x=y):∀{xs ys:List α},eqL f xs ys=true->xs=ys
 | [],[],_=>rfl
 | x::xs,y::ys,h=>by
  simp only[eqL]at h;split at h
  .rename_i h1;rw[hf _ _ h1,zeY hf h]
  .cases h
 | [],_::_,h=>by cases h
 | _::_,[],h=>by cases h
def eqb:Nat->PV->PV->Bool
 | 0,_,_=>false
 | _+1,.int k a,.int k' b=>decide (k=k')&&decide (a=b)
 | _+1,.bool a,.bool b=>a==b
 | _+1,.str a,.str b=>decide (a=b)
 | _+1,.nilp,.nilp=>true
 | _+1,.nl a,.nl b=>qB a b
 | _+1,.undef,.undef=>true
 | _+1,.ptr a b c,.ptr a' b' c'=>qB a a'&&qB b b'&&qB c c'
 | n+1,.ip xs o,.ip ys o'=>qB o o'&&eqL (eqb n) xs ys
 | n+1,.slice xs l f,.slice ys l' f'=>qB l l'&&(f==f')&&eqL (eqb n) xs ys
 | _+1,.msl a b c d e g,.msl a' b' c' d' e' g'=>qB a a'&&qB b b'&&qB c c'&&qB d d'&&qB e e'&&(g==g')
 | _+1,.mp a b,.mp a' b'=>qB a a'&&qB b b'
 | n+1,.agg xs,.agg ys=>eqL (eqb n) xs ys
 | n+1,.tup xs,.tup ys=>eqL (eqb n) xs ys
 | n+1,.func f xs us,.func f' ys vs=>qB f f'&&eqL (eqb n) xs ys&&eqL (eqb n) us vs
 | _+1,_,_=>false
theorem zgF:∀(n:Nat) (x y:PV),eqb n x y=true->x=y
 | 0,_,_,h=>by simp[eqb]at h
 | n+1,x,y,h=>by have ih:∀{xs ys:List PV},eqL (eqb n) xs ys=true->xs=ys:=λh=>zeY (zgF n) h;have nb:∀{a b:Nat},qB a b=true->a=b:=λh=>wC h;cases x<;>cases y<;>simp only[eqb,wX,gB,gY,wH]at h;all_goals grind
def ztV(a b:Blk):Bool:=qB a.e b.e&&qB a.ver b.ver&&eqL (eqb 20) a.cells b.cells
theorem zmO(a b:Blk)(h:ztV a b=true):a=b:=by simp only[ztV,gB]at h;cases a;cases b;grind[Nat.eq_of_beq_eq_true,zeY,zgF]
def eqH(a b:za):Bool:=eqL ztV a b
theorem zjI{a b:za}(h:eqH a b=true):a=b:=zeY zmO h
inductive Task where
 | code (N:Nat) (c:Code) (F:Fr) (H:za)
 | loop (N:Nat) (c:Code) (F:Fr) (H:za)
 | ops (d:Bool) (ds:List (Option Nat)) (l:List Oper) (F:Fr) (H:za)
 | call (f:FuncId) (args:List PV) (H:za)
inductive Res where
 | code (e:Exit) (F:Fr) (H:za)
 | val (v:PV) (H:za)
def zkD(ks:List Nat):Fr->List Nat
 | []=>ks
 | (t,_)::r=>match ks.any (qB t)with|true=>zkD ks r|false=>zkD (t::ks) r
def zb1(P:Program)(ih:Task->Option Res):Task->Option Res
 | .code N c F H=>match c with
  | .skip=>some (.code .normal F H)
  | .region _ ops d=>match ops.toList.all (zT N)&&(!d||(P.follows .mixedOrders&&zgH N ops.toList))with
   | true=>ih (.ops d (ops.toList.map (·.dst)) ops.toList F H)
   | false=>none
  | .seq x y=>match ih (.code N x F H)with
   | some (.code .normal F1 H1)=>ih (.code N y F1 H1)
   | r=>r
  | .cond c x y=>match ev (slot F) c with
   | .bool true=>ih (.code N x F H)
   | .bool false=>ih (.code N y F H)
   | _=>none
  | .block id x=>match ih (.code N x F H)with
   | some (.code (.exit id') F1 H1)=>match qB id' id with|true=>some (.code .normal F1 H1)|false=>some (.code (.exit id') F1 H1)
   | r=>r
  | .loop x=>ih (.loop N x F H)
  | .exit id=>some (.code (.exit id) F H)
  | .label _=>some (.code .normal F H)
  | .scope x=>match ih (.code N x F H)with
   | some (.code (.goto _) _ _)=>none
   | r=>r
  | .ret=>some (.code .ret F H)
  | _=>none
 | .loop N x F H=>match ih (.code N x F H)with
  | some (.code .normal F1 H1)=>ih (.loop N x (kp (zkD [] F1) F1) H1)
  | r=>r
 | .ops _ _ [] F H=>some (.code .normal F H)
 | .ops d ds (o::r) F H=>match zX o.op with
  | false=>match stp P ds o F H with
   | some (F1,H1)=>ih (.ops d ds r F1 H1)
   | none=>none
  | true=>match zbq ds F o with
   | some true=>match zt o.op (slot F)with
    | some (g,args)=>match d&&zb4 o.op with
     | true=>match args,ih (.call g [] [])with
      | [],some (.val v [])=>ih (.ops d ds r (put F o.dst v) H)
      | _,_=>none
     | false=>match ih (.call g args H)with
      | some (.val v H1)=>match !d||eqH H1 H with
       | true=>ih (.ops d ds r (put F o.dst v) H1)
       | false=>none
      | _=>none
    | none=>none
   | some false=>ih (.ops d ds r (put F o.dst (.tup [])) H)
   | none=>none
 | .call f args H=>match P.funcs[f]? with
  | some fn=>match fn.body with
   | some c=>match zaC P f&&Nat.ble args.length fn.ntmps with
    | true=>match ih (.code fn.ntmps c (zb9 args 0) H)with
     | some (.code e F1 H1)=>match (match e with| .ret=>true| .normal=>true|_=>false)with
      | true=>match zw P fn.results.toList (slot F1) H1 with
       | some v=>match eqH (H1.take H.length) H with
        | true=>match frz H.length H1 20 v with
         | some v1=>some (.val v1 H)
         | none=>some (.val v H1)
        | false=>some (.val v H1)
       | none=>none
      | false=>none
     | _=>none
    | false=>none
   | none=>none
  | none=>none
noncomputable def zjH(P:Program)(n:Nat):Task->Option Res:=n.rec (λ_=>none) (λ_ ih=>zb1 P ih)
def zzj(P:Program):Task->Res->Prop
 | .code N c F H,.code e F1 H1=>∀ H0,PW P ⟨N,H0⟩ c F H (λe' F' H'=>e'=e/\F'=F1/\H'=H1)
 | .loop N c F H,.code e F1 H1=>∀ H0,PL P ⟨N,H0⟩ c F H (λe' F' H'=>e'=e/\F'=F1/\H'=H1)
 | .ops false ds l F H,.code .normal F1 H1=>VO P ds l (some (F,H)) (λF' H'=>F'=F1/\H'=H1)
 | .ops true ds l F H,.code .normal F1 H1=>VOd P false ds l (some (F,H)) (λF' H'=>F'=F1/\H'=H1)
 | .call f args H,.val v H1=>CallOk P f args H v H1
 | _,_=>False
theorem zhH{ds:List (Option Nat)}{K K':Fr->za->Prop}(hk:∀ F H,K F H->K' F H):∀{l:List Oper} {s:Option (Fr×za)},VO P ds l s K->VO P ds l s K'
 | l,none,h=>by rw[zln]at h;exact h.elim
 | [],some (F,H),h=>hk F H h
 | o::r,some (F,H),h=>by
  cases hc:zX o.op with
  | false=>rw[zpR hc]at h |-;exact zhH hk h
  | true=>
   rw[zgb hc]at h |-;unfold VC at h |-;split at h
   .split at h
    .obtain⟨R,h1,h2⟩:=h;exact⟨R,h1,λv H' hR=>zhH hk (h2 v H' hR)⟩
    .exact h
   .exact zhH hk h
   .exact h
theorem zga{ds:List (Option Nat)}{K K':Fr->za->Prop}(hk:∀ F H,K F H->K' F H):∀{l:List Oper} {s:Option (Fr×za)},VOd P false ds l s K->VOd P false ds l s K'
 | l,none,h=>by rw[zi4]at h;exact h.elim
 | [],some (F,H),h=>hk F H h
 | o::r,some (F,H),h=>by
  rw[zcL]at h |-;cases hc:zX o.op with
  | false=>rw[hc]at h;exact zga hk h
  | true=>
   rw[hc]at h;simp only[VCd,VRd]at h |-;split at h
   .split at h
    .obtain⟨v,h1,h2⟩:=h;exact⟨v,h1,zga hk h2⟩
    .exact h
   .exact zga hk h
   .exact h
theorem znm{ih:Task->Option Res}(hih:∀ t r,ih t=some r->zzj P t r):∀ t r,zb1 P ih t=some r->zzj P t r:=by
 intro t r h;cases t with
 | code N c F H=>
  have sub:∀{x:Code} {F:Fr} {H:za} {r:Res},ih (.code N x F H)=some r->∃ e F1 H1,r= .code e F1 H1/\∀ H0,PW P ⟨N,H0⟩ x F H (λe' F' H'=>e'=e/\F'=F1/\H'=H1):=fun{x F H r} hx=>by
   have:=hih _ _ hx;cases r with
   | code e F1 H1=>exact⟨e,F1,H1,rfl,this⟩
   | val v H1=>exact this.elim
  cases c with
  | skip=>simp only[zb1,qD.injEq]at h;subst h;exact λH0=>PW.skip ⟨rfl,rfl,rfl⟩
  | exit id=>simp only[zb1,qD.injEq]at h;subst h;exact λH0=>PW.exit ⟨rfl,rfl,rfl⟩
  | label l=>simp only[zb1,qD.injEq]at h;subst h;exact λH0=>PW.label ⟨rfl,rfl,rfl⟩
  | ret=>simp only[zb1,qD.injEq]at h;subst h;exact λH0=>PW.ret ⟨rfl,rfl,rfl⟩
  | scope x=>
   simp only[zb1]at h;cases hx:ih (.code N x F H)with
   | none=>rw[hx]at h;cases h
   | some r1=>
    obtain⟨e,F1,H1,rfl,hp⟩:=sub hx;rw[hx]at h;cases e with
    | goto l=>cases h
    | _=>
     injection h with h;subst h;intro H0;refine .scope ((hp H0).mono ?_);rintro e' F' H' ⟨rfl,rfl,rfl⟩;exact⟨rfl,rfl,rfl⟩
  | region id ops d=>
   simp only[zb1]at h;split at h
   .rename_i hc;simp only[gB,wV,vR]at hc;have:=hih _ _ h;cases d with
    | false=>
     cases r with
     | val v H1=>exact this.elim
     | code e F1 H1=>
      cases e with
      | normal=>
       intro H0;refine .rg hc.1 λK hK=>zhH (λF' H' hq=>hK _ _ ?_) this;simp_all
      | _=>exact this.elim
    | true=>
     rcases hc.2 with h2|h2
     .cases h2
     .cases r with
      | val v H1=>exact this.elim
      | code e F1 H1=>
       cases e with
       | normal=>
        intro H0;refine .draw h2.1 h2.2 λK hK=>zga (λF' H' hq=>hK _ _ ?_) this;simp_all
       | _=>exact this.elim
   .cases h
  | seq x y=>
   simp only[zb1]at h;cases hx:ih (.code N x F H)with
   | none=>rw[hx]at h;cases h
   | some rx=>
    obtain⟨e,F1,H1,rfl,hp⟩:=sub hx;rw[hx]at h;cases e with
    | normal=>
     obtain⟨e2,F2,H2,rfl,hp2⟩:=sub h;intro H0;exact .seq ((hp H0).mono λe' F' H' hq=>by obtain⟨rfl,rfl,rfl⟩:=hq;exact hp2 H0)
    | _=>
     simp only[qD.injEq]at h;subst h;intro H0;exact .seq ((hp H0).mono λe' F' H' hq=>by obtain⟨rfl,rfl,rfl⟩:=hq;exact⟨rfl,rfl,rfl⟩)
  | cond c x y=>
   simp only[zb1]at h;split at h
   .rename_i hc;obtain⟨e2,F2,H2,rfl,hp2⟩:=sub h;exact λH0=>PW.cond hc (λ_=>hp2 H0) (λe=>by cases e)
   .rename_i hc;obtain⟨e2,F2,H2,rfl,hp2⟩:=sub h;exact λH0=>PW.cond hc (λe=>by cases e) (λ_=>hp2 H0)
   .cases h
  | block id x=>
   simp only[zb1]at h;cases hx:ih (.code N x F H)with
   | none=>rw[hx]at h;cases h
   | some rx=>
    obtain⟨e,F1,H1,rfl,hp⟩:=sub hx;rw[hx]at h;cases e with
    | exit id'=>
     simp only at h;split at h
     .rename_i hb;simp only[qD.injEq]at h;subst h;intro H0;exact .block ((hp H0).mono λe' F' H' hq=>by
       obtain⟨rfl,rfl,rfl⟩:=hq;simp only[zey];rw[gD (wC hb)];simp)
     .rename_i hb;simp only[qD.injEq]at h;subst h;intro H0;exact .block ((hp H0).mono λe' F' H' hq=>by
       obtain⟨rfl,rfl,rfl⟩:=hq;simp only[zey];rw[gC (by intro e;rw[e,Nat.beq_refl]at hb;cases hb)];simp)
    | _=>
     simp only[qD.injEq]at h;subst h;intro H0;exact .block ((hp H0).mono λe' F' H' hq=>by obtain⟨rfl,rfl,rfl⟩:=hq;exact⟨rfl,rfl,rfl⟩)
  | loop x=>
   simp only[zb1]at h;have:=hih _ _ h;cases r with
   | val v H1=>exact this.elim
   | code e F1 H1=>exact λH0=>PW.loop (this H0)
  | _=>simp[zb1]at h
 | loop N x F H=>
  simp only[zb1]at h;cases hx:ih (.code N x F H)with
  | none=>rw[hx]at h;cases h
  | some rx=>
   have h1:=hih _ _ hx;cases rx with
   | val v H1=>exact h1.elim
   | code e F1 H1=>
    rw[hx]at h;cases e with
    | normal=>
     have h2:=hih _ _ h;cases r with
     | val v H1=>exact h2.elim
     | code e2 F2 H2=>
      intro H0;refine .round ((h1 H0).mono λe' F' H' hq=> ?_);obtain⟨rfl,rfl,rfl⟩:=hq;exact .keep (zkD [] F') (h2 H0)
    | _=>
     simp only[qD.injEq]at h;subst h;intro H0;exact .round ((h1 H0).mono λe' F' H' hq=>by obtain⟨rfl,rfl,rfl⟩:=hq;exact⟨rfl,rfl,rfl⟩)
 | ops d ds l F H=>
  cases l with
  | nil=>simp only[zb1,qD.injEq]at h;subst h;cases d<;>exact⟨rfl,rfl⟩
  | cons o l=>
   simp only[zb1]at h;have rest:∀{F1:Fr} {H1:za},ih (.ops d ds l F1 H1)=some r->∃ F2 H2,r= .code .normal F2 H2/\(d=false->VO P ds l (some (F1,H1)) (λF' H'=>F'=F2/\H'=H2))/\(d=true->VOd P false ds l (some (F1,H1)) (λF' H'=>F'=F2/\H'=H2)):=fun{F1 H1} hx=>by
    have:=hih _ _ hx;cases r with
    | val v H1=>cases d<;>exact this.elim
    | code e F2 H2=>
     cases e with
     | normal=>cases d<;>exact⟨F2,H2,rfl,λe=>(by first|exact this|cases e),λe=>(by first|exact this|cases e)⟩
     | _=>cases d<;>exact this.elim
   split at h
   .rename_i hc;split at h
    .rename_i F1 H1 hs;obtain⟨F2,H2,rfl,h1,h2⟩:=rest h;cases d with
     | false=>show VO P ds (o::l) (some (F,H)) _;rw[zpR hc,hs];exact h1 rfl
     | true=>show VOd P false ds (o::l) (some (F,H)) _;rw[zcL,hc];show VOd P false ds l (stp P ds o F H) _;rw[hs];exact h2 rfl
    .cases h
   .rename_i hc;split at h
    .rename_i ha;split at h
     .rename_i g args hp;split at h
      .rename_i hpc;simp only[gB]at hpc;obtain⟨rfl,hpc⟩:=hpc;split at h
       .rename_i v hcall;have hk:CallOk P g [] [] v []:=hih _ _ hcall;have hall:∀ K,CallOk P g [] K v K:=λK=>hk.frame (λx hx=>by cases hx);obtain⟨F2,H2,rfl,h1,h2⟩:=rest h;show VOd P false ds (o::l) (some (F,H)) _;rw[zcL,hc];exact VCd.call ⟨hall H,λ_=>hall,λe=>by cases e⟩ ha hp (h2 rfl)
       .cases h
      rename_i hpc;split at h
      .rename_i v H1 hcall;split at h
       .rename_i hd;have hk:=hih _ _ hcall;obtain⟨F2,H2,rfl,h1,h2⟩:=rest h;cases d with
        | false=>
         show VO P ds (o::l) (some (F,H)) _;rw[zgb hc];exact VC.call hk ha hp (h1 rfl)
        | true=>have he:H1=H:=zjI (by simpa using hd);subst he;show VOd P false ds (o::l) (some (F,H1)) _;rw[zcL,hc];exact VCd.call ⟨hk,(λe=>by rw[e]at hpc;cases hpc),λe=>by cases e⟩ ha hp (h2 rfl)
       .cases h
      .cases h
     .cases h
    .rename_i ha;obtain⟨F2,H2,rfl,h1,h2⟩:=rest h;cases d with
     | false=>
      show VO P ds (o::l) (some (F,H)) _;rw[zgb hc];unfold VC;rw[ha];exact h1 rfl
     | true=>show VOd P false ds (o::l) (some (F,H)) _;rw[zcL,hc];simp only[VCd,ha];exact h2 rfl
    .cases h
 | call f args H=>
  simp only[zb1]at h;split at h
  .rename_i fn hf;split at h
   .rename_i c hb;split at h
    .rename_i hq;simp only[gB]at hq;split at h
     .rename_i e F1 H1 hcode;have hg:=hih _ _ hcode;split at h
      .rename_i he;split at h
       .rename_i v hres;have fin:∀ v1 H2,Fin H v1 H2 v H1->CallOk P f args H v1 H2:=λv1 H2 hfin=>by
         refine .body hf hb rfl rfl rfl hq.1 hq.2 ((hg H).mono λe' F' H' hq=> ?_);obtain⟨rfl,rfl,rfl⟩:=hq;cases e' with
         | ret=>exact⟨v,hres,hfin⟩
         | normal=>exact⟨v,hres,hfin⟩
         | _=>cases he
        split at h
        .rename_i hH;split at h
         .rename_i v1 hz;simp only[qD.injEq]at h;subst h;refine fin v1 H (.inr (.inl ⟨H1.drop H.length,20,?_,rfl,hz⟩));grind[zjI,List.take_append_drop]
         .simp only[qD.injEq]at h;subst h;exact fin v H1 (.inl ⟨rfl,rfl⟩)
        .simp only[qD.injEq]at h;subst h;exact fin v H1 (.inl ⟨rfl,rfl⟩)
       .cases h
      .cases h
     .cases h
    .cases h
   .cases h
  .cases h
theorem ziK:∀(n:Nat) (t:Task) (r:Res),zjH P n t=some r->zzj P t r
 | 0,t,r,h=>by cases h
 | n+1,t,r,h=>znm (ziK n) t r h
theorem CallOk.eval(n:Nat){f:FuncId}{args:List PV}{v:PV}(h:zjH P n (.call f args [])=some (.val v []))(hs:∀ x∈args,Scoped 0 x):CallOk P f args H v H:=(ziK n _ _ h).frame hs
def ztr:Option Res->Bool
 | some (.val (.bool true) [])=>true
 | _=>false
theorem CallOk.evalT(n:Nat){f:FuncId}(h:ztr (zjH P n (.call f [] []))=true):CallOk P f [] H (.bool true) H:=by refine .eval n ?_ (λx hx=>by cases hx);grind[ztr]
end Go.Proofs.YtleejngibkbjnaaGreatDoor.Pm
namespace Go.Proofs.YtleejngibkbjnaaGreatDoor.Pm
open Go.RowKit
variable {P:Program} {H:za} {F:Fr}
theorem znl(ds:List (Option Nat))(o:Oper):stp P ds o F H=match zbq ds F o with
  | none=>none
  | some b=>cond b (match pop P o.op (slot F) H with|some (v,H')=>some (put F o.dst v,H')|none=>none) (some (put F o.dst (.tup []),H)):=by
 unfold stp;cases zbq ds F o with
 | none=>rfl
 | some b=>cases b<;>rfl
theorem zg{ds:List (Option Nat)}{l:List Oper}{K:Fr->za->Prop}{x:Bool}{A B:Option (Fr×za)}(h1:x=true->VO P ds l A K)(h2:x=false->VO P ds l B K):VO P ds l (cond x A B) K:=by
 cases x with
 | true=>exact h1 rfl
 | false=>exact h2 rfl
theorem zr{g:Bool}{ds:List (Option Nat)}{l:List Oper}{K:Fr->za->Prop}{x:Bool}{A B:Option (Fr×za)}(h1:x=true->VOd P g ds l A K)(h2:x=false->VOd P g ds l B K):VOd P g ds l (cond x A B) K:=by
 cases x with
 | true=>exact h1 rfl
 | false=>exact h2 rfl
def VCx(P:Program)(o:Oper)(F:Fr)(H:za)(K:Fr->za->Prop):Prop:=
 match zt o.op (slot F)with
 | some (g,args)=>∃ R,CallEx P g args H R/\∀ v H',R v H'->K (put F o.dst v) H'
 | none=>False
def VCy(P:Program)(g:Bool)(o:Oper)(F:Fr)(H:za)(K:Fr->za->Prop):Prop:=
 match zt o.op (slot F)with
 | some (fn,args)=>∃ v,CallD P g o.op fn args H v/\K (put F o.dst v) H
 | none=>False
theorem zAD(ds:List (Option Nat))(o:Oper)(K:Fr->za->Prop):VC P ds o F H K=match zbq ds F o with
  | none=>False
  | some b=>(b=true->VCx P o F H K)/\(b=false->K (put F o.dst (.tup [])) H):=by
 unfold VC VCx;cases zbq ds F o with
 | none=>rfl
 | some b=>cases b<;>simp<;>exact Iff.rfl
theorem zzg(g:Bool)(ds:List (Option Nat))(o:Oper)(K:Fr->za->Prop):VCd P g ds o F H K=match zbq ds F o with
  | none=>False
  | some b=>(b=true->VCy P g o F H K)/\(b=false->K (put F o.dst (.tup [])) H):=by
 unfold VCd VCy;cases zbq ds F o with
 | none=>rfl
 | some b=>cases b<;>simp<;>exact Iff.rfl
theorem VCy.of{g:Bool}{o:Oper}{K:Fr->za->Prop}{fn:FuncId}{args:List PV}{v:PV}(h:CallD P g o.op fn args H v)(hc:zt o.op (slot F)=some (fn,args))(hk:K (put F o.dst v) H):VCy P g o F H K:=by unfold VCy;simp only[hc];exact⟨v,h,hk⟩
theorem VCz.call{o:Oper}{K:Fr->za->Prop}{g:FuncId}{args:List PV}{v:PV}(h:∀ L,CallOk P g args (H++L) v (H++L))(hc:zt o.op (slot F)=some (g,args))(hk:K (put F o.dst v) H)(hp:zb4 o.op=false:=by rfl):VCy P true o F H K:=VCy.of ⟨by have:=h [];rwa[gQ]at this,(λe=>by rw[hp]at e;cases e),λ_=>h⟩ hc hk
theorem VCx.call{o:Oper}{K:Fr->za->Prop}{g:FuncId}{args:List PV}{v:PV}{H':za}(h:CallOk P g args H v H')(hc:zt o.op (slot F)=some (g,args))(hk:K (put F o.dst v) H'):VCx P o F H K:=by unfold VCx;simp only[hc];exact⟨_,h.toEx,λv' H'' e=>by rw[e.1,e.2];exact hk⟩
theorem VCx.callR{o:Oper}{K:Fr->za->Prop}{g:FuncId}{args:List PV}{R:PV->za->Prop}(h:CallEx P g args H R)(hc:zt o.op (slot F)=some (g,args))(hk:∀ v H',R v H'->K (put F o.dst v) H'):VCx P o F H K:=by unfold VCx;simp only[hc];exact⟨R,h,hk⟩
theorem VCy.call{o:Oper}{K:Fr->za->Prop}{g:FuncId}{args:List PV}{v:PV}(h:CallOk P g args H v H)(hc:zt o.op (slot F)=some (g,args))(hk:K (put F o.dst v) H)(hp:zb4 o.op=false:=by rfl):VCy P false o F H K:=VCy.of ⟨h,(λe=>by rw[hp]at e;cases e),λe=>by cases e⟩ hc hk
theorem VCy.callP{b:Bool}{o:Oper}{K:Fr->za->Prop}{g:FuncId}{args:List PV}{v:PV}(h:∀ K,CallOk P g args K v K)(hc:zt o.op (slot F)=some (g,args))(hk:K (put F o.dst v) H):VCy P b o F H K:=VCy.of ⟨h H,λ_=>h,λ_ _=>h _⟩ hc hk
theorem zsD(k k':IntKind)(a b:Int):za7 .add k a k' b=if k=k' then some (.int k (k.wrap (a+b)))else none:=rfl
theorem zst(k k':IntKind)(a b:Int):za7 .sub k a k' b=if k=k' then some (.int k (k.wrap (a - b)))else none:=rfl
theorem zsx(k k':IntKind)(a b:Int):za7 .mul k a k' b=if k=k' then some (.int k (k.wrap (a * b)))else none:=rfl
theorem zsC(k k':IntKind)(a b:Int):za7 .eql k a k' b=if k=k' then some (.bool (a==b))else none:=rfl
theorem zsw(k k':IntKind)(a b:Int):za7 .neq k a k' b=if k=k' then some (.bool (a !=b))else none:=rfl
theorem zsy(k k':IntKind)(a b:Int):za7 .lss k a k' b=if k=k' then some (.bool (decide (a<b)))else none:=rfl
theorem zsz(k k':IntKind)(a b:Int):za7 .leq k a k' b=if k=k' then some (.bool (decide (a<=b)))else none:=rfl
theorem zsA(k k':IntKind)(a b:Int):za7 .gtr k a k' b=if k=k' then some (.bool (decide (b<a)))else none:=rfl
theorem zsB(k k':IntKind)(a b:Int):za7 .geq k a k' b=if k=k' then some (.bool (decide (b<=a)))else none:=rfl
theorem zsv(k k':IntKind)(a b:Int):za7 .quo k a k' b=if k=k' then(if b=0 then none else some (.int k (k.wrap (a.tdiv b))))else none:=rfl
theorem zsu(k k':IntKind)(a b:Int):za7 .rem k a k' b=if k=k' then(if b=0 then none else some (.int k (a.tmod b)))else none:=rfl
theorem hp4(H K:za)(a b c d e:Blk):(H++a::b::c::d::e::K)[H.length+4]? =some e:=by rw[gN om];simp
theorem hp5(H K:za)(a b c d e f:Blk):(H++a::b::c::d::e::f::K)[H.length+5]? =some f:=by rw[gN om];simp
theorem hp6(H K:za)(a b c d e f g:Blk):(H++a::b::c::d::e::f::g::K)[H.length+6]? =some g:=by rw[gN om];simp
theorem hs3(H K:za)(a b c d x:Blk):(H++a::b::c::d::K).set (H.length+3) x=H++a::b::c::x::K:=by rw[uC _ _ om];simp
theorem hs4(H K:za)(a b c d e x:Blk):(H++a::b::c::d::e::K).set (H.length+4) x=H++a::b::c::d::x::K:=by rw[uC _ _ om];simp
theorem hs5(H K:za)(a b c d e f x:Blk):(H++a::b::c::d::e::f::K).set (H.length+5) x=H++a::b::c::d::e::x::K:=by rw[uC _ _ om];simp
theorem hs6(H K:za)(a b c d e f g x:Blk):(H++a::b::c::d::e::f::g::K).set (H.length+6) x=H++a::b::c::d::e::f::x::K:=by rw[uC _ _ om];simp
theorem hl4(H:za)(a b c d:Blk):(H++[a,b,c,d]).length=H.length+4:=by simp
theorem hl5(H:za)(a b c d e:Blk):(H++[a,b,c,d,e]).length=H.length+5:=by simp
theorem hl6(H:za)(a b c d e f:Blk):(H++[a,b,c,d,e,f]).length=H.length+6:=by simp
attribute [go_sem] hp4 hp5 hp6 hs3 hs4 hs5 hs6 hl4 hl5 hl6 zsD zst zsx zsC zsw zsy zsz zsA zsB zsv zsu zAD zzg zaa zbe eff ztY zcd Op.operands true_implies Bool.true_eq_false Bool.false_eq_true VR zzf zwy VRd zwx zcL zX znl zbq zt pop zdL znZ zfF zil zdV zbP ev pvc pv1 slot put qB zmn zvq peq zdc zek zel zcl zjc za0 zdF List.range List.range.loop pun Option.map Option.bind ze3 zcb zml rd zim wr zef zcA zkz zcy zkw zaA zii zdW zcc zme zbI zgY zvu zqn zfH zH zss zd1 zer zhu PV.cells PV.cell zdG zcU zaV Option.isSome_some Option.isSome_none kp hp0 hp1 hp2 hp3 hs0 hs1 hs2 hl1 hl2 hl3 List.append_assoc Nat.beq_refl List.length_cons List.length_nil List.all_cons List.all_nil zM zcc List.replicate_succ List.replicate_zero List.flatten_cons List.flatten_nil List.take_succ_cons List.take_zero List.take_nil List.drop_succ_cons List.drop_zero List.drop_nil Nat.zero_mul Nat.sub_self true_implies false_implies and_true true_and false_and and_false and_self not_true_eq_false not_false_eq_true Bool.false_eq_true Bool.false_and Bool.and_false Bool.true_or Bool.or_true Bool.false_or Bool.or_false if_true if_false ite_true ite_false forall_const List.map_cons List.map_nil List.cons_append List.nil_append List.append_nil qF Nat.zero_add Nat.add_zero Nat.mul_one Nat.one_mul beq_self_eq_true Bool.true_and Bool.and_true List.getElem?_cons_succ List.getElem?_cons_zero List.getElem?_toArray List.set_cons_zero List.set_cons_succ beq_true beq_false Bool.not_true Bool.not_false decide_true decide_false cond_true cond_false zyB zyC w64 w8 w32 zAs zAt zAz zAA zAv zAw Int.toNat_natCast IntWalk.toNatUp
class Ld(P:Program)(E:Env)(c:Code)(Q:Exit->Fr->za->Prop)(r:outParam Code)(R:outParam (Exit->Fr->za->Prop)):Prop where
 h:∀ F H,PW P E r F H R->PW P E c F H Q
instance ld0{P:Program}{E:Env}{Q:Exit->Fr->za->Prop}{id:Nat}{ops:Array Oper}{b:Bool}:Ld P E (.region id ops b) Q (.region id ops b) Q:=⟨λ_ _ h=>h⟩
instance ld1{P:Program}{E:Env}{Q R:Exit->Fr->za->Prop}{x y r:Code}[k:Ld P E x (zhV (λF' H'=>PW P E y F' H' Q) Q) r R]:Ld P E (.seq x y) Q r R:=⟨λF H h=>PW.seq (k.h F H h)⟩
theorem PW.e{P:Program}{E:Env}{F:Fr}{H:za}{Q R:Exit->Fr->za->Prop}{c:Code}{id:Nat}{ops:Array Oper}{F':Fr}{H':za}[k:Ld P E c Q (.region id ops false) R](hq:R .normal F' H')(hd:ops.toList.all (zT E.N)=true:=by rfl)(h:∀ K:Fr->za->Prop,K F' H'->VO P (ops.toList.map (·.dst)) ops.toList (some (F,H)) K:=by(intro K k;simp(maxSteps:=9^9) (disch:=omega) only[go_sem];exact k)):PW P E c F H Q:=k.h _ _ (PW.rg hd λK hK=>h K (hK _ _ hq))
theorem PW.f{P:Program}{E:Env}{F:Fr}{H:za}{Q R:Exit->Fr->za->Prop}{c:Code}{id:Nat}{ops:Array Oper}{F':Fr}{H':za}[k:Ld P E c Q (.region id ops false) R](h:∀ K:Fr->za->Prop,K F' H'->VO P (ops.toList.map (·.dst)) ops.toList (some (F,H)) K)(hq:R .normal F' H')(hd:ops.toList.all (zT E.N)=true:=by rfl):PW P E c F H Q:=k.h _ _ (PW.rg hd λK hK=>h K (hK _ _ hq))
instance ld2{P:Program}{E:Env}{Q:Exit->Fr->za->Prop}{o:Operand}{a b:Code}:Ld P E (.cond o a b) Q (.cond o a b) Q:=⟨λ_ _ h=>h⟩
theorem PW.t{P:Program}{E:Env}{F:Fr}{H:za}{Q R:Exit->Fr->za->Prop}{c:Code}{o:Operand}{a b:Code}[k:Ld P E c Q (.cond o a b) R](h:PW P E a F H R)(e:ev (slot F) o= .bool true:=by rfl):PW P E c F H Q:=k.h _ _ (PW.cond e (λ_=>h) (λh=>by cases h))
theorem PW.u{P:Program}{E:Env}{F:Fr}{H:za}{Q R:Exit->Fr->za->Prop}{c:Code}{o:Operand}{a b:Code}[k:Ld P E c Q (.cond o a b) R](h:PW P E b F H R)(e:ev (slot F) o= .bool false:=by rfl):PW P E c F H Q:=k.h _ _ (PW.cond e (λh=>by cases h) (λ_=>h))
theorem PW.us{P:Program}{E:Env}{F:Fr}{H:za}{Q R:Exit->Fr->za->Prop}{c:Code}{o:Operand}{a:Code}[k:Ld P E c Q (.cond o a .skip) R](h:R .normal F H)(e:ev (slot F) o= .bool false:=by rfl):PW P E c F H Q:=PW.u (k:=k) (PW.skip h) e
theorem PW.g{P:Program}{E:Env}{F:Fr}{H:za}{Q R:Exit->Fr->za->Prop}{c:Code}{id:Nat}{ops:Array Oper}{F':Fr}{H':za}[k:Ld P E c Q (.region id ops false) R]{p:Prop}(x:p)(hq:R .normal F' H')(hd:ops.toList.all (zT E.N)=true:=by rfl)(h:∀ K:Fr->za->Prop,K F' H'->p->VO P (ops.toList.map (·.dst)) ops.toList (some (F,H)) K:=by(intro K k x;simp(maxSteps:=9^9) (disch:=omega) only[go_sem,x];exact k)):PW P E c F H Q:=k.h _ _ (PW.rg hd λK hK=>h K (hK _ _ hq) x)
theorem PW.k{P:Program}{E:Env}{F:Fr}{H:za}{Q R:Exit->Fr->za->Prop}{c:Code}{id:Nat}{ops:Array Oper}{F':Fr}{H':za}[k:Ld P E c Q (.region id ops false) R]{p:Prop}(x:p)(hq:R .normal F' H')(hd:ops.toList.all (zT E.N)=true:=by rfl)(h:∀ K:Fr->za->Prop,K F' H'->p->VO P (ops.toList.map (·.dst)) ops.toList (some (F,H)) K:=by(intro K k x;simp(maxSteps:=9^9) (disch:=omega) only[go_sem];refine VCx.call (x _) rfl ?_;simp(maxSteps:=9^9) (disch:=omega) only[go_sem];exact k)):PW P E c F H Q:=k.h _ _ (PW.rg hd λK hK=>h K (hK _ _ hq) x)
theorem PW.m{P:Program}{E:Env}{F:Fr}{H:za}{Q R:Exit->Fr->za->Prop}{c:Code}{id:Nat}{ops:Array Oper}{F':Fr}{H':za}[k:Ld P E c Q (.region id ops false) R]{p q:Prop}(y:q)(x:p)(hq:R .normal F' H')(hd:ops.toList.all (zT E.N)=true:=by rfl)(h:∀ K:Fr->za->Prop,K F' H'->q->p->VO P (ops.toList.map (·.dst)) ops.toList (some (F,H)) K:=by(intro K k y x;simp(maxSteps:=9^9) (disch:=omega) only[go_sem,y];refine VCx.call (x _) rfl ?_;simp(maxSteps:=9^9) (disch:=omega) only[go_sem,y];exact k)):PW P E c F H Q:=k.h _ _ (PW.rg hd λK hK=>h K (hK _ _ hq) y x)
theorem PW.m2{P:Program}{E:Env}{F:Fr}{H:za}{Q R:Exit->Fr->za->Prop}{c:Code}{id:Nat}{ops:Array Oper}{F':Fr}{H':za}[k:Ld P E c Q (.region id ops false) R]{p q r:Prop}(y:q)(x:p)(z:r)(hq:R .normal F' H')(hd:ops.toList.all (zT E.N)=true:=by rfl)(h:∀ K:Fr->za->Prop,K F' H'->q->p->r->VO P (ops.toList.map (·.dst)) ops.toList (some (F,H)) K:=by(intro K k y x z;simp(maxSteps:=9^9) (disch:=omega) only[go_sem,y];refine VCx.call (x _) rfl ?_;simp(maxSteps:=9^9) (disch:=omega) only[go_sem,y];refine VCx.call (z _) rfl ?_;simp(maxSteps:=9^9) (disch:=omega) only[go_sem,y];exact k)):PW P E c F H Q:=k.h _ _ (PW.rg hd λK hK=>h K (hK _ _ hq) y x z)
theorem CallOk.go{P:Program}{H:za}{N:Nat}{f:FuncId}{fn:Func}{c:Code}{rs:Array ResultVar}{F0:Fr}{args:List PV}{v:PV}{Hout:za}(hf:P.funcs[f]? =some fn)(hN:fn.ntmps=N)(hrs:fn.results=rs)(h:PW P ⟨N,H⟩ c F0 H (zqe P rs.toList (Fin H v Hout)))(hF:zb9 args 0=F0:=by(simp only[zb9,Nat.reduceAdd];rfl))(hb:fn.body=some c:=by rfl)(hcall:zaC P f=true:=by kernel_rfl)(hn:Nat.ble args.length N=true:=by rfl):CallOk P f args H v Hout:=CallOk.body hf hb hN hrs hF hcall hn h
theorem nq2{p q:Prop}(a:p)(b:q):p/\q:=⟨a,b⟩
instance ld3{P:Program}{E:Env}{Q:Exit->Fr->za->Prop}{id:Nat}{c:Code}:Ld P E (.block id c) Q (.block id c) Q:=⟨λ_ _ h=>h⟩
theorem PW.b{P:Program}{E:Env}{F:Fr}{H:za}{Q R:Exit->Fr->za->Prop}{c x:Code}{id:Nat}[k:Ld P E c Q (.block id x) R](h:PW P E x F H (zey id R)):PW P E c F H Q:=k.h _ _ (PW.block h)
theorem PW.l{P:Program}{E:Env}{F:Fr}{H:za}{Q R:Exit->Fr->za->Prop}{c x:Code}{id:Nat}[k:Ld P E c Q (.block id (.loop x)) R](h:PL P E x F H (zey id R)):PW P E c F H Q:=k.h _ _ (PW.block (PW.loop h))
theorem PW.c{P:Program}{E:Env}{F:Fr}{H:za}{Q R:Exit->Fr->za->Prop}{c:Code}{o:Operand}{a b:Code}{t:Bool}[k:Ld P E c Q (.cond o a b) R](h1:t=true->PW P E a F H R)(h2:t=false->PW P E b F H R)(e:ev (slot F) o= .bool t:=by rfl):PW P E c F H Q:=k.h _ _ (PW.cond e h1 h2)
theorem PW.v{P:Program}{E:Env}{F:Fr}{H:za}{Q:Exit->Fr->za->Prop}{rs:List ResultVar}{R:PV->Prop}(v:PV)(h:R v)(c:(∃ u,zw P rs (slot F) H=some u/\R u)=Q .ret F H:=by rfl)(e:zw P rs (slot F) H=some v:=by(simp(maxSteps:=9^9) (disch:=omega) only[go_sem,zw,zJ,uR,vA,uN,uD,uO,Array.toList])):PW P E .ret F H Q:=PW.ret (c▸⟨v,e,h⟩)
theorem PW.w{P:Program}{E:Env}{F:Fr}{H:za}{Q:Exit->Fr->za->Prop}{rs:List ResultVar}{R:PV->Prop}(v:PV){p:Prop}(x:p)(h:R v)(c:(∃ u,zw P rs (slot F) H=some u/\R u)=Q .ret F H:=by rfl)(e:p->zw P rs (slot F) H=some v:=by(intro x;simp(maxSteps:=9^9) (disch:=omega) only[go_sem,zw,zJ,uR,vA,uN,uD,uO,Array.toList,x])):PW P E .ret F H Q:=PW.ret (c▸⟨v,e x,h⟩)
attribute [go_sem] pappend.eq_1 znE
theorem nqb:(∀ b:Bool,((!b)=true)=(b=false))/\(∀ b:Bool,((!b)=false)=(b=true))/\(∀(p:Prop) [Decidable p],(decide p=true)=p)/\(∀(p:Prop) [Decidable p],(decide p=false)=¬ p):=⟨λb=>by cases b<;>simp,λb=>by cases b<;>simp,λp _=>by simp,λp _=>by simp⟩
theorem sqz{p q:Prop}(k:q)(h:q->p:=by(intro k;simp(maxSteps:=9^9) (disch:=omega) only[go_sem];exact k)):p:=h k
theorem sqx{p q f:Prop}(x:f)(k:q)(h:f->q->p:=by(intro x k;simp(maxSteps:=9^9) (disch:=omega) only[go_sem,x];exact k)):p:=h x k
theorem PW.x{P:Program}{E:Env}{F:Fr}{H:za}{Q R:Exit->Fr->za->Prop}{c:Code}{id:Nat}{ops:Array Oper}[k:Ld P E c Q (.region id ops false) R](h:∀ K:Fr->za->Prop,(∀ F' H',R .normal F' H'->K F' H')->VO P (ops.toList.map (·.dst)) ops.toList (some (F,H)) K)(hd:ops.toList.all (zT E.N)=true:=by rfl):PW P E c F H Q:=k.h _ _ (PW.rg hd h)
theorem PW.dn{P:Program}{E:Env}{F:Fr}{H:za}{Q R:Exit->Fr->za->Prop}{c:Code}{id:Nat}{ops:Array Oper}[k:Ld P E c Q (.region id ops true) R](h:∀ K:Fr->za->Prop,(∀ F' H',R .normal F' H'->K F' H')->VOd P false (ops.toList.map (·.dst)) ops.toList (some (F,H)) K)(hm:P.follows .mixedOrders=true:=by exact mix)(hd:zgH E.N ops.toList=true:=by kernel_rfl):PW P E c F H Q:=k.h _ _ (PW.drw hm hd h)
theorem PW.dg{P:Program}{E:Env}{F:Fr}{H:za}{Q R:Exit->Fr->za->Prop}{c:Code}{id:Nat}{ops:Array Oper}[k:Ld P E c Q (.region id ops true) R](h:∀ K:Fr->za->Prop,(∀ F' H',R .normal F' H'->K F' H')->VOd P true (ops.toList.map (·.dst)) ops.toList (some (F,H)) K)(hm:P.follows .mixedOrders=true:=by exact mix)(hd:zgH E.N ops.toList true=true:=by kernel_rfl):PW P E c F H Q:=k.h _ _ (PW.drw hm hd h)
theorem PL.a{P:Program}{E:Env}{F F1:Fr}{H H1:za}{Q:Exit->Fr->za->Prop}{c:Code}(h:PL P E c F1 H1 Q)(hF:kp (F1.map (·.1)) F=F1:=by rfl)(hH:H=H1:=by rfl):PL P E c F H Q:=PL.at _ h hF hH
theorem PW.a{P:Program}{E:Env}{F F1:Fr}{H H1:za}{Q:Exit->Fr->za->Prop}{c:Code}(h:PW P E c F1 H1 Q)(hF:kp (F1.map (·.1)) F=F1:=by rfl)(hH:H=H1:=by rfl):PW P E c F H Q:=PW.at _ h hF hH
end Go.Proofs.YtleejngibkbjnaaGreatDoor.Pm
namespace Go.Proofs.YtleejngibkbjnaaGreatDoor.Ty
open Pm
abbrev szB(k a b:Nat):Prop:=szT prog k=some a/\byT prog k=some b
abbrev szZ(k:Nat)(l:List PV):Prop:=zaL prog k=some l
theorem sz0:szB 0 1 0/\szB 1 1 8/\szB 2 1 8/\szB 3 1 8/\szB 4 1 1/\szB 5 1 1/\szB 6 1 1/\szB 7 4 24/\szB 8 4 24/\szB 9 1 16/\szB 10 1 16/\szB 11 1 16/\szB 13 2 24/\szB 15 1 8/\szB 16 1 8/\szB 18 1 8/\szB 19 1 8/\szB 20 1 16/\szB 21 1 4/\szB 22 1 24/\szB 23 1 8/\szB 24 1 24/\szB 25 1 8/\szB 26 1 8/\szB 27 1 24/\szB 28 5 88/\szB 29 5 88/\szB 30 11 136/\szB 31 11 136/\szB 32 1 8/\szB 33 2 16/\szB 34 2 16/\szB 35 64 64/\szB 36 135 184/\szB 37 135 184/\szB 38 3 16/\szB 39 3 16/\szB 40 6 32/\szB 41 6 32/\szB 42 1 24:=by and_intros<;>kernel_rfl
theorem sz40:szB 43 1 24/\szB 45 8 80/\szB 46 148 296/\szB 47 148 296/\szB 48 2 32/\szB 49 2 32/\szB 50 1 24/\szB 52 6 48/\szB 53 6 48/\szB 54 147 264/\szB 55 147 264/\szB 56 1 8/\szB 57 1 24/\szB 58 1 8/\szB 59 1 0/\szB 60 1 8/\szB 61 1 24/\szB 62 1 8/\szB 63 1 24/\szB 64 1 8/\szB 65 6 48/\szB 67 6 96/\szB 69 1 0/\szB 71 1 24/\szB 72 1 0/\szB 73 1 8/\szB 74 1 8/\szB 75 6 64/\szB 76 6 64/\szB 77 1 8/\szB 78 1 8/\szB 79 1 8/\szB 80 145 248/\szB 81 145 248/\szB 83 1 8/\szB 84 15 264/\szB 85 15 264/\szB 86 1 24/\szB 87 1 0/\szB 88 1 8:=by and_intros<;>kernel_rfl
theorem sz80:szB 89 1 8/\szB 90 1 0/\szB 91 1 8/\szB 92 145 296/\szB 93 145 296/\szB 95 1 8/\szB 96 1 8/\szB 97 1 8/\szB 98 1 24/\szB 99 1 0/\szB 100 1 8/\szB 101 3 40/\szB 102 3 40/\szB 103 5 56/\szB 104 5 56/\szB 105 1 8/\szB 107 2 16/\szB 108 1 8/\szB 110 1 8/\szB 111 1 8/\szB 112 139 216/\szB 113 139 216/\szB 114 1 0/\szB 115 1 8/\szB 116 1 8/\szB 117 1 8/\szB 118 1 8/\szB 119 1 8/\szB 120 1 8/\szB 121 1 8/\szB 122 1 8/\szB 124 1 8/\szB 126 1 0/\szB 127 1 8/\szB 128 1 24/\szB 129 1 0/\szB 130 1 8/\szB 131 2 2/\szB 133 2 16/\szB 134 4 32:=by and_intros<;>kernel_rfl
theorem zzH:szB 135 8 64/\szB 136 2 16/\szB 137 4 32/\szB 138 6 6/\szB 139 64 512/\szB 140 384 3072/\szB 141 408 3200/\szB 142 408 3200/\szB 145 4 24/\szB 148 1 8/\szB 149 1 24/\szB 150 1 8/\szB 152 4 32/\szB 155 1 8/\szB 158 1 8/\szB 159 1 8/\szB 160 1 8/\szB 161 1 8/\szB 164 1 8/\szB 166 1 0/\szB 169 1 8/\szB 170 1 8/\szB 171 1 8/\szB 172 1 8/\szB 174 1 8/\szB 175 1 8/\szB 176 1 8/\szB 177 1 8/\szB 178 1 8/\szB 179 1 0/\szB 180 1 8/\szB 181 1 0/\szB 183 1 4/\szB 184 1 0/\szB 185 1 8/\szB 186 3 24/\szB 188 8 64/\szB 190 1 0/\szB 196 1 8/\szB 200 1 0:=by and_intros<;>kernel_rfl
theorem zzG:szB 203 1 8/\szB 205 4 24/\szB 206 1 8/\szB 208 1 24/\szB 210 3 56/\szB 211 1 0/\szB 216 1 8/\szB 230 1 8/\szB 239 1 8/\szB 245 3 40/\szB 249 15 112/\szB 250 1 8/\szB 252 1 8/\szB 253 1 24/\szB 257 1 0/\szB 259 1 8/\szB 263 1 8/\szB 270 1 0/\szB 276 2 32/\szB 285 1 8/\szB 289 1 0/\szB 292 1 0/\szB 294 1 0/\szB 298 1 8/\szB 305 8 64/\szB 306 64 512/\szB 308 1 8/\szB 309 64 512/\szB 311 10 176/\szB 313 4 32/\szB 316 1 8/\szB 317 1 0/\szB 319 8 64/\szB 320 1 0/\szB 338 1 8/\szB 340 1 8/\szB 341 1 0/\szB 343 1 8/\szB 346 2 32/\szB 348 1 8:=by and_intros<;>kernel_rfl
theorem zzF:szB 350 1 8/\szB 356 1 8/\szB 363 1 8/\szB 371 4 40/\szB 372 4 40/\szB 375 0 0/\szB 380 1 4:=by and_intros<;>kernel_rfl
theorem zc0:szZ 2 [O J 0]/\szZ 3 [O J 0]/\szZ 4 [.bool false]/\szZ 5 [.int .u8 0]/\szZ 6 [.int .u8 0]/\szZ 7 [O J 0,O J 0,.bool false,.int .u8 0]/\szZ 8 [O J 0,O J 0,.bool false,.int .u8 0]/\szZ 9 [.str []]/\szZ 10 [.str []]/\szZ 11 [.str []]/\szZ 13 [.str [],.int .u64 0]/\szZ 15 [.nilp]/\szZ 16 [.nilp]/\szZ 18 [.nilp]/\szZ 19 [.nilp]/\szZ 21 [.int .i32 0]/\szZ 22 [.slice [] 0 true]/\szZ 24 [.slice [] 0 true]/\szZ 27 [.slice [] 0 true]/\szZ 28 [O J 0,O J 0,.slice [] 0 true,.slice [] 0 true,.slice [] 0 true]/\szZ 29 [O J 0,O J 0,.slice [] 0 true,.slice [] 0 true,.slice [] 0 true]/\szZ 30 [O J 0,O J 0,.slice [] 0 true,.slice [] 0 true,.slice [] 0 true,O J 0,O J 0,O J 0,.bool false,O J 0,.bool false]/\szZ 31 [O J 0,O J 0,.slice [] 0 true,.slice [] 0 true,.slice [] 0 true,O J 0,O J 0,O J 0,.bool false,O J 0,.bool false]/\szZ 33 [O J 0,O J 0]/\szZ 34 [O J 0,O J 0]/\szZ 35 (qA 64 (PV.int .u8 0):List PV)/\szZ 36 (([O J 0,O J 0,O J 0,O J 0,.bool false,O J 0,O J 0]:List PV)++(qA 128 (PV.int .u8 0):List PV))/\szZ 37 (([O J 0,O J 0,O J 0,O J 0,.bool false,O J 0,O J 0]:List PV)++(qA 128 (PV.int .u8 0):List PV))/\szZ 38 [.bool false,.bool false,O J 0]/\szZ 39 [.bool false,.bool false,O J 0]/\szZ 40 [O J 0,O J 0,O J 0,.bool false,.bool false,.bool false]/\szZ 41 [O J 0,O J 0,O J 0,.bool false,.bool false,.bool false]/\szZ 42 [.slice [] 0 true]/\szZ 43 [.slice [] 0 true]/\szZ 45 [O J 0,O J 0,O J 0,.bool false,.bool false,.bool false,.slice [] 0 true,.slice [] 0 true]/\szZ 46 (([O J 0,O J 0,O J 0,O J 0,O J 0,.bool false,O J 0,O J 0]:List PV)++(qA 128 (PV.int .u8 0):List PV)++([.bool false,.bool false,O J 0,O J 0,O J 0,O J 0,.bool false,.bool false,.bool false,.slice [] 0 true,.slice [] 0 true,O J 0]:List PV))/\szZ 47 (([O J 0,O J 0,O J 0,O J 0,O J 0,.bool false,O J 0,O J 0]:List PV)++(qA 128 (PV.int .u8 0):List PV)++([.bool false,.bool false,O J 0,O J 0,O J 0,O J 0,.bool false,.bool false,.bool false,.slice [] 0 true,.slice [] 0 true,O J 0]:List PV))/\szZ 48 [O J 0,.slice [] 0 true]/\szZ 49 [O J 0,.slice [] 0 true]/\szZ 50 [.slice [] 0 true]:=by and_intros<;>(show _=_;kernel_rfl)
theorem zc40:szZ 52 [O J 0,O J 0,O J 0,O J 0,O J 0,O J 0]/\szZ 53 [O J 0,O J 0,O J 0,O J 0,O J 0,O J 0]/\szZ 54 (([O J 0,O J 0,O J 0,O J 0,O J 0,O J 0,O J 0,O J 0,O J 0,O J 0,.bool false,O J 0,O J 0]:List PV)++(qA 128 (PV.int .u8 0):List PV)++([O J 0,O J 0,O J 0,.bool false,.bool false,.bool false]:List PV))/\szZ 55 (([O J 0,O J 0,O J 0,O J 0,O J 0,O J 0,O J 0,O J 0,O J 0,O J 0,.bool false,O J 0,O J 0]:List PV)++(qA 128 (PV.int .u8 0):List PV)++([O J 0,O J 0,O J 0,.bool false,.bool false,.bool false]:List PV))/\szZ 57 [.slice [] 0 true]/\szZ 58 [O J 0]/\szZ 61 [.slice [] 0 true]/\szZ 63 [.slice [] 0 true]/\szZ 65 [O J 0,O J 0,O J 0,O J 0,O J 0,O J 0]/\szZ 67 [O J 0,O J 0,.slice [] 0 true,.slice [] 0 true,.slice [] 0 true,.bool false]/\szZ 71 [.slice [] 0 true]/\szZ 75 [.slice [] 0 true,O J 0,O J 0,.bool false,O J 0,O J 0]/\szZ 76 [.slice [] 0 true,O J 0,O J 0,.bool false,O J 0,O J 0]/\szZ 80 (([O J 0,O J 0,O J 0,O J 0,O J 0,O J 0,.bool false,O J 0,O J 0]:List PV)++(qA 128 (PV.int .u8 0):List PV)++([O J 0,O J 0,O J 0,.bool false,.bool false,.bool false,.bool false,O J 0]:List PV))/\szZ 81 (([O J 0,O J 0,O J 0,O J 0,O J 0,O J 0,.bool false,O J 0,O J 0]:List PV)++(qA 128 (PV.int .u8 0):List PV)++([O J 0,O J 0,O J 0,.bool false,.bool false,.bool false,.bool false,O J 0]:List PV))/\szZ 84 [O J 0,O J 0,.slice [] 0 true,.slice [] 0 true,.slice [] 0 true,O J 0,O J 0,.slice [] 0 true,.slice [] 0 true,.slice [] 0 true,O J 0,O J 0,.slice [] 0 true,.slice [] 0 true,.slice [] 0 true]/\szZ 85 [O J 0,O J 0,.slice [] 0 true,.slice [] 0 true,.slice [] 0 true,O J 0,O J 0,.slice [] 0 true,.slice [] 0 true,.slice [] 0 true,O J 0,O J 0,.slice [] 0 true,.slice [] 0 true,.slice [] 0 true]/\szZ 86 [.slice [] 0 true]/\szZ 92 (([.slice [] 0 true,.bool false,O J 0,O J 0,O J 0,O J 0,.bool false,O J 0,O J 0]:List PV)++(qA 128 (PV.int .u8 0):List PV)++([O J 0,O J 0,.bool false,O J 0,O J 0,O J 0,.slice [] 0 true,.bool false]:List PV))/\szZ 93 (([.slice [] 0 true,.bool false,O J 0,O J 0,O J 0,O J 0,.bool false,O J 0,O J 0]:List PV)++(qA 128 (PV.int .u8 0):List PV)++([O J 0,O J 0,.bool false,O J 0,O J 0,O J 0,.slice [] 0 true,.bool false]:List PV))/\szZ 98 [.slice [] 0 true]/\szZ 101 [.slice [] 0 true,O J 0,.bool false]/\szZ 102 [.slice [] 0 true,O J 0,.bool false]/\szZ 103 [O J 0,.slice [] 0 true,O J 0,O J 0,O J 0]/\szZ 104 [O J 0,.slice [] 0 true,O J 0,O J 0,O J 0]/\szZ 107 [O J 0,O J 0]/\szZ 112 (([O J 0,O J 0,O J 0,O J 0,.bool false,O J 0,O J 0]:List PV)++(qA 128 (PV.int .u8 0):List PV)++([.bool false,O J 0,.bool false,O J 0]:List PV))/\szZ 113 (([O J 0,O J 0,O J 0,O J 0,.bool false,O J 0,O J 0]:List PV)++(qA 128 (PV.int .u8 0):List PV)++([.bool false,O J 0,.bool false,O J 0]:List PV))/\szZ 116 [.nilp]/\szZ 128 [.slice [] 0 true]/\szZ 131 [.bool false,.bool false]/\szZ 133 [O J 0,O J 0]/\szZ 134 [O J 0,O J 0,O J 0,O J 0]/\szZ 135 [O J 0,O J 0,O J 0,O J 0,O J 0,O J 0,O J 0,O J 0]/\szZ 136 [O J 0,O J 0]/\szZ 137 [O J 0,O J 0,O J 0,O J 0]/\szZ 138 [.bool false,.bool false,.bool false,.bool false,.bool false,.bool false]/\szZ 139 (qA 64 (PV.int .i64 0):List PV)/\szZ 140 (qA 384 (PV.int .i64 0):List PV)/\szZ 141 (([O J 0,.bool false,.bool false,.bool false,.bool false]:List PV)++(qA 13 (PV.int .i64 0):List PV)++([.bool false,.bool false,.bool false,.bool false,.bool false,.bool false]:List PV)++(qA 384 (PV.int .i64 0):List PV)):=by and_intros<;>(show _=_;kernel_rfl)
theorem zc80:szZ 142 (([O J 0,.bool false,.bool false,.bool false,.bool false]:List PV)++(qA 13 (PV.int .i64 0):List PV)++([.bool false,.bool false,.bool false,.bool false,.bool false,.bool false]:List PV)++(qA 384 (PV.int .i64 0):List PV))/\szZ 145 [O J 0,O J 0,.bool false,.bool false]/\szZ 149 [.slice [] 0 true]/\szZ 152 [O J 0,O J 0,O J 0,O J 0]/\szZ 170 [.int .u64 0]/\szZ 171 [.nilp]/\szZ 172 [.nilp]/\szZ 180 [.nilp]/\szZ 183 [.int .u32 0]/\szZ 186 [O J 0,O J 0,O J 0]/\szZ 188 [O J 0,O J 0,O J 0,O J 0,O J 0,O J 0,O J 0,O J 0]/\szZ 196 [.nilp]/\szZ 203 [.nilp]/\szZ 205 [O J 0,O J 0,.bool false,.bool false]/\szZ 208 [.slice [] 0 true]/\szZ 210 [O J 0,.slice [] 0 true,.slice [] 0 true]/\szZ 216 [.nilp]/\szZ 239 [.int .u64 0]/\szZ 245 [.slice [] 0 true,O J 0,O J 0]/\szZ 249 [O J 0,O J 0,O J 0,O J 0,O J 0,O J 0,O J 0,O J 0,.nilp,O J 0,O J 0,.bool false,.bool false,.nilp,.bool false]/\szZ 252 [.nilp]/\szZ 253 [.slice [] 0 true]/\szZ 276 [.slice [] 0 true,O J 0]/\szZ 285 [.nilp]/\szZ 298 [.nilp]/\szZ 305 [O J 0,O J 0,O J 0,O J 0,O J 0,O J 0,O J 0,O J 0]/\szZ 306 (qA 64 (PV.int .i64 0):List PV)/\szZ 309 (qA 64 (PV.int .i64 0):List PV)/\szZ 311 [O J 0,O J 0,.slice [] 0 true,.slice [] 0 true,.slice [] 0 true,O J 0,O J 0,.slice [] 0 true,.slice [] 0 true,.slice [] 0 true]/\szZ 313 [O J 0,O J 0,O J 0,O J 0]/\szZ 316 [.nilp]/\szZ 319 [O J 0,O J 0,O J 0,O J 0,O J 0,O J 0,O J 0,O J 0]/\szZ 338 [.nilp]/\szZ 340 [O J 0]/\szZ 346 [.slice [] 0 true,O J 0]/\szZ 350 [.nilp]/\szZ 371 [.nilp,.nilp,.nilp,.str []]/\szZ 372 [.nilp,.nilp,.nilp,.str []]/\szZ 375 []/\szZ 380 [.int .i32 0]:=by and_intros<;>(show _=_;kernel_rfl)
theorem mix:prog.follows .mixedOrders=true:=by kernel_rfl
attribute [go_sem] sz0 sz40 sz80 zzH zzG zzF zc0 zc40 zc80 underlying0 underlying1 underlying2 underlying3 underlying4 underlying5 underlying6 underlying7 underlying8 underlying9 underlying10 underlying11 underlying13 underlying15 underlying16 underlying18 underlying19 underlying20 underlying21 underlying22 underlying23 underlying24 underlying25 underlying26 underlying27 underlying28 underlying29 underlying30 underlying31 underlying32 underlying33
attribute [go_sem] underlying34 underlying35 underlying36 underlying37 underlying38 underlying39 underlying40 underlying41 underlying42 underlying43 underlying45 underlying46 underlying47 underlying48 underlying49 underlying50 underlying52 underlying53 underlying54 underlying55 underlying56 underlying57 underlying58 underlying59 underlying60 underlying61 underlying62 underlying63 underlying64 underlying65 underlying67 underlying69 underlying71 underlying72 underlying73 underlying74 underlying75 underlying76 underlying77 underlying78
attribute [go_sem] underlying79 underlying80 underlying81 underlying83 underlying84 underlying85 underlying86 underlying87 underlying88 underlying89 underlying90 underlying91 underlying92 underlying93 underlying95 underlying96 underlying97 underlying98 underlying99 underlying100 underlying101 underlying102 underlying103 underlying104 underlying105 underlying107 underlying108 underlying110 underlying111 underlying112 underlying113 underlying114 underlying115 underlying116 underlying117 underlying118 underlying119 underlying120 underlying121 underlying122
attribute [go_sem] underlying124 underlying126 underlying127 underlying128 underlying129 underlying130 underlying131 underlying133 underlying134 underlying135 underlying136 underlying137 underlying138 underlying139 underlying140 underlying141 underlying142 underlying145 underlying148 underlying149 underlying150 underlying152 underlying155 underlying158 underlying159 underlying160 underlying161 underlying164 underlying166 underlying169 underlying170 underlying171 underlying172 underlying174 underlying175 underlying176 underlying177 underlying178 underlying179 underlying180
attribute [go_sem] underlying181 underlying183 underlying184 underlying185 underlying186 underlying188 underlying190 underlying196 underlying200 underlying203 underlying205 underlying206 underlying208 underlying210 underlying211 underlying216 underlying230 underlying239 underlying245 underlying249 underlying250 underlying252 underlying253 underlying257 underlying259 underlying263 underlying270 underlying276 underlying285 underlying289 underlying292 underlying294 underlying298 underlying305 underlying306 underlying308 underlying309 underlying311 underlying313 underlying316
attribute [go_sem] underlying317 underlying319 underlying320 underlying338 underlying340 underlying341 underlying343 underlying346 underlying348 underlying350 underlying356 underlying363 underlying371 underlying372 underlying375 underlying380 eqGuardType35 eqGuardType131 eqGuardType134 eqGuardType135 eqGuardType136 eqGuardType137 eqGuardType138 eqGuardType139 eqGuardType140 eqGuardType186 eqGuardType305 eqGuardType306 eqGuardType309 eqGuardType311
end Go.Proofs.YtleejngibkbjnaaGreatDoor.Ty
namespace Go.Proofs.YtleejngibkbjnaaGreatDoor.Sc
open Pm Ty Go.RowKit
def bs(p:List UInt8):List PV:=p.map λb=>.int .u8 (b.toNat:Int)
theorem zd(p:List UInt8):(bs p).length=p.length:=by simp[bs]
def byt(p:List UInt8)(k:Nat):Int:=((p.getD k 0).toNat:Int)
theorem zR(p:List UInt8)(k:Nat):0<=byt p k/\byt p k<=255:=by unfold byt;have:=(p.getD k 0).toNat_lt;omega
theorem zak(p:List UInt8)(k:Nat)(h:k<p.length):(bs p)[k]? =some (.int .u8 (byt p k)):=by simp[bs,byt,h]
theorem zqs(p:List UInt8):zgy (bs p)=some p:=by
 unfold zgy bs;induction p with
 | nil=>rfl
 | cons b p ih=>simp[uR,Pm.byteOf,ih]
theorem zS(p q:List UInt8):bs (p++q)=bs p++bs q:=by simp[bs]
theorem zul(b:UInt8):bs [b]=[.int .u8 (b.toNat:Int)]:=rfl
theorem zy4(n:Nat):bs (qA n 0)=qA n (.int .u8 0):=by simp[bs]
theorem zh(n:Nat)(p:List UInt8):∀ x∈bs p,Scoped n x:=λx hx=>by obtain⟨b,_,rfl⟩:=vW.1 hx;exact .int _ _
theorem zk{n k:Nat}{xs:List PV}{f:Bool}(h:∀ x∈xs,Scoped n x):Scoped n (.slice xs k f):=.slice λj x hx=>h x (uE hx)
theorem zn{n:Nat}{xs:List PV}(h:∀ x∈xs,Scoped n x):Scoped n (.agg xs):=.agg λj x hx=>h x (uE hx)
theorem _root_.Go.Proofs.YtleejngibkbjnaaGreatDoor.Pm.Fz.id'{n:Nat}{H:za}{x y:PV}(e:x=y)(h:Scoped n y):Fz n H x y:=e▸.id (e▸h)
theorem ziZ(b:List UInt8)(i:Nat)(v:UInt8):(bs b).set i (.int .u8 (v.toNat:Int))=bs (b.set i v):=by simp[bs,List.map_set]
theorem zbY(p:List UInt8)(k:Nat):(bs p).drop k=bs (p.drop k):=by simp[bs]
theorem zbi(p:List UInt8)(k:Nat):(bs p).take k=bs (p.take k):=by simp[bs]
theorem zo1(k:IntKind):∀(p q:List UInt8),p.length=q.length->zel (.int k) (bs p) (bs q)=some (p==q)
 | [],[],_=>rfl
 | a::p,b::q,h=>by
  have ih:=zo1 k p q (by simpa using h);have e:((a.toNat:Int)==(b.toNat:Int))=(a==b):=by rw[gJ];simp only[wH];grind[UInt8.toNat_inj.1]
  simp_all[zek,zel,bs,none,vM]
 | [],_::_,h=>by simp at h
 | _::_,[],h=>by simp at h
theorem zhW(a b:Int): -(a.natAbs:Int)<=a.tdiv b/\a.tdiv b<=(a.natAbs:Int):=by
 have h:(a.tdiv b).natAbs<=a.natAbs:=by rw[Int.natAbs_tdiv];exact Nat.div_le_self _ _
 omega
theorem zjW(a b:Int)(h: -9223372036854775807<=a/\a<=9223372036854775807):IntKind.i64.wrap (a.tdiv b)=a.tdiv b:=by have:=zhW a b;exact w64 _ om
theorem zlD(x y:Nat):(x:Int).tmod (y:Int)=((x%y:Nat):Int):=by rfl
theorem zoH(a b:Nat):(a:Int).tdiv (b:Int)=((a / b:Nat):Int):=rfl
theorem zF(a b:Int)(h:0<=a):a.tdiv b=a / b:=wQ h
theorem zai(a b:Int)(h:0<=a):a.tmod b=a%b:=Int.tmod_eq_emod_of_nonneg h
theorem zi5(n:Int)(h:0<=n/\n<=18446744073709551615):IntKind.u64.wrap n=n:=by simp only[IntKind.wrap,IntKind.bits,IntKind.signed,vB,wX,sV];omega
theorem zzp(n:Int)(h: -18446744073709551616<=n/\n<0):IntKind.u64.wrap n=n+18446744073709551616:=by simp only[IntKind.wrap,IntKind.bits,IntKind.signed,vB,wX,sV];omega
def is(l:List Int):List PV:=l.map λn=>O J n
theorem zj(l:List Int):(is l).length=l.length:=by simp[is]
def ze(l:List Int)(k:Nat):Int:=l.getD k 0
theorem zQ(l:List Int)(i:Nat)(h:i<l.length):(is l)[i]? =some (O J (ze l i)):=by simp[is,ze,h]
theorem zqx(p q:List Int):is (p++q)=is p++is q:=by simp[is]
theorem zae(n:Nat)(p:List Int):∀ x∈is p,Scoped n x:=λx hx=>by obtain⟨b,_,rfl⟩:=vW.1 hx;exact .int _ _
theorem zaB(b:List Int)(i:Nat)(v:Int):(is b).set i (O J v)=is (b.set i v):=by simp[is,List.map_set]
theorem zeR(p:List Int)(k:Nat):(is p).drop k=is (p.drop k):=by simp[is]
theorem zdK(p:List Int)(k:Nat):(is p).take k=is (p.take k):=by simp[is]
theorem zfJ(k:IntKind):∀(p q:List Int),p.length=q.length->zel (.int k) (is p) (is q)=some (p==q)
 | [],[],_=>rfl
 | a::p,b::q,h=>by
  have ih:=zfJ k p q (by simpa using h);simp_all[zek,zel,is,none,vM]
 | [],_::_,h=>by simp at h
 | _::_,[],h=>by simp at h
def fs(l:List Bool):List PV:=l.map λb=>.bool b
theorem zyJ(l:List Bool):(fs l).length=l.length:=by simp[fs]
def zN(l:List Bool)(k:Nat):Bool:=l.getD k false
theorem zn4(l:List Bool)(i:Nat)(h:i<l.length):(fs l)[i]? =some (.bool (zN l i)):=by simp[fs,zN,h]
theorem zjC(n:Nat)(p:List Bool):∀ x∈fs p,Scoped n x:=λx hx=>by obtain⟨b,_,rfl⟩:=vW.1 hx;exact .bool _
theorem zsk(k':IntKind)(V s:Nat)(h:s<=32):za7 .shr .u32 (V:Int) k' (s:Int)=some (.int .u32 ((V / 2^s:Nat):Int)):=by simp only[za7,IntKind.bits];grind
theorem zvr(k':IntKind)(V s:Nat)(h:s<=8):za7 .shr .u8 (V:Int) k' (s:Int)=some (.int .u8 ((V / 2^s:Nat):Int)):=by simp only[za7,IntKind.bits];grind
theorem zqt(V:Nat):za7 .and .u32 (V:Int) .u32 1=some (.int .u32 ((V%2:Nat):Int)):=by
 have h0:(BitVec.ofInt 32 (V:Int)&&& BitVec.ofInt 32 1).toNat=V%2:=by simp_all
 have:(BitVec.ofInt IntKind.u32.bits (V:Int)&&& BitVec.ofInt IntKind.u32.bits 1).toNat=V%2:=h0;simp only[za7,this,wN];rw[w32 _ om]
theorem zsK(V:Nat):za7 .and .u8 (V:Int) .u8 1=some (.int .u8 ((V%2:Nat):Int)):=by
 have h0:(BitVec.ofInt 8 (V:Int)&&& BitVec.ofInt 8 1).toNat=V%2:=by simp_all
 have:(BitVec.ofInt IntKind.u8.bits (V:Int)&&& BitVec.ofInt IntKind.u8.bits 1).toNat=V%2:=h0;simp only[za7,this,wN];rw[w8 _ om]
theorem cnt{R:Nat->Prop}(n:Nat)(hs:∀ j,j<n->R (j+1)->R j)(hl:R n):∀ j,j<=n->R j:=λj hj=>by
 induction hd:n - j using qE generalizing j with
 | _ d ih=>grind
theorem zco{j n:Nat}(h:j<n):decide ((j:Int)<(n:Int))=true:=gX om
theorem zcP(n:Nat):decide ((n:Int)<(n:Int))=false:=gW om
def mbs(n most:Int):Bool:=decide (16<=n)&&decide (n<=most)&&(n.tmod 16==0)
theorem zyl(n most:Int)(H:za):CallOk prog 139 [O J n,O J most] H (.bool (mbs n most)) H:=by
 refine .go func139 ntmps139 results139 ?_;refine .e (.x λK hK=> ?_);simp(disch:=omega) only[go_sem];(repeat'((refine zg ?_ ?_)<;>intro h<;>(try simp only[nqb]at h)<;>simp(disch:=omega) only[go_sem,h]));all_goals(refine hK _ _ ?_)
 all_goals(refine .ret ⟨_,rfl,.inl ⟨?_,rfl⟩⟩;simp_all[mbs,slot,qB];try omega)
theorem zyI(x y:Nat)(H:za):CallOk prog 200 [.int .u64 (x:Int),.int .u64 (y:Int)] H (.int .u64 (qG x y:Int)) H:=by
 generalize hr:qG x y=r;refine .go func200 ntmps200 results200 ?_;refine .e (.l ?_);refine .a (?_:PL _ _ _ [(0,.int .u64 (x:Int)),(1,.int .u64 (y:Int))] H _);induction hm:y using qE generalizing x y with
 | _ n ih=>
  subst hm;refine .round (.e ?_);refine .c (λh=> ?_) (λh=> ?_)
  .have hy:y≠0:=by simp_all
   refine .skip (.b ?_);refine .dn λK hK=> ?_;simp(disch:=omega) only[go_sem,zlD];refine hK _ _ ?_;exact .a (ih (x%y) (rC _ om) y (x%y) (by rw[<-hr,sW x y,Nat.gcd_rec y x,sW]) rfl)
  .have hy:y=0:=by simpa using h
   subst hy;refine .exit (.e ?_);exact .ret ⟨_,rfl,.inl ⟨by rw[<-hr,Nat.gcd_zero_right];rfl,rfl⟩⟩
theorem zvU(x y:Nat)(H:za):CallOk prog 227 [.int .u64 (x:Int),.int .u64 (y:Int)] H (.int .u64 (qG x y:Int)) H:=by
 generalize hr:qG x y=r;refine .go func227 ntmps227 results227 ?_;refine .e (.l ?_);refine .a (?_:PL _ _ _ [(0,.int .u64 (x:Int)),(1,.int .u64 (y:Int))] H _);induction hm:y using qE generalizing x y with
 | _ n ih=>
  subst hm;refine .round (.e ?_);refine .c (λh=> ?_) (λh=> ?_)
  .have hy:y≠0:=by simp_all
   refine .skip (.b ?_);refine .dn λK hK=> ?_;simp(disch:=omega) only[go_sem,zlD];refine hK _ _ ?_;exact .a (ih (x%y) (rC _ om) y (x%y) (by rw[<-hr,sW x y,Nat.gcd_rec y x,sW]) rfl)
  .have hy:y=0:=by simpa using h
   subst hy;refine .exit (.e ?_);exact .ret ⟨_,rfl,.inl ⟨by rw[<-hr,Nat.gcd_zero_right];rfl,rfl⟩⟩
theorem zvJ(n:Int)(H:za)(hn: -9223372036854775808<=n/\n<=9223372036854775807):CallOk prog 201 [O J n] H (.int .u64 (n.natAbs:Int)) H:=by
 refine .go func201 ntmps201 results201 ?_;refine .e (.e ?_);refine .c (λh=> ?_) (λh=> ?_)
 .have h1:=vF h;refine .g @zzp ?_;refine .ret ⟨_,rfl,.inl ⟨?_,rfl⟩⟩;have e:(n.natAbs:Int)=0 - (n+18446744073709551616)+18446744073709551616:=om;rw[e];rfl
 .have h1:=vH h;refine .skip (.g @zi5 ?_);refine .ret ⟨_,rfl,.inl ⟨?_,rfl⟩⟩;have e:(n.natAbs:Int)=n:=om;rw[e];rfl
theorem zs8(n:Int)(H:za)(hn: -9223372036854775808<=n/\n<=9223372036854775807):CallOk prog 228 [O J n] H (.int .u64 (n.natAbs:Int)) H:=by
 refine .go func228 ntmps228 results228 ?_;refine .e (.e ?_);refine .c (λh=> ?_) (λh=> ?_)
 .have h1:=vF h;refine .g @zi5 ?_;refine .ret ⟨_,rfl,.inl ⟨?_,rfl⟩⟩;have e:(n.natAbs:Int)=0 - (n+1)+1:=om;rw[e];rfl
 .have h1:=vH h;refine .skip (.g @zi5 ?_);refine .ret ⟨_,rfl,.inl ⟨?_,rfl⟩⟩;have e:(n.natAbs:Int)=n:=om;rw[e];rfl
def zdU(num den:Int):Bool:=decide (1<=den)&&decide (-9223372036854775808<num)&&(qG num.natAbs den.natAbs==1)
theorem zye(num den:Int)(H:za)(hn: -9223372036854775808<=num/\num<=9223372036854775807)(hd: -9223372036854775808<=den/\den<=9223372036854775807):
  CallOk prog 140 [.agg [O J num,O J den]] H (.bool (zdU num den)) H:=by
 generalize hr:zdU num den=r;refine .go func140 ntmps140 results140 ?_;refine .e (.dn λK hK=> ?_);simp(disch:=omega) only[go_sem,zi5];(repeat'((refine zr ?_ ?_)<;>intro h<;>(try simp only[nqb]at h)<;>simp(disch:=omega) only[go_sem,zi5,h]))
 .rename_i h1;have e:den=((den.natAbs:Nat):Int):=om;have hg:=zyI num.natAbs den.natAbs (H++[⟨34,0,[O J num,O J den]⟩]);rw[<-e]at hg;refine VCy.call (zvJ _ _ hn) rfl ?_;simp(disch:=omega) only[go_sem,zi5];refine VCy.call (hg) rfl ?_;simp(disch:=omega) only[go_sem];refine hK _ _ ?_;refine .ret ⟨_,rfl,Fin.base (.id' ?_ (.bool _))⟩;rw[<-hr];simp[zdU,slot,qB,h,h1];rw[gJ];simp;omega
 all_goals(refine hK _ _ ?_)
 all_goals(refine .ret ⟨_,rfl,Fin.base (.id' ?_ (.bool _))⟩;rw[<-hr];simp_all[zdU,slot,qB];try omega)
theorem zfA(num den:Int)(H:za)(hn: -9223372036854775808<=num/\num<=9223372036854775807)(hd: -9223372036854775808<=den/\den<=9223372036854775807):
  CallOk prog 172 [.agg [O J num,O J den]] H (.bool (zdU num den)) H:=by
 generalize hr:zdU num den=r;refine .go func172 ntmps172 results172 ?_;refine .e (.dn λK hK=> ?_);simp(disch:=omega) only[go_sem,zi5];(repeat'((first|refine zg ?_ ?_|refine zr ?_ ?_|refine VOg_cond ?_ ?_|refine VOh_cond ?_ ?_|refine zV ?_ ?_|refine uI ?_ ?_)<;>intro h<;>(try simp only[nqb]at h)<;>simp(disch:=omega) only[go_sem,zi5,h]))
 .rename_i h1;have e:den=((den.natAbs:Nat):Int):=om;have hg:=zvU num.natAbs den.natAbs (H++[⟨34,0,[O J num,O J den]⟩]);rw[<-e]at hg;refine VCy.call (zs8 _ _ hn) rfl ?_;simp(disch:=omega) only[go_sem,zi5];refine VCy.call (hg) rfl ?_;simp(disch:=omega) only[go_sem];refine hK _ _ ?_;refine .ret ⟨_,rfl,Fin.base (.id' ?_ (.bool _))⟩;rw[<-hr];have h2: -9223372036854775808<num:=om;simp[zdU,slot,qB,h,h1,h2];rw[gJ];simp;omega
 all_goals(refine hK _ _ ?_)
 all_goals(refine .ret ⟨_,rfl,Fin.base (.id' ?_ (.bool _))⟩;rw[<-hr];clear hr)
 .have h2:¬ -9223372036854775808<num:=om;simp[zdU,slot,qB,h2]
 .simp_all[zdU,slot,qB];try omega
structure Sq where
 w:Int
 h:Int
 num:Int
 den:Int
 il:Bool
 br:Int
 bf:Int
 ia:List UInt8
 ie:List UInt8
def sqc(s:Sq):List PV:=O J s.w:: O J s.h:: O J s.num:: O J s.den:: .bool s.il:: O J s.br:: O J s.bf::(bs s.ia++bs s.ie)
def zgD(n:Int):Prop:= -9223372036854775808<=n/\n<=9223372036854775807
structure SqOk(s:Sq):Prop where
 w: -9223372036854775808<=s.w/\s.w<=9223372036854775807
 h: -9223372036854775808<=s.h/\s.h<=9223372036854775807
 num: -9223372036854775808<=s.num/\s.num<=9223372036854775807
 den: -9223372036854775808<=s.den/\s.den<=9223372036854775807
 br: -9223372036854775808<=s.br/\s.br<=9223372036854775807
 bf: -9223372036854775808<=s.bf/\s.bf<=9223372036854775807
 ia:s.ia.length=64
 ie:s.ie.length=64
theorem zaf(n:Nat)(s:Sq):∀ x∈sqc s,Scoped n x:=λx hx=>by simp only[sqc,gM,uF]at hx;rcases hx with rfl|rfl|rfl|rfl|rfl|rfl|rfl|hx|hx;all_goals first|exact .int _ _|exact .bool _|exact zh n _ x hx
theorem zgU(p q:List UInt8)(h:p.length=64):(bs p++bs q).take 64=bs p:=by simp_all[rM,zd,gH]
theorem zgT(p q:List UInt8)(h:p.length=64):(bs p++bs q).drop 64=bs q:=by simp_all[List.drop_append_of_le_length,zd,uB,vC]
theorem zfx(q:List UInt8)(h:q.length=64):(bs q).take 64=bs q:=gH (by rw[zd];omega)
theorem zke(p q:List UInt8)(h:p.length=64)(h':q.length=64):(bs p++bs q).take 128=bs p++bs q:=gH (by rw[gP,zd,zd];omega)
def zaM(m:List UInt8):Bool:=m.all λb=>decide (8<=b.toNat)
theorem zo6(m:List UInt8)(k:Nat)(hk:k<=m.length):(m.drop k).all (λb=>decide (8<=b.toNat))=if k<m.length then decide (8<=byt m k)&&(m.drop (k+1)).all (λb=>decide (8<=b.toNat))else true:=by grind[List.drop_eq_getElem_cons,byt,List.drop_of_length_le]
theorem zms(m:List UInt8)(H:za)(hl:m.length=64):CallOk prog 90 [.agg (bs m)] H (.bool (zaM m)) H:=by
 refine .go func90 ntmps90 results90 ?_;have hall:(bs m).all PV.cell=true:=by simp[bs,PV.cell]
 refine .g hall ?_;refine .f (λK k=>by simp(disch:=omega) only[go_sem,zd,zfx];exact k) ?_;refine .l ?_;suffices hloop:∀(k:Nat),k<=64->zaM m=(m.drop k).all (λb=>decide (8<=b.toNat))->PL prog _ _ [(5,.agg (bs m)),(6,O J (k:Int))] (H++[⟨35,0,bs m⟩]) _ by exact .a (hloop 0 om (by simp[zaM]))
 intro k hk heq;induction hm:64 - k using qE generalizing k with
 | _ n ih=>
  rw[zo6 m k om]at heq;refine .round (.e ?_);refine .c (λh=> ?_) (λh=> ?_)
  .have h4:k<64:=by grind
   rw[gD om]at heq;refine .skip (.b ?_);refine .g @zak ?_;refine .e ?_;refine .c (λh=> ?_) (λh=> ?_)
   .have h5:=vF h;refine .e (.ret ⟨_,rfl,Fin.base (.id' ?_ (.bool _))⟩);grind[slot,qB]
   .have h5:=vH h;refine .skip (.e ?_);refine .a (ih (64 - (k+1)) om (k+1) om ?_ rfl);simp_all
  .have h4:¬ k<64:=by grind
   rw[gC om]at heq;refine .exit (.e ?_);refine .ret ⟨_,rfl,Fin.base (.id' ?_ (.bool _))⟩;rw[heq];rfl
theorem ziv(m:List UInt8)(H:za)(hl:m.length=64):CallOk prog 173 [.agg (bs m)] H (.bool (zaM m)) H:=by
 refine .go func173 ntmps173 results173 ?_;have hall:(bs m).all PV.cell=true:=by simp[bs,PV.cell]
 refine .g hall ?_;refine .e (.l ?_);suffices hloop:∀(k:Nat),k<=64->zaM m=(m.drop k).all (λb=>decide (8<=b.toNat))->PL prog _ _ [(1,.ptr H.length 0 0),(3,O J (k:Int))] (H++[⟨35,0,bs m⟩]) _ by exact .a (hloop 0 om (by simp[zaM]))
 intro k hk heq;induction hm:64 - k using qE generalizing k with
 | _ n ih=>
  rw[zo6 m k om]at heq;refine .round (.e ?_);refine .c (λh=> ?_) (λh=> ?_)
  .have h4:k<64:=by grind
   rw[gD om]at heq;refine .skip (.b ?_);refine .g @zak ?_;refine .c (λh=> ?_) (λh=> ?_)
   .have h5:=vF h;refine .e (.ret ⟨_,rfl,Fin.base (.id' ?_ (.bool _))⟩);grind[slot,qB]
   .have h5:=vH h;refine .skip (.e ?_);refine .a (ih (64 - (k+1)) om (k+1) om ?_ rfl);simp_all
  .have h4:¬ k<64:=by grind
   rw[gC om]at heq;refine .exit (.e ?_);refine .ret ⟨_,rfl,Fin.base (.id' ?_ (.bool _))⟩;rw[heq];rfl
def bn(l:List Bool)(k:Nat):Nat:=(l[k]?.getD false).toNat
def zbl(V n:Nat):List Bool:=(List.range n).map λi=>decide (V / 2^(n - 1 - i)%2=1)
theorem zbN(V n:Nat):(zbl V n).length=n:=by simp[zbl]
theorem znc(V n i:Nat)(h:i<n):(zbl V n).take (i+1)=(zbl V n).take i++[decide (V / 2^(n - 1 - i)%2=1)]:=by rw[List.take_succ_eq_append_getElem (by rw[zbN];exact h)];simp[zbl]
theorem zam{H:za}{i:Nat}{A:Blk}(h:H[i]? =some A):H.set i A=H:=by
 apply dG;intro j;rw[vG];split
 .rename_i e;subst e;split
  .exact h.symm
  .rename_i hn;exact absurd (gA.1 h).1 hn
 .rfl
theorem zzx(x:Nat):(x:Int).tmod 8=((x%8:Nat):Int):=zlD x 8
theorem zzz(x:Nat):(x:Int).tdiv 8=((x / 8:Nat):Int):=zoH x 8
structure Fm where
 w:Int
 h:Int
 y:List UInt8
 u:List UInt8
 v:List UInt8
def fmc(f:Fm):List PV:=[O J f.w,O J f.h,.slice (bs f.y) f.y.length false,.slice (bs f.u) f.u.length false,.slice (bs f.v) f.v.length false]
def fsz(w h:Int):Bool:=decide (2<=w)&&(decide (w<=64)&&(decide (w%2=0)&&(decide (2<=h)&&(decide (h<=64)&&decide (h%2=0)))))
def fmd(f:Fm):Bool:=fsz f.w f.h&&(decide ((f.y.length:Int)=f.w * f.h)&&(decide ((f.u.length:Int)=f.w / 2 * (f.h / 2))&&decide ((f.v.length:Int)=f.w / 2 * (f.h / 2))))
def fvd(f:Fm):Bool:=fmd f&&(decide (f.w%16=0)&&decide (f.h%16=0))
theorem za8{w h:Int}(e:fsz w h=true):2<=w/\w<=64/\w%2=0/\2<=h/\h<=64/\h%2=0:=by simpa[fsz]using e
theorem zo8{a b:Int}(h:0<=a/\a<=64/\0<=b/\b<=64):0<=a * b/\a * b<=4096:=by
 refine⟨mJ om om,?_⟩;calc a * b<=64 * 64:=mK om om om om
  _=4096:=by decide
theorem zkO(w ht:Int)(H:za):CallOk prog 98 [O J w,O J ht] H (.bool (fsz w ht)) H:=by refine .go func98 ntmps98 results98 ?_;(repeat'(first|refine .seq ?_|((refine .rg rfl λK hK=> ?_);simp(disch:=omega) only[go_sem,zai])|((refine zg ?_ ?_)<;>intro h<;>(try simp only[nqb]at h)<;>simp(disch:=omega) only[go_sem,zai,h])|(refine hK _ _ ?_)));all_goals((refine .ret ⟨_,rfl,?_⟩;refine .inl ⟨?_,rfl⟩);(simp_all[fsz,slot,qB]<;>first|rfl|omega))
theorem za1(f:Fm)(H:za):CallOk prog 50 [.agg (fmc f)] H (.bool (fmd f)) H:=by
 obtain⟨w,ht,y,u,v⟩:=f;refine .body (F0:=[(0,.agg [O J w,O J ht,.slice (bs y) y.length false,.slice (bs u) u.length false,.slice (bs v) v.length false])]) func50 rfl ntmps50 results50 rfl kr rfl ?_;refine .e ?_;cases hs:fsz w ht
 .have hc:=λH=>zkO w ht H;simp only[hs]at hc;refine .x λK hK=> ?_;simp(disch:=omega) only[go_sem];(repeat'(((refine VCx.call (hc _) rfl ?_);simp(disch:=omega) only[go_sem])));all_goals(refine hK _ _ ?_;(refine .ret ⟨_,rfl,?_⟩;refine .base (.id' ?_ (.bool _)));simp[fmd,hs,slot,qB])
 .have hc:=λH=>zkO w ht H;simp only[hs]at hc;obtain⟨g1,g2,g3,g4,g5,g6⟩:=za8 hs;have m1:=zo8 (a:=w) (b:=ht) om;have m2:=zo8 (a:=w / 2) (b:=ht / 2) om;refine .x λK hK=> ?_;simp(disch:=omega) only[go_sem];(repeat'(first|((refine zg ?_ ?_)<;>intro h<;>(try simp only[nqb]at h)<;>simp(disch:=omega) only[go_sem,zF,h])|((refine VCx.call (hc _) rfl ?_);simp(disch:=omega) only[go_sem,zF])));all_goals(refine hK _ _ ?_;clear hK hc;(refine .ret ⟨_,rfl,?_⟩;refine .base (.id' ?_ (.bool _)));(simp_all[fmd,slot,qB]<;>rfl))
theorem zaU(f:Fm)(H:za):CallOk prog 113 [.agg (fmc f)] H (.bool (fmd f)) H:=by
 obtain⟨w,ht,y,u,v⟩:=f;refine .body (F0:=[(0,.agg [O J w,O J ht,.slice (bs y) y.length false,.slice (bs u) u.length false,.slice (bs v) v.length false])]) func113 rfl ntmps113 results113 rfl kr rfl ?_;refine .e ?_;(repeat refine .seq ?_);refine .rgv (P:=prog) [1] 32 (.bool (!(fsz w ht))) ?_ ?_ ?_
 .rfl
 .simp(disch:=omega) only[go_sem];(repeat'((first|refine zg ?_ ?_|refine zr ?_ ?_|refine VOg_cond ?_ ?_|refine VOh_cond ?_ ?_|refine zV ?_ ?_|refine uI ?_ ?_)<;>intro h<;>(try simp only[nqb]at h)<;>simp(disch:=omega) only[go_sem,zai,h]));all_goals(simp_all[fsz,slot,qB]<;>first|rfl|omega|(rw[gJ];simp;done)|(rw[gJ];simp;omega))
 refine .c (λh=> ?_) (λh=> ?_)
 .have hs:fsz w ht=false:=by simpa using h
  refine .e ?_;(refine .ret ⟨_,rfl,?_⟩;first|refine .inl ⟨?_,rfl⟩|refine .base (.id' ?_ (.bool _))|refine .base (.id' ?_ (.int _ _)));simp[fmd,hs,slot,qB]
 .have hs:fsz w ht=true:=by simpa using h
  obtain⟨g1,g2,g3,g4,g5,g6⟩:=za8 hs;have m1:=zo8 (a:=w) (b:=ht) om;have m2:=zo8 (a:=w / 2) (b:=ht / 2) om;refine .skip (.x λK hK=> ?_);simp(disch:=omega) only[go_sem,zF];(repeat'((first|refine zg ?_ ?_|refine zr ?_ ?_|refine VOg_cond ?_ ?_|refine VOh_cond ?_ ?_|refine zV ?_ ?_|refine uI ?_ ?_)<;>intro h<;>(try simp only[nqb]at h)<;>simp(disch:=omega) only[go_sem,zF,h]));all_goals(refine hK _ _ ?_;clear hK;(refine .ret ⟨_,rfl,?_⟩;first|refine .inl ⟨?_,rfl⟩|refine .base (.id' ?_ (.bool _))|refine .base (.id' ?_ (.int _ _)));(simp_all[fmd,slot,qB]<;>first|rfl|omega|(rw[gJ];simp;done)|(rw[gJ];simp;omega)))
theorem zhO(f:Fm)(H:za):CallOk prog 169 [.agg (fmc f)] H (.bool (fvd f)) H:=by
 have hc:=λH=>za1 f H;generalize hfv:fvd f=r;obtain⟨w,ht,y,u,v⟩:=f;refine .body (F0:=[(0,.agg [O J w,O J ht,.slice (bs y) y.length false,.slice (bs u) u.length false,.slice (bs v) v.length false])]) func169 rfl ntmps169 results169 rfl kr rfl ?_;refine .e ?_;cases hs:fmd ⟨w,ht,y,u,v⟩
 .simp only[hs]at hc;refine .x λK hK=> ?_;simp(disch:=omega) only[go_sem];(repeat'(((refine VCx.call (hc _) rfl ?_);simp(disch:=omega) only[go_sem])));all_goals(refine hK _ _ ?_;clear hK hc;(refine .ret ⟨_,rfl,?_⟩;refine .base (.id' ?_ (.bool _)));simp[<-hfv,fvd,hs,slot,qB])
 .simp only[hs]at hc;have hz:fsz w ht=true:=by simp[fmd]at hs;exact hs.1
  obtain⟨g1,g2,g3,g4,g5,g6⟩:=za8 hz;refine .x λK hK=> ?_;simp(disch:=omega) only[go_sem];(repeat'(first|((refine zg ?_ ?_)<;>intro h<;>(try simp only[nqb]at h)<;>simp(disch:=omega) only[go_sem,zai,h])|((refine VCx.call (hc _) rfl ?_);simp(disch:=omega) only[go_sem,zai])));all_goals(refine hK _ _ ?_;clear hK hc;(refine .ret ⟨_,rfl,?_⟩;refine .base (.id' ?_ (.bool _)));subst hfv;(simp_all[fvd,slot,qB]<;>rfl))
theorem zjh(f:Fm)(H:za):CallOk prog 233 [.agg (fmc f)] H (.bool (fvd f)) H:=by
 have hc:=λH=>zaU f H;generalize hfv:fvd f=r;obtain⟨w,ht,y,u,v⟩:=f;refine .body (F0:=[(0,.agg [O J w,O J ht,.slice (bs y) y.length false,.slice (bs u) u.length false,.slice (bs v) v.length false])]) func233 rfl ntmps233 results233 rfl kr rfl ?_;refine .e ?_;cases hs:fmd ⟨w,ht,y,u,v⟩
 .simp only[hs]at hc;refine .x λK hK=> ?_;simp(disch:=omega) only[go_sem];(repeat'(first|((first|refine zg ?_ ?_|refine uI ?_ ?_)<;>intro h<;>(try simp only[nqb]at h)<;>simp(disch:=omega) only[go_sem,h])|((refine VCx.call (hc _) rfl ?_);simp(disch:=omega) only[go_sem])));all_goals(refine hK _ _ ?_;clear hK hc;(refine .ret ⟨_,rfl,?_⟩;first|refine .inl ⟨?_,rfl⟩|refine .base (.id' ?_ (.bool _))|refine .base (.id' ?_ (.int _ _)));simp[<-hfv,fvd,hs,slot,qB])
 .simp only[hs]at hc;have hz:fsz w ht=true:=by simp[fmd]at hs;exact hs.1
  obtain⟨g1,g2,g3,g4,g5,g6⟩:=za8 hz;refine .x λK hK=> ?_;simp(disch:=omega) only[go_sem];(repeat'(first|((first|refine zg ?_ ?_|refine uI ?_ ?_)<;>intro h<;>(try simp only[nqb]at h)<;>simp(disch:=omega) only[go_sem,zai,h])|((refine VCx.call (hc _) rfl ?_);simp(disch:=omega) only[go_sem,zai])));all_goals(refine hK _ _ ?_;clear hK hc;(refine .ret ⟨_,rfl,?_⟩;first|refine .inl ⟨?_,rfl⟩|refine .base (.id' ?_ (.bool _))|refine .base (.id' ?_ (.int _ _)));subst hfv;(simp_all[fvd,slot,qB]<;>first|rfl|omega|(rw[gJ];simp;done)|(rw[gJ];simp;omega)))
end Go.Proofs.YtleejngibkbjnaaGreatDoor.Sc
namespace Go.Proofs.YtleejngibkbjnaaGreatDoor.Sc
open Pm Go.RowKit
def ztq(r:Option Res)(v:PV):Bool:=match r with
 | some (.val w [])=>eqb 20 w v
 | _=>false
theorem _root_.Go.Proofs.YtleejngibkbjnaaGreatDoor.Pm.CallOk.evalV{P:Program}{H:za}(n:Nat){f:FuncId}{args:List PV}{v:PV}(h:ztq (zjH P n (.call f args [])) v=true)(hs:∀ x∈args,Scoped 0 x):CallOk P f args H v H:=by
 refine .eval n ?_ hs;unfold ztq at h;split at h
 .rename_i he;rw[he,zgF 20 _ _ h]
 .cases h
theorem hl7(H:za)(b0 b1 b2 b3 b4 b5 b6:Blk):(H++[b0,b1,b2,b3,b4,b5,b6]).length=H.length+7:=by simp
theorem hl8(H:za)(b0 b1 b2 b3 b4 b5 b6 b7:Blk):(H++[b0,b1,b2,b3,b4,b5,b6,b7]).length=H.length+8:=by simp
theorem hl9(H:za)(b0 b1 b2 b3 b4 b5 b6 b7 b8:Blk):(H++[b0,b1,b2,b3,b4,b5,b6,b7,b8]).length=H.length+9:=by simp
theorem hl10(H:za)(b0 b1 b2 b3 b4 b5 b6 b7 b8 b9:Blk):(H++[b0,b1,b2,b3,b4,b5,b6,b7,b8,b9]).length=H.length+10:=by simp
theorem hl11(H:za)(b0 b1 b2 b3 b4 b5 b6 b7 b8 b9 b10:Blk):(H++[b0,b1,b2,b3,b4,b5,b6,b7,b8,b9,b10]).length=H.length+11:=by simp
theorem hl12(H:za)(b0 b1 b2 b3 b4 b5 b6 b7 b8 b9 b10 b11:Blk):(H++[b0,b1,b2,b3,b4,b5,b6,b7,b8,b9,b10,b11]).length=H.length+12:=by simp
theorem hp7(H K:za)(b0 b1 b2 b3 b4 b5 b6 b7:Blk):(H++b0::b1::b2::b3::b4::b5::b6::b7::K)[H.length+7]? =some b7:=by rw[gN om];simp
theorem hs7(H K:za)(b0 b1 b2 b3 b4 b5 b6 b7 x:Blk):(H++b0::b1::b2::b3::b4::b5::b6::b7::K).set (H.length+7) x=H++b0::b1::b2::b3::b4::b5::b6::x::K:=by rw[uC _ _ om];simp
theorem hp8(H K:za)(b0 b1 b2 b3 b4 b5 b6 b7 b8:Blk):(H++b0::b1::b2::b3::b4::b5::b6::b7::b8::K)[H.length+8]? =some b8:=by rw[gN om];simp
theorem hs8(H K:za)(b0 b1 b2 b3 b4 b5 b6 b7 b8 x:Blk):(H++b0::b1::b2::b3::b4::b5::b6::b7::b8::K).set (H.length+8) x=H++b0::b1::b2::b3::b4::b5::b6::b7::x::K:=by rw[uC _ _ om];simp
theorem hp9(H K:za)(b0 b1 b2 b3 b4 b5 b6 b7 b8 b9:Blk):(H++b0::b1::b2::b3::b4::b5::b6::b7::b8::b9::K)[H.length+9]? =some b9:=by rw[gN om];simp
theorem hs9(H K:za)(b0 b1 b2 b3 b4 b5 b6 b7 b8 b9 x:Blk):(H++b0::b1::b2::b3::b4::b5::b6::b7::b8::b9::K).set (H.length+9) x=H++b0::b1::b2::b3::b4::b5::b6::b7::b8::x::K:=by rw[uC _ _ om];simp
theorem hp10(H K:za)(b0 b1 b2 b3 b4 b5 b6 b7 b8 b9 b10:Blk):(H++b0::b1::b2::b3::b4::b5::b6::b7::b8::b9::b10::K)[H.length+10]? =some b10:=by rw[gN om];simp
theorem hs10(H K:za)(b0 b1 b2 b3 b4 b5 b6 b7 b8 b9 b10 x:Blk):(H++b0::b1::b2::b3::b4::b5::b6::b7::b8::b9::b10::K).set (H.length+10) x=H++b0::b1::b2::b3::b4::b5::b6::b7::b8::b9::x::K:=by rw[uC _ _ om];simp
theorem hp11(H K:za)(b0 b1 b2 b3 b4 b5 b6 b7 b8 b9 b10 b11:Blk):(H++b0::b1::b2::b3::b4::b5::b6::b7::b8::b9::b10::b11::K)[H.length+11]? =some b11:=by rw[gN om];simp
theorem hs11(H K:za)(b0 b1 b2 b3 b4 b5 b6 b7 b8 b9 b10 b11 x:Blk):(H++b0::b1::b2::b3::b4::b5::b6::b7::b8::b9::b10::b11::K).set (H.length+11) x=H++b0::b1::b2::b3::b4::b5::b6::b7::b8::b9::b10::x::K:=by rw[uC _ _ om];simp
attribute [go_sem] hl7 hl8 hl9 hl10 hl11 hl12 hp7 hs7 hp8 hs8 hp9 hs9 hp10 hs10 hp11 hs11
theorem asc{n:Nat}{xs:List PV}(h:∀ x∈xs,Scoped n x):∀(j:Nat) (x:PV),xs[j]? =some x->Scoped n x:=λj x hx=>h x (uE hx)
end Go.Proofs.YtleejngibkbjnaaGreatDoor.Sc
namespace Go.Proofs.YtleejngibkbjnaaGreatDoor.Pm
open Go.RowKit
variable {P:Program} {C:Ctx} {H:za} {w:World} {F:Fr} {a:Act} {N:Nat}
end Go.Proofs.YtleejngibkbjnaaGreatDoor.Pm
namespace Go.Proofs.YtleejngibkbjnaaGreatDoor.Sc
open Pm Ty Go.RowKit
end Go.Proofs.YtleejngibkbjnaaGreatDoor.Sc
