/-
  Parts of the proof, put together in one text. No condition.
-/
import Derived.Test.YtjgmdlcjbgiekaaGreatDoorQ11
namespace Go.Proofs.YtjgmdlcjbgiekaaGreatDoor.Pm
set_option linter.all false
open Go.RowKit
variable {P:Program} {C:Ctx} {H:za} {w:World} {F:Fr} {a:Act} {N:Nat}
theorem VRel.re {C D:Ctx} (h1:D.M=C.M) (h2:D.mu=C.mu) (h3:D.vs=C.vs) (h4:D.cp=C.cp) {x:PV} {u:Value} (h:VRel C x u):VRel D x u:=by
 induction h with
 | nl k=>exact .nl k
 | yl hl _ ih=>exact .yl hl ih
 | int k n=>exact .int k n
 | bool b=>exact .bool b
 | str s=>exact .str s
 | nilp=>exact .nilp
 | ptr hm hv=>exact .ptr (by rw [h2];exact hm) (by rw [h3];exact hv)
 | ptrS v h1 hv hlt=>exact .ptrS v h1 (by rw [h3];exact hv) hlt
 | ip hl hM hc _ ih=>exact .ip hl (by rw [h1];exact hM) hc ih
 | slice hl hM hc _ hcap hmax hf ih=>exact .slice hl (by rw [h1];exact hM) hc ih hcap hmax hf
 | sliceN ad full=>exact .sliceN ad full
 | msl hm hv hcap hmax hg=>exact .msl (by rw [h2];exact hm) (by rw [h3];exact hv) hcap hmax (by rw [h4];exact hg)
 | mslE hm hv hmax=>exact .mslE (by rw [h2];exact hm) (by rw [h3];exact hv) hmax
 | mslG ad hm hv=>exact .mslG ad (by rw [h2,h4];exact hm) (by rw [h3];exact hv)
 | mp hm hv hb=>exact .mp (by rw [h2];exact hm) (by rw [h3];exact hv) (by rw [h4];exact hb)
 | mpS v h1 hv hlt=>exact .mpS v h1 (by rw [h3];exact hv) hlt
 | mslS v h1 hv hlt=>exact .mslS v h1 (by rw [h3];exact hv) hlt
 | agg hl hc _ ih=>exact .agg hl hc ih
 | tup hl _ ih=>exact .tup hl ih
 | func hl hl' _ _ ih ih'=>exact .func hl hl' ih ih'
 | undef v=>exact .undef v
def Vs (E:Env) (F:Fr) (H:za) (F1:Fr) (H1:za):Prop:=
 HSc E.H0→∀ (C:Ctx) (a:Act) (w:World),WRel C H w→FRel C E.N (slot F) a→∃ C',CLeN E.H0.length C C'∧WRel C' H1 w∧FRel C' E.N (slot F1) a
section rules
variable {E:Env} {Q:Exit→Fr→za→Prop} {F1:Fr} {H1:za}
theorem PW.view {c:Code} (hv:Vs E F H F1 H1) (h:PW P E c F1 H1 Q):PW P E c F H Q:=fun hs C a w hd hw hf=>by
 obtain ⟨C',q1,q2,q3⟩:=hv hs C a w hw hf
 exact wp_mono (h hs C' a w hd q2 q3) fun _ _ _ hp=>hp.trans q1 (.refl _ _)
theorem PL.view {c:Code} (hv:Vs E F H F1 H1) (h:PL P E c F1 H1 Q):PL P E c F H Q:=fun hs C a w hd hw hf=>by
 obtain ⟨C',q1,q2,q3⟩:=hv hs C a w hw hf
 intro b k cs
 obtain ⟨e2,a2,w2,hq2,harr2⟩:=h hs C' a w hd q2 q3 b k cs
 exact ⟨e2,a2,w2,hq2.trans q1 (.refl _ _),harr2⟩
theorem Vs.trans {F2:Fr} {H2:za} (h:Vs E F H F1 H1) (k:Vs E F1 H1 F2 H2):Vs E F H F2 H2:=fun hs C a w hw hf=>by
 obtain ⟨C1,q1,q2,q3⟩:=h hs C a w hw hf
 obtain ⟨C2,r1,r2,r3⟩:=k hs C1 a w q2 q3
 exact ⟨C2,q1.trans r1,r2,r3⟩
theorem Vs.keep (ks:List Nat):Vs E F H (kp ks F) H:=fun _ C _ _ hw hf=>⟨C,.refl C,hw,hf.keep ks⟩
theorem PW.eq {c:Code} (hF:F=F1) (hH:H=H1) (h:PW P E c F1 H1 Q):PW P E c F H Q:=by subst hF hH;exact h
theorem PL.eq {c:Code} (hF:F=F1) (hH:H=H1) (h:PL P E c F1 H1 Q):PL P E c F H Q:=by subst hF hH;exact h
theorem PW.at {c:Code} (ks:List Nat) (h:PW P E c F1 H1 Q) (hF:kp ks F=F1) (hH:H=H1):PW P E c F H Q:=by subst hF hH;exact h.keep ks
theorem PL.at {c:Code} (ks:List Nat) (h:PL P E c F1 H1 Q) (hF:kp ks F=F1) (hH:H=H1):PL P E c F H Q:=by subst hF hH;exact h.keep ks
theorem PW.rgv {id:Nat} {ops:Array Oper} (ks:List Nat) (d:Nat) (v:PV) (hd:ops.toList.all (zR E.N)=true) (h:VO P (ops.toList.map (·.dst)) ops.toList (some (F,H)) (fun F' H'=>kp (d::ks) F'=(d,v)::kp ks F∧H'=H)) (hq:Q .normal ((d,v)::kp ks F) H):
  PW P E (.region id ops false) F H Q:=PW.rg1 (d::ks) _ H hd h hq
theorem PW.to {x y:Code} (ks:List Nat) (F1:Fr) (H1:za) (h:PW P E x F H (zgf (fun F' H'=>kp ks F'=F1∧H'=H1) Q)) (hj:PW P E y F1 H1 Q):PW P E (.seq x y) F H Q:=
 PW.join ks (fun F' H'=>F'=F1∧H'=H1) h (fun F' H' e=>by rw [e.1,e.2];exact hj)
def FzF (n:Nat) (H:za) (F:Fr):Fr→Prop
 | []=>True
 | (t,v)::r=>Fz n H (slot F t) v∧FzF n H F r
theorem FzF.slot {n:Nat}:∀ {F1:Fr},FzF n H F F1→∀ t,Pm.slot F1 t= .undef∨Fz n H (Pm.slot F t) (Pm.slot F1 t)
 | [],_,t=>.inl rfl
 | (k,x)::r,h,t=>by
  show (match Nat.beq k t with|true=>x|false=>Pm.slot r t)= .undef∨Fz n H (Pm.slot F t) (match Nat.beq k t with|true=>x|false=>Pm.slot r t)
  cases hb:Nat.beq k t with
  | true=>exact .inr (by rw [←Nat.eq_of_beq_eq_true hb];exact h.1)
  | false=>exact FzF.slot h.2 t
theorem Vs.cut (hn:E.H0.length≤H1.length) (hH:HSc E.H0→CutH H H1) (hF:FzF H1.length H F F1):Vs E F H F1 H1:=fun hs C a w hw hf=>by
 obtain ⟨g1,g2⟩:=hw.cutN (hH hs)
 refine ⟨_,g1.less hn,g2,hf.1,fun t=> ?_⟩
 rcases hF.slot t with h|h
 ·rw [h];exact .undef _
 ·exact h.sound hw (hf.2 t)
theorem Scoped.mono {n m:Nat} (hm:n≤m) {x:PV} (h:Scoped n x):Scoped m x:=by
 induction h with
 | nl k=>exact .nl k
 | yl _ ih=>exact .yl ih
 | lp l r=>exact .lp l r
 | int k m=>exact .int k m
 | bool b=>exact .bool b
 | str s=>exact .str s
 | nilp=>exact .nilp
 | undef=>exact .undef
 | ptr h=>exact .ptr (by omega)
 | msl h=>exact .msl (by omega)
 | mp h=>exact .mp (by omega)
 | ip _ ih=>exact .ip ih
 | slice _ ih=>exact .slice ih
 | agg _ ih=>exact .agg ih
 | tup _ ih=>exact .tup ih
 | func _ _ ih ih'=>exact .func ih ih'
def FzC (n:Nat) (H:za):List PV→List PV→Prop
 | [],[]=>True
 | x::xs,y::ys=>Fz n H x y∧FzC n H xs ys
 | _,_=>False
theorem FzC.pw {n:Nat}:∀ {xs ys:List PV},FzC n H xs ys→ys.length=xs.length∧∀ (j:Nat) (x y:PV),xs[j]? =some x→ys[j]? =some y→Fz n H x y
 | [],[],_=>⟨rfl,fun j x y hx=>by simp at hx⟩
 | x::xs,y::ys,h=>by
  obtain ⟨l,q⟩:=FzC.pw h.2
  refine ⟨by simp [l],fun j a b ha hb=> ?_⟩
  cases j with
  | zero=>simp at ha hb;subst ha hb;exact h.1
  | succ j=>exact q j a b (by simpa using ha) (by simpa using hb)
 | [],_::_,h=>h.elim
 | _::_,[],h=>h.elim
theorem FzC.refl {n:Nat}:∀ {xs:List PV},(∀ x∈xs,Scoped n x)→FzC n H xs xs
 | [],_=>trivial
 | x::xs,h=>⟨.id (h x (by simp)),FzC.refl fun y hy=>h y (by simp [hy])⟩
theorem FzC.append {n:Nat}:∀ {xs ys us vs:List PV},FzC n H xs ys→FzC n H us vs→FzC n H (xs++us) (ys++vs)
 | [],[],_,_,_,h=>h
 | x::xs,y::ys,_,_,h,h'=>⟨h.1,FzC.append h.2 h'⟩
 | [],_::_,_,_,h,_=>h.elim
 | _::_,[],_,_,h,_=>h.elim
theorem Fz.tupC {n:Nat} {xs ys:List PV} (h:FzC n H xs ys):Fz n H (.tup xs) (.tup ys):=.tup h.pw.1 h.pw.2
theorem Fz.aggC {n:Nat} {xs ys:List PV} (h:FzC n H xs ys):Fz n H (.agg xs) (.agg ys):=.agg h.pw.1 h.pw.2
theorem Fz.sliceC {n len:Nat} {f f':Bool} {xs ys:List PV} (h:FzC n H xs ys) (hf:f'=true→f=true):Fz n H (.slice xs len f) (.slice ys len f'):=.slice h.pw.1 h.pw.2 hf
theorem Fz.mslC {n id ver len sz e:Nat} {g:Bool} {xs ys:List PV} (hn:n≤id) (hk:H[id]? =some ⟨e,ver,xs⟩) (hl:xs.length=len * sz) (h:FzC n H xs ys):Fz n H (.msl id ver 0 len sz g) (.slice ys len false):=by
 have ht:((xs.drop 0).take (len * sz))=xs:=by rw [List.drop_zero,←hl,List.take_length]
 exact .msl hn hk rfl (by simp only;omega) (by simp only;rw [ht];exact h.pw.1) (by simp only;rw [ht];exact h.pw.2)
def FzL (n:Nat) (H:za):List Blk→List Blk→Prop
 | [],[]=>True
 | k::r,k1::r1=>k1.e=k.e∧k1.ver=k.ver∧FzC n H k.cells k1.cells∧FzL n H r r1
 | _,_=>False
theorem FzL.get {n:Nat}:∀ {L L1:List Blk},FzL n H L L1→L1.length=L.length∧∀ (j:Nat) (k1:Blk),L1[j]? =some k1→∃ k,L[j]? =some k∧k1.e=k.e∧k1.ver=k.ver∧FzC n H k.cells k1.cells
 | [],[],_=>⟨rfl,fun j k h=>by simp at h⟩
 | k::r,k1::r1,h=>by
  obtain ⟨h1,h2,h3,h4⟩:=h
  obtain ⟨l,q⟩:=FzL.get h4
  refine ⟨by simp [l],fun j k' hk'=> ?_⟩
  cases j with
  | zero=>simp at hk';subst hk';exact ⟨k,rfl,h1,h2,h3⟩
  | succ j=>exact q j k' (by simpa using hk')
 | [],_::_,h=>h.elim
 | _::_,[],h=>h.elim
theorem FzL.refl {n:Nat}:∀ {L:List Blk},(∀ k∈L,∀ x∈k.cells,Scoped n x)→FzL n H L L
 | [],_=>trivial
 | k::r,h=>⟨rfl,rfl,FzC.refl (h k (by simp)),FzL.refl fun k' hk'=>h k' (by simp [hk'])⟩
theorem CutH.of {A L K L1:za} (hA:HSc A) (hL:FzL (A++L1).length (A++L++K) L L1):CutH (A++L++K) (A++L1):=by
 obtain ⟨l,q⟩:=hL.get
 refine ⟨by simp [l],fun j k1 hk1=> ?_⟩
 by_cases hj:j<A.length
 ·rw [List.getElem?_append_left hj] at hk1
  refine ⟨k1,by rw [List.append_assoc,List.getElem?_append_left hj];exact hk1,rfl,rfl,rfl,fun i x y hx hy=> ?_⟩
  rw [hx] at hy
  injection hy with hy
  subst hy
  exact .id ((hA j k1 hk1 x (List.mem_of_getElem? hx)).mono (by simp))
 ·rw [List.getElem?_append_right (by omega)] at hk1
  obtain ⟨k,hk,h1,h2,h3⟩:=q _ k1 hk1
  have hlt:=(List.getElem?_eq_some_iff.1 hk).1
  exact ⟨k,by rw [List.append_assoc,List.getElem?_append_right (by omega),List.getElem?_append_left hlt];exact hk,h1,h2,h3.pw.1,h3.pw.2⟩
theorem CutH.base {A K:za} (hA:HSc A):CutH (A++K) A:=by
 have:=CutH.of (A:=A) (L:=[]) (K:=K) (L1:=[]) hA trivial
 simpa using this
theorem HSc.set {A:za} (hA:HSc A) {id:Nat} {k:Blk} (hk:∀ x∈k.cells,Scoped A.length x):HSc (A.set id k):=fun j k' hk' x hx=>by
 rw [List.length_set]
 rw [List.getElem?_set] at hk'
 split at hk'
 ·split at hk'
  ·injection hk' with hk';subst hk';exact hk x hx
  ·cases hk'
 ·exact hA j k' hk' x hx
theorem Vs.trim {K:za} (hA:HSc E.H0→HSc H1) (hn:E.H0.length≤H1.length) (hH:H=H1++K) (hF:FzF H1.length H F F1):Vs E F H F1 H1:=
 Vs.cut hn (fun hs=>by rw [hH];exact CutH.base (hA hs)) hF
theorem Fin.cut {A K H':za} {v v':PV} (hH:H'=A++K) (hl:H.length=A.length) (hA:HSc H→HSc A) (hv:Fz A.length H' v' v):Fin H v A v' H':=by
 subst hH
 exact .inr (.inr fun hs=>⟨by omega,CutH.base (hA hs),hv⟩)
theorem Fin.base {K:za} {v v':PV} (hv:Fz H.length (H++K) v' v):Fin H v H v' (H++K):=Fin.cut rfl rfl (fun h=>h) hv
theorem Fin.more {A L K L1 H':za} {v v':PV} (hH:H'=A++L++K) (hl:H.length=A.length) (hA:HSc H→HSc A) (hL:FzL (A++L1).length H' L L1) (hv:Fz (A++L1).length H' v' v):Fin H v (A++L1) v' H':=by
 subst hH
 exact .inr (.inr fun hs=>⟨by simp;omega,CutH.of (hA hs) hL,hv⟩)
theorem Fin.now {v:PV} {H1:za}:Fin H v H1 v H1:=.inl ⟨rfl,rfl⟩
theorem zhI {id sz:Nat} (hm:C.mu[id]? =some none∧C.cp[id]? =some 0) (hv:C.vs[id]? =some 0) {u:Value} (h:VRel C (.slice [] 0 true) u):VRel C (.msl id 0 0 0 sz true) u:=by
 cases h with
 | slice hl hM hc hR hcap hmax hf=>rw [hf rfl];exact .mslG _ hm hv
 | sliceN=>exact .mslG _ hm hv
theorem Vs.ghost (t e sz:Nat) (hs:slot F t= .slice [] 0 true):Vs E F H ((t,.msl H.length 0 0 0 sz true)::F) (H++[⟨e,0,[]⟩]):=fun _ C a w hw hf=>by
 obtain ⟨g1,g2⟩:=hw.ghost e 0
 refine ⟨_,g1.toN _,g2,hf.1,fun t'=> ?_⟩
 show VRel _ (match Nat.beq t t' with|true=>_|false=>slot F t') _
 cases hb:Nat.beq t t' with
 | true=>
  rw [←Nat.eq_of_beq_eq_true hb]
  have:=hf.2 t
  rw [hs] at this
  exact zhI ⟨by simp [Ctx.more,←hw.len],by simp [Ctx.more,←hw.lenc]⟩ (by simp [Ctx.more,←hw.lenv]) (this.mono g1)
 | false=>exact (hf.2 t').mono g1
theorem WRel.recell (hw:WRel C H w) {id j:Nat} {k:Blk} {x y:PV} (hk:H[id]? =some k) (hj:k.cells[j]? =some x) (hc:y.cell=true) (hlp:∀ l r,x≠.lp l r) (hR:∀ u,VRel C x u→VRel C y u):WRel C (H.set id ⟨k.e,k.ver,k.cells.set j y⟩) w:=by
 have hid:id<H.length:=(List.getElem?_eq_some_iff.1 hk).1
 refine ⟨hw.gl,hw.base,hw.tople,hw.imm,by rw [hw.len];simp,by rw [hw.lenv];simp,by rw [hw.lenc];simp,?_,?_,?_,hw.disj,hw.inj,hw.minj⟩
 ·intro i k' hk'
  rw [List.getElem?_set] at hk'
  split at hk'
  ·rename_i e;subst e
   simp only [hid,if_true,Option.some.injEq] at hk'
   subst hk'
   exact hw.ver id k hk
  ·exact hw.ver i k' hk'
 ·intro i k' hk' hm
  rw [List.getElem?_set] at hk'
  split at hk'
  ·rename_i e;subst e
   simp only [hid,if_true,Option.some.injEq] at hk'
   subst hk'
   rcases hw.gho id k hk hm with h0|⟨b,es,clock,q1,q2,q3,q4,q5⟩|⟨b,r,q1,q2,q3,q4⟩
   ·rw [h0.2] at hj
    simp at hj
   ·refine .inr (.inl ⟨b,es,clock,q1,q2,q3,by simpa using q4,fun i z e hz he=> ?_⟩)
    rw [List.getElem?_set] at hz
    split at hz
    ·rename_i e;subst e
     split at hz
     ·injection hz with hz;subst hz;exact hR _ (q5 j x _ hj he)
     ·cases hz
    ·exact q5 i z _ hz he
   ·rw [q4.1] at hj
    cases j with
    | zero=>injection hj with hj;exact absurd hj.symm (hlp _ r)
    | succ j=>simp at hj
  ·exact hw.gho i k' hk' hm
 ·intro i k' b hk' hm
  rw [List.getElem?_set] at hk'
  split at hk'
  ·rename_i e;subst e
   simp only [hid,if_true,Option.some.injEq] at hk'
   subst hk'
   obtain ⟨cur,q3,q4,q5,q6,q7,q8⟩:=hw.own id k b hk hm
   refine ⟨cur,q3,q4,q5,fun z hz=> ?_,by simpa using q7,fun i z u hz hu=> ?_⟩
   ·rcases List.mem_or_eq_of_mem_set hz with hz|hz
    ·exact q6 z hz
    ·rw [hz];exact hc
   ·rw [List.getElem?_set] at hz
    split at hz
    ·rename_i e;subst e
     split at hz
     ·injection hz with hz;subst hz;exact hR u (q8 j x u hj hu)
     ·cases hz
    ·exact q8 i z u hz hu
  ·exact hw.own i k' b hk' hm
theorem Vs.ghostH {id j:Nat} {k:Blk} (e sz:Nat) (hk:H[id]? =some k) (hj:k.cells[j]? =some (.slice [] 0 true)):
  Vs E F H F (H.set id ⟨k.e,k.ver,k.cells.set j (.msl H.length 0 0 0 sz true)⟩++[⟨e,0,[]⟩]):=fun _ C a w hw hf=>by
 obtain ⟨g1,g2⟩:=hw.ghost e 0
 have hid:id<H.length:=(List.getElem?_eq_some_iff.1 hk).1
 have:=g2.recell (id:=id) (j:=j) (k:=k) (y:=.msl H.length 0 0 0 sz true) (by rw [List.getElem?_append_left hid];exact hk) hj rfl (fun _ r h=>by cases h) (fun u hu=>zhI ⟨by simp [Ctx.more,←hw.len],by simp [Ctx.more,←hw.lenc]⟩ (by simp [Ctx.more,←hw.lenv]) hu)
 rw [List.set_append_left _ _ hid] at this
 exact ⟨_,g1.toN _,this,hf.mono g1⟩
end rules
theorem WRel.grown (hw:WRel C H w) {w':World} (hb:Below w.heap.size w w'):WRel C H w':=by
 have hcell:∀ b o u,w.cell? ⟨b,o,none⟩=some u→w'.cell? ⟨b,o,none⟩=some u:=fun b o u hu=>by
  have hlt:=World.block_lt_of_cell? w ⟨b,o,none⟩ hu
  have e:=hb.block b hlt
  simp only [World.cell?] at hu ⊢
  rw [e];exact hu
 have hsz:=hb.size
 refine ⟨hw.gl,by have:=hw.base;omega,by have:=hw.tople;omega,fun b o u hu=>hcell _ _ _ (hw.imm b o u hu),hw.len,hw.lenv,hw.lenc,hw.ver,fun id k hk hm=>(hw.gho id k hk hm).imp_right (fun m=>m.mono (.refl _) rfl (fun b es c hp h3=>by rw [hb.block b (Array.getElem?_eq_some_iff.1 h3).1];exact h3)),fun id k b hk hm=> ?_,hw.disj,hw.inj,hw.minj⟩
 obtain ⟨cur,q3,q4,q5,q6,q7,q8⟩:=hw.own id k b hk hm
 exact ⟨cur,q3,q4,by rw [hb.block b (hw.mu_lt hm)];exact q5,q6,q7,q8⟩
def Ctx.after (C C2:Ctx) (n:Nat):Ctx:={ C with M:=fun b o=>if b<n then C.M b o else C2.M b o }
theorem zkf (C C2:Ctx) (hw:WRel C H w):CLe C (C.after C2 w.heap.size):=by
 refine ⟨rfl,fun b o u hu=> ?_,rfl,fun b o u hu=> ?_,fun b hb=>.inl hb,fun id ver hv=>⟨ver,hv,Nat.le_refl _,fun _=>⟨rfl,rfl⟩⟩⟩
 ·have:=hw.imm_lt hu
  simp only [Ctx.after]
  rw [if_pos this];exact hu
 ·simp only [Ctx.after] at hu
  split at hu
  ·exact .inl hu
  ·have:=hw.tople;exact .inr (.inl (by omega))
theorem zsJ {C2:Ctx} {w':World} (hw:WRel C H w) (hb:Below w.heap.size w w') (h2:WRel C2 [] w'):WRel (C.after C2 w.heap.size) H w':=by
 have h:=hw.grown hb
 have hle:=zkf C C2 hw
 refine ⟨h.gl.mono hle.M,h.base,h.tople,fun b o u hu=> ?_,h.len,h.lenv,h.lenc,h.ver,fun id k hk hm=>(h.gho id k hk hm).imp_right (fun m=>m.mono hle rfl (fun b es c hp h3=>h3)),fun id k b hk hm=> ?_,fun id b hm o=> ?_,h.inj,h.minj⟩
 ·simp only [Ctx.after] at hu
  split at hu
  ·exact h.imm b o u hu
  ·exact h2.imm b o u hu
 ·obtain ⟨cur,q3,q4,q5,q6,q7,q8⟩:=h.own id k b hk hm
  exact ⟨cur,q3,q4,q5,q6,q7,fun j x u hx hu=>(q8 j x u hx hu).mono hle⟩
 ·simp only [Ctx.after]
  rw [if_pos (hw.mu_lt hm)]
  exact hw.disj id b hm o
theorem zsK {n:Nat} {C2:Ctx} (hM:∀ b o u,C2.M b o=some u→C.M b o=some u∨n≤b) (hlt:∀ b o u,C.M b o=some u→b<n) (hC:∀ b o u,C.M b o=some u→C2.M b o=some u) (hv0:C2.vs=[]) {x:PV} {u:Value} (h:VRel C2 x u):VRel (C.after C2 n) x u:=by
 have key:∀ b o u,C2.M b o=some u→(C.after C2 n).M b o=some u:=fun b o u hu=>by
  simp only [Ctx.after]
  rcases hM b o u hu with h|h
  ·rw [if_pos (hlt b o u h)];exact h
  ·rw [if_neg (by omega)];exact hu
 have no:∀ {id ver:Nat},C2.vs[id]? =some ver→False:=fun h=>by rw [hv0] at h;simp at h
 induction h with
 | nl k=>exact .nl k
 | yl hl _ ih=>exact .yl hl ih
 | int k n=>exact .int k n
 | bool b=>exact .bool b
 | str s=>exact .str s
 | nilp=>exact .nilp
 | ptr hm hv=>exact (no hv).elim
 | ptrS v h1 hv hlt=>exact (no hv).elim
 | ip hl hM hc _ ih=>exact .ip hl (fun j u hu=>key _ _ _ (hM j u hu)) hc ih
 | slice hl hM hc _ hcap hmax hf ih=>exact .slice hl (fun j u hu=>key _ _ _ (hM j u hu)) hc ih hcap hmax hf
 | sliceN ad full=>exact .sliceN ad full
 | msl hm hv hcap hmax hg=>exact (no hv).elim
 | mslE hm hv hmax=>exact (no hv).elim
 | mslG ad hm hv=>exact (no hv).elim
 | mslS v h1 hv hlt=>exact (no hv).elim
 | mp hm hv hb=>exact (no hv).elim
 | mpS v h1 hv hlt=>exact (no hv).elim
 | agg hl hc _ ih=>exact .agg hl hc ih
 | tup hl _ ih=>exact .tup hl ih
 | func hl hl' _ _ ih ih'=>exact .func hl hl' ih ih'
 | undef v=>exact .undef v
theorem CallEx.frame {f:FuncId} {args:List PV} {R:PV→Prop} (h:CallEx P f args [] (fun v H'=>R v∧H'=[])) (hs:∀ x∈args,Scoped 0 x):CallEx P f args H (fun v H'=>R v∧H'=H):=by
 refine ⟨h.1,fun C us w hw hu=> ?_⟩
 have h0:WRel { B:=w.heap.size,M:=C.M,mu:=[],vs:=[],cp:=[],top:=w.heap.size } [] w:=
  ⟨hw.gl,Nat.le_refl _,Nat.le_refl _,hw.imm,rfl,rfl,rfl,fun id k h=>by simp at h,fun id k h=>by simp at h,fun id k b h=>by simp at h,fun id b h=>by simp at h,fun i j b h=>by simp at h,fun i j b h=>by simp at h⟩
 have ha:VRels { B:=w.heap.size,M:=C.M,mu:=[],vs:=[],cp:=[],top:=w.heap.size } args us:=⟨hu.1,fun j x u hx hu'=>by
  have:=(hu.2 j x u hx hu').cut (n:=0) (M:=C.M) (fun _ _ _ h=>h) (hs x (List.mem_of_getElem? hx))
  refine this.re ?_ ?_ ?_ ?_<;>simp [Ctx.cut]⟩
 refine (h.2 _ us w h0 ha).mono ?_
 rintro e w' ⟨C2,u,v,H',⟨hR,rfl⟩,q1,q2,q3,q4,q5⟩
 refine ⟨C.after C2 w.heap.size,u,v,H,⟨hR,rfl⟩,zkf C C2 hw,zsJ hw q3 q2,q3.mono hw.base,q4,?_⟩
 refine zsK (fun b o u hu=> ?_) (fun b o u hu=>hw.imm_lt hu) (fun b o u hu=>q1.M b o u hu) (List.eq_nil_of_length_eq_zero q2.lenv) q5
 rcases q1.mnew b o u hu with h|h|h
 ·exact .inl h
 ·exact .inr h
 ·simp at h
theorem CallOk.frame {f:FuncId} {args:List PV} {v:PV} (h:CallOk P f args [] v []) (hs:∀ x∈args,Scoped 0 x):CallOk P f args H v H:=
 (CallEx.frame (R:=fun v'=>v'=v) h.toEx hs).one
inductive Scal:PV→Prop where
 | int (k:IntKind) (m:Int):Scal (.int k m)
 | bool (b:Bool):Scal (.bool b)
 | str (s:List UInt8):Scal (.str s)
 | nilp:Scal .nilp
 | agg {xs:List PV} (h:∀ (j:Nat) (x:PV),xs[j]? =some x→Scal x):Scal (.agg xs)
 | tup {xs:List PV} (h:∀ (j:Nat) (x:PV),xs[j]? =some x→Scal x):Scal (.tup xs)
theorem Scal.any {C C':Ctx} {x:PV} (h:Scal x):∀ {u:Value},VRel C x u→VRel C' x u:=by
 induction h with
 | int k m=>intro u hv;cases hv;exact .int k m
 | bool b=>intro u hv;cases hv;exact .bool b
 | str s=>intro u hv;cases hv;exact .str _
 | nilp=>intro u hv;cases hv;exact .nilp
 | agg _ ih=>intro u hv;cases hv with|agg hl hc hR=>exact .agg hl hc (fun j x u hx hu=>ih j x hx (hR j x u hx hu))
 | tup _ ih=>intro u hv;cases hv with|tup hl hR=>exact .tup hl (fun j x u hx hu=>ih j x hx (hR j x u hx hu))
theorem WRel.freeze1 (hw:WRel C H w) {id:Nat} {k:Blk} (hk:H[id]? =some k):∃ C1,CLe C C1∧WRel C1 (H.set id ⟨k.e,k.ver+1,[]⟩) w∧
  ∀ (off len sz:Nat) (g:Bool) (u:Value),off+len * sz≤k.cells.length→VRel C (.msl id k.ver off len sz g) u→VRel C1 (.slice ((k.cells.drop off).take (len * sz)) len false) u:=by
 have hid:id<H.length:=(List.getElem?_eq_some_iff.1 hk).1
 have e1:=hw.len
 have e2:=hw.lenv
 have e3:=hw.lenc
 obtain ⟨m,hm⟩:∃ m,C.mu[id]? =some m:=⟨C.mu[id]'(by omega),List.getElem?_eq_getElem _⟩
 have hge:∀ b o u,C.M b o=some u→(if m=some b then w.cell? ⟨b,o,none⟩ else C.M b o)=some u:=fun b o u hu=>by
  split
  ·exact hw.imm b o u hu
  ·exact hu
 have hle:CLe C { B:=C.B,top:=C.top,M:=fun b o=>if m=some b then w.cell? ⟨b,o,none⟩ else C.M b o,mu:=C.mu.set id none,vs:=C.vs.set id (k.ver+1),cp:=C.cp.set id 0 }:=by
  refine ⟨rfl,hge,rfl,fun b o u hu=> ?_,fun b hb=> ?_,fun i ver hv=> ?_⟩
  ·simp only at hu
   split at hu
   ·rename_i hmb;exact .inr (.inr (hmb▸List.mem_of_getElem? hm))
   ·exact .inl hu
  ·rcases List.mem_or_eq_of_mem_set hb with hb|hb
   ·exact .inl hb
   ·cases hb
  ·by_cases hi:i=id
   ·subst hi
    rw [hw.ver i k hk] at hv
    injection hv with hv
    exact ⟨k.ver+1,by simp [e2,hid],by omega,fun he=>by omega⟩
   ·exact ⟨ver,by rw [List.getElem?_set_ne (by omega)];exact hv,Nat.le_refl _,fun _=>⟨by rw [List.getElem?_set_ne (by omega)],by rw [List.getElem?_set_ne (by omega)]⟩⟩
 refine ⟨_,hle,?_,?_⟩
 ·refine ⟨hw.gl.mono hge,hw.base,hw.tople,fun b o u hu=> ?_,by simp [e1],by simp [e2],by simp [e3],?_,?_,?_,?_,?_,?_⟩
  ·simp only at hu
   split at hu
   ·exact hu
   ·exact hw.imm b o u hu
  ·intro i k' hk'
   by_cases hi:i=id
   ·subst hi
    simp [hid] at hk'
    subst hk'
    simp [e2,hid]
   ·rw [List.getElem?_set_ne (by omega)] at hk'
    rw [List.getElem?_set_ne (by omega)]
    exact hw.ver i k' hk'
  ·intro i k' hk' hm'
   by_cases hi:i=id
   ·subst hi
    simp [hid] at hk'
    subst hk'
    exact .inl ⟨by simp [e3,hid],rfl⟩
   ·rw [List.getElem?_set_ne (by omega)] at hk' hm'
    rw [List.getElem?_set_ne (by omega)]
    exact (hw.gho i k' hk' hm').imp_right (fun m=>m.mono hle rfl (fun b es c hp h3=>h3))
  ·intro i k' b hk' hm'
   by_cases hi:i=id
   ·subst hi
    simp [e1,hid] at hm'
   ·rw [List.getElem?_set_ne (by omega)] at hk' hm'
    obtain ⟨c,q3,q4,q5,q6,q7,q8⟩:=hw.own i k' b hk' hm'
    exact ⟨c,by rw [List.getElem?_set_ne (by omega)];exact q3,q4,q5,q6,q7,fun j x u hx hu=>(q8 j x u hx hu).mono hle⟩
  ·intro i b hb o
   by_cases hi:i=id
   ·subst hi
    simp [e1,hid] at hb
   ·simp only [List.getElem?_set_ne (by omega:id≠i)] at hb
    simp only
    rw [if_neg (fun e=> ?_)]
    ·exact hw.disj i b hb o
    ·rw [e] at hm
     exact hi (hw.inj i id b hb hm)
  ·intro i j b hi hj
   have ne:∀ {i:Nat},(C.mu.set id none)[i]? =some (some b)→i≠id∧C.mu[i]? =some (some b):=fun {i} h=>by
    by_cases hi:i=id
    ·subst hi;simp [e1,hid] at h
    ·exact ⟨hi,by rw [List.getElem?_set_ne (by omega)] at h;exact h⟩
   exact hw.inj i j b (ne hi).2 (ne hj).2
  ·intro i j b mi mj ci cj
   have ne:∀ {i:Nat},(C.mu.set id none)[i]? =some none→(C.cp.set id 0)[i]? =some (b+1)→C.mu[i]? =some none∧C.cp[i]? =some (b+1):=fun {i} h h'=>by
    by_cases hi:i=id
    ·subst hi;simp [e3,hid] at h'
    ·exact ⟨by rw [List.getElem?_set_ne (by omega)] at h;exact h,by rw [List.getElem?_set_ne (by omega)] at h';exact h'⟩
   exact hw.minj i j b (ne mi ci).1 (ne mj cj).1 (ne mi ci).2 (ne mj cj).2
 ·intro off len sz g u ho hv
  obtain ⟨b,cap,off',q1,rfl,hc1,hc2,ho',_⟩|⟨ad,hgh,h0,rfl⟩:=zbg hw hv (hw.ver id k hk)
  ·rw [hm] at q1
   injection q1 with q1
   subst q1
   obtain ⟨cur,q3,q5,q6,q7,q8,q9,q10⟩:=hw.blk hk hm
   have hlen:(((cur.toList.take k.cells.length).drop off).take (len * sz)).length=((k.cells.drop off).take (len * sz)).length:=by simp;omega
   refine .slice hlen (fun j u hu=> ?_) (fun x hx=>q6 x (List.mem_of_mem_drop (List.mem_of_mem_take hx))) (fun j x u hx hu=>(((q9.drop off).take (len * sz)) j x u hx hu).mono hle) hc1 hc2 (fun hf=>by cases hf)
   simp only [if_true]
   rcases Nat.eq_zero_or_pos len with h0|h0
   ·subst h0;simp at hu
   ·obtain rfl:=ho' h0
    have:=((q8.drop off').take (len * sz)) j u hu
    rwa [Nat.zero_add] at this
  ·subst h0
   have e:(k.cells.drop off).take (0 * sz)=[]:=by simp
   rw [e]
   exact .sliceN _ _
def Fz1 (id:Nat) (k:Blk):List PV→List PV→Prop
 | [],[]=>True
 | x::xs,y::ys=>(x=y∨∃ len sz g,x= .msl id k.ver 0 len sz g∧k.cells.length=len * sz∧y= .slice k.cells len false)∧Fz1 id k xs ys
 | _,_=>False
theorem Fz1.get {id:Nat} {k:Blk}:∀ {xs ys:List PV},Fz1 id k xs ys→ys.length=xs.length∧∀ (j:Nat) (x y:PV),xs[j]? =some x→ys[j]? =some y→(x=y∨∃ len sz g,x= .msl id k.ver 0 len sz g∧k.cells.length=len * sz∧y= .slice k.cells len false)
 | [],[],_=>⟨rfl,fun j x y hx=>by simp at hx⟩
 | x::xs,y::ys,h=>by
  obtain ⟨l,q⟩:=Fz1.get h.2
  refine ⟨by simp [l],fun j a b ha hb=> ?_⟩
  cases j with
  | zero=>simp at ha hb;subst ha hb;exact h.1
  | succ j=>exact q j a b (by simpa using ha) (by simpa using hb)
 | [],_::_,h=>h.elim
 | _::_,[],h=>h.elim
theorem CallEx.frz1 {f:FuncId} {args args':List PV} {R:PV→za→Prop} {id:Nat} {k:Blk} (hk:H[id]? =some k) (h:CallEx P f args' (H.set id ⟨k.e,k.ver+1,[]⟩) R) (hz:Fz1 id k args args'):CallEx P f args H R:=by
 refine ⟨h.1,fun C us w hw hu=> ?_⟩
 obtain ⟨C1,hle,hw1,hf⟩:=hw.freeze1 hk
 obtain ⟨hl,hp⟩:=hz.get
 have ha:VRels C1 args' us:=⟨by rw [hu.1,hl],fun j y u hy hu'=>by
  have hj:j<args.length:=by have:=(List.getElem?_eq_some_iff.1 hy).1;omega
  have hv:=hu.2 j _ u (List.getElem?_eq_getElem hj) hu'
  rcases hp j _ y (List.getElem?_eq_getElem hj) hy with e|⟨len,sz,g,e1,e2,e3⟩
  ·rw [←e];exact hv.mono hle
  ·rw [e1] at hv
   have:=hf 0 len sz g u (by omega) hv
   rw [List.drop_zero,←e2,List.take_length] at this
   rw [e3];exact this⟩
 refine (h.2 C1 us w hw1 ha).mono ?_
 rintro e w' ⟨C2,u,v,H',hR,q1,q2,q3,q4,q5⟩
 exact ⟨C2,u,v,H',hR,hle.trans q1,q2,by rw [←hle.B];exact q3,q4,q5⟩
theorem CallOk.frz1 {f:FuncId} {args args':List PV} {v:PV} {H':za} {id:Nat} {k:Blk} (hk:H[id]? =some k) (h:CallOk P f args' (H.set id ⟨k.e,k.ver+1,[]⟩) v H') (hz:Fz1 id k args args'):CallOk P f args H v H':=(CallEx.frz1 hk h.toEx hz).one
theorem Vs.frzCell {E:Env} {id id' j len sz:Nat} {g:Bool} {k k':Blk} (hk:H[id]? =some k) (hk':H[id']? =some k') (hne:id≠id') (hj:k'.cells[j]? =some (.msl id k.ver 0 len sz g)) (hl:k.cells.length=len * sz):
  Vs E F H F ((H.set id ⟨k.e,k.ver+1,[]⟩).set id' ⟨k'.e,k'.ver,k'.cells.set j (.slice k.cells len false)⟩):=fun _ C a w hw hf=>by
 obtain ⟨C1,hle,hw1,hfz⟩:=hw.freeze1 hk
 have hid':id'<H.length:=(List.getElem?_eq_some_iff.1 hk').1
 have hid:id<H.length:=(List.getElem?_eq_some_iff.1 hk).1
 obtain ⟨m,hm⟩:∃ m,C.mu[id']? =some m:=⟨C.mu[id']'(by rw [hw.len];exact hid'),List.getElem?_eq_getElem _⟩
 cases m with
 | none=>
  rcases hw.gho id' k' hk' hm with h0|⟨b,es,clock,q1,q2,q3,q4,q5⟩|⟨b,r,q1,q2,q3,q4⟩
  ·rw [h0.2] at hj;simp at hj
  ·have hj':j<es.size:=by rw [q4];exact (List.getElem?_eq_some_iff.1 hj).1
   obtain ⟨b,cap,off',_,e,_⟩|⟨ad,_,_,e⟩:=zbg hw (q5 j _ es[j] hj (Array.getElem?_eq_getElem hj')) (hw.ver id k hk)<;>cases e
  ·rw [q4.1] at hj
   cases j with
   | zero=>injection hj with hj;cases hj
   | succ j=>simp at hj
 | some b=>
  obtain ⟨cur,q3,q4,q5,q6,q7,q8⟩:=hw.own id' k' b hk' hm
  have hk1:(H.set id ⟨k.e,k.ver+1,[]⟩)[id']? =some k':=by rw [List.getElem?_set_ne hne];exact hk'
  refine ⟨C1,hle.toN _,?_,hf.mono hle⟩
  have hlt:id'<(H.set id ⟨k.e,k.ver+1,[]⟩).length:=by rw [List.length_set];exact hid'
  refine ⟨hw1.gl,hw1.base,hw1.tople,hw1.imm,by rw [hw1.len];simp,by rw [hw1.lenv];simp,by rw [hw1.lenc];simp,?_,?_,?_,hw1.disj,hw1.inj,hw1.minj⟩
  ·intro i k2 hk2
   rw [List.getElem?_set] at hk2
   split at hk2
   ·rename_i e;subst e
    simp only [hlt,if_true,Option.some.injEq] at hk2
    subst hk2
    exact hw1.ver id' k' hk1
   ·exact hw1.ver i k2 hk2
  ·intro i k2 hk2 hm2
   rw [List.getElem?_set] at hk2
   split at hk2
   ·rename_i e;subst e
    obtain ⟨ver',e1,e2,e3⟩:=hle.ids id' k'.ver (hw.ver id' k' hk')
    have h2:=hw1.ver id' k' hk1
    rw [e1] at h2
    injection h2 with h2
    have:=(e3 h2).1
    rw [hm2,hm] at this
    cases this
   ·exact hw1.gho i k2 hk2 hm2
  ·intro i k2 b2 hk2 hm2
   rw [List.getElem?_set] at hk2
   split at hk2
   ·rename_i e;subst e
    simp only [hlt,if_true,Option.some.injEq] at hk2
    subst hk2
    obtain ⟨cur1,r3,r4,r5,r6,r7,r8⟩:=hw1.own id' k' b2 hk1 hm2
    have hb:b2=b:=by
     obtain ⟨ver',e1,e2,e3⟩:=hle.ids id' k'.ver (hw.ver id' k' hk')
     have h2:=hw1.ver id' k' hk1
     rw [e1] at h2
     injection h2 with h2
     have:=(e3 h2).1
     rw [hm2,hm] at this
     injection this with this
     injection this
    subst hb
    rw [q5] at r5
    injection r5 with r5
    injection r5 with r5
    subst r5
    refine ⟨cur,r3,r4,q5,fun z hz=> ?_,by simpa using r7,fun i z u hz hu=> ?_⟩
    ·rcases List.mem_or_eq_of_mem_set hz with hz|hz
     ·exact r6 z hz
     ·rw [hz];rfl
    ·rw [List.getElem?_set] at hz
     split at hz
     ·rename_i e;subst e
      split at hz
      ·injection hz with hz
       subst hz
       have:=hfz 0 len sz g u (by omega) (q8 j _ u hj hu)
       rwa [List.drop_zero,←hl,List.take_length] at this
      ·cases hz
     ·exact r8 i z u hz hu
   ·exact hw1.own i k2 b2 hk2 hm2
end Go.Proofs.YtjgmdlcjbgiekaaGreatDoor.Pm
