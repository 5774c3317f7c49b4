/-
  Parts of the proof, put together in one text. No condition.
-/
import Derived.Test.YtjgmdlcjbgiekaaGreatDoorP15
namespace Go.Proofs.YtjgmdlcjbgiekaaGreatDoor.Sc
set_option linter.all false
open Pm Ty Go.RowKit
structure F16 (f:Fm):Prop where
 w:f.w=16
 h:f.h=16
 ly:f.y.length=256
 lu:f.u.length=64
 lv:f.v.length=64
def gry:Fm:=⟨16,16,List.replicate 256 128,List.replicate 64 128,List.replicate 64 128⟩
theorem F16.gry:F16 gry:=⟨rfl,rfl,List.length_replicate,List.length_replicate,List.length_replicate⟩
theorem F16.fvd {f:Fm} (h:F16 f):fvd f=true:=by
 obtain ⟨w,h,y,u,v⟩:=f
 obtain ⟨rfl,rfl,ly,lu,lv⟩:=h
 simp only at ly lu lv
 simp [Sc.fvd,fmd,fsz,ly,lu,lv]
def cmp (f:Fm) (n:Nat):List UInt8:=if n=4 then f.u else if n=5 then f.v else f.y
def zhd (f:Fm) (n:Nat) (p:List UInt8):Fm:=if n=4 then ⟨f.w,f.h,f.y,p,f.v⟩ else if n=5 then ⟨f.w,f.h,f.y,f.u,p⟩ else ⟨f.w,f.h,p,f.u,f.v⟩
theorem F16.cmp {f:Fm} (h:F16 f) {n:Nat} (hn:n<6):(cmp f n).length=bln n:=by
 unfold Sc.cmp bln
 split
 ·rw [if_pos (by omega)];exact h.lu
 ·split
  ·rw [if_pos (by omega)];exact h.lv
  ·rw [if_neg (by omega)];exact h.ly
theorem F16.stc {f:Fm} (h:F16 f) {n:Nat} (hn:n<6) {p:List UInt8} (hp:p.length=bln n):F16 (zhd f n p):=by
 unfold zhd
 split
 ·exact ⟨h.w,h.h,h.ly,by rw [hp];subst n;rfl,h.lv⟩
 ·split
  ·exact ⟨h.w,h.h,h.ly,h.lu,by rw [hp];subst n;rfl⟩
  ·exact ⟨h.w,h.h,by rw [hp,bln,if_neg (by omega)],h.lu,h.lv⟩
def addB (f:Fm) (n:Nat) (fd:Bool) (x:List Int):Fm:=zhd f n (cad (cmp f n) n fd x)
theorem zsE {p:List UInt8} {n:Nat} {fd:Bool} {x:List Int} (hn:n<6) (hp:p.length=bln n):(cad p n fd x).length=bln n:=by
 rw [cad,zgo hn hp,hp]
theorem F16.addB {f:Fm} (h:F16 f) {n:Nat} (hn:n<6) (fd:Bool) (x:List Int):F16 (addB f n fd x):=h.stc hn (zsE hn (h.cmp hn))
def lvl (lv:List Int) (n:Nat):List Int:=(lv.drop (n * 64)).take 64
def rsd (lv:List Int) (al:Bool) (mat:List UInt8) (q:Int) (n:Nat):List Int:=inv (dqz (frs (lvl lv n) al) mat q)
def addN (m:Mb) (al:Bool) (mat:List UInt8) (q:Int) (f:Fm):Nat→Fm
 | 0=>f
 | n+1=>if zaB (cdl m) n then addB (addN m al mat q f n) n m.fd (rsd m.lv al mat q n) else addN m al mat q f n
theorem F16.addN {f:Fm} (h:F16 f) (m:Mb) (al:Bool) (mat:List UInt8) (q:Int):∀ n,n≤6→F16 (addN m al mat q f n)
 | 0,_=>h
 | n+1,hn=>by
  have ih:=h.addN m al mat q n (by omega)
  rw [Sc.addN]
  split
  ·exact ih.addB (by omega) _ _
  ·exact ih
def prdF (f:Fm) (x y:Int) (h:Nat) (vx vy:Int):Fm:=
 ⟨16,h,prd f.y f.w f.h x y 16 h vx vy,prd f.u (f.w / 2) (f.h / 2) (x / 2) (y / 2) 8 (h / 2) (vx.tdiv 2) (vy.tdiv 2),prd f.v (f.w / 2) (f.h / 2) (x / 2) (y / 2) 8 (h / 2) (vx.tdiv 2) (vy.tdiv 2)⟩
theorem zrA (f:Fm) (x y vx vy:Int):F16 (prdF f x y 16 vx vy):=⟨rfl,rfl,zan _ _ _ _ _ _ _ _ _,zan _ _ _ _ _ _ _ _ _,zan _ _ _ _ _ _ _ _ _⟩
def prdS (f:Fm) (mx my vx vy:Int):Fm×Int:=
 if (fmd f&&(decide (0≤mx)&&(decide (16 * mx+16≤f.w)&&(decide (0≤my)&&decide (16 * my+16≤f.h)))))=true then (if vrg vx vy=true then (prdF f (16 * mx) (16 * my) 16 vx vy,0) else (f0,2)) else (f0,1)
def zc9 (f:Fm) (mx my:Int):Bool:=fvd f&&(decide (0≤mx)&&(decide (mx<f.w / 16)&&(decide (0≤my)&&decide (my<f.h / 16))))
def wovF (a b:Fm):Fm:=⟨16,16,wov a.y b.y 16 8,wov a.u b.u 8 4,wov a.v b.v 8 4⟩
def fldS (f:Fm) (mx my va vb vc vd sa sb:Int):Fm×Int:=
 if (zc9 f mx my&&decide (f.h%32=0))=true then (wovF (prdF (fieldOf f sa) (16 * mx) (8 * my) 8 va vb) (prdF (fieldOf f sb) (16 * mx) (8 * my) 8 vc vd),0) else (f0,1)
theorem zls (f g:Fm) (x y x' y' a b c d:Int):F16 (wovF (prdF f x y 8 a b) (prdF g x' y' 8 c d)):=by
 have l1:∀ p W R x y vx vy,(prd p W R x y 16 8 vx vy).length=8 * 16:=fun _ _ _ _ _ _ _=>zan _ _ _ _ _ _ _ _ _
 have l2:∀ p W R x y vx vy,(prd p W R x y 8 (8 / 2) vx vy).length=4 * 8:=fun _ _ _ _ _ _ _=>zan _ _ _ _ _ _ _ _ _
 exact ⟨rfl,rfl,za1 (l1 ..) (l1 ..) 8 (Nat.le_refl _),za1 (l2 ..) (l2 ..) 4 (Nat.le_refl _),za1 (l2 ..) (l2 ..) 4 (Nat.le_refl _)⟩
def mnF (a b:Fm):Fm:=⟨a.w,a.h,mnb a.y b.y,mnb a.u b.u,mnb a.v b.v⟩
theorem zps {a:Fm} (h:F16 a) (b:Fm):F16 (mnF a b):=⟨h.w,h.h,(zcR _ _).trans h.ly,(zcR _ _).trans h.lu,(zcR _ _).trans h.lv⟩
def dirP (c:Cx) (fp:Bool) (va vb vc vd sa sb:Int) (pa fu fi:Fm) (d mx my:Int):Fm×Int:=
 if (refS c pa fu fi d sa).2≠0 then (f0,(refS c pa fu fi d sa).2) else if fp=true then fldS (refS c pa fu fi d sa).1 mx my va vb vc vd sa sb else prdS (refS c pa fu fi d sa).1 mx my va vb
def zhp (c:Cx) (m:Mb) (pa fu fi:Fm) (mx my:Int):Fm×Int:=dirP c m.fp m.va m.vb m.vc m.vd m.sa m.sb pa fu fi 0 mx my
def zfH (c:Cx) (m:Mb) (pa fu fi:Fm) (mx my:Int):Fm×Int:=dirP c m.fp m.ve m.vf m.vg m.vh m.sc m.sd pa fu fi 1 mx my
def prS (c:Cx) (m:Mb) (pa fu fi:Fm) (mx my:Int):Fm×Int:=
 if m.ua=true then
  if (zhp c m pa fu fi mx my).2≠0 then (f0,(zhp c m pa fu fi mx my).2)
  else if m.ub=true then
   if (zfH c m pa fu fi mx my).2≠0 then (f0,(zfH c m pa fu fi mx my).2)
   else (mnF (zhp c m pa fu fi mx my).1 (zfH c m pa fu fi mx my).1,0)
  else zhp c m pa fu fi mx my
 else zfH c m pa fu fi mx my
theorem zrz {f:Fm} {mx my vx vy:Int} (h:(prdS f mx my vx vy).2=0):F16 (prdS f mx my vx vy).1:=by
 unfold prdS at h ⊢
 split at h
 ·rename_i h1
  split at h
  ·rename_i h2
   rw [if_pos h1,if_pos h2];exact zrA _ _ _ _ _
  ·cases h
 ·cases h
theorem zsj {f:Fm} {mx my va vb vc vd sa sb:Int} (h:(fldS f mx my va vb vc vd sa sb).2=0):F16 (fldS f mx my va vb vc vd sa sb).1:=by
 unfold fldS at h ⊢
 split at h
 ·rename_i h1
  rw [if_pos h1];exact zls _ _ _ _ _ _ _ _ _ _
 ·cases h
theorem ziG {c:Cx} {fp:Bool} {va vb vc vd sa sb:Int} {pa fu fi:Fm} {d mx my:Int} (h:(dirP c fp va vb vc vd sa sb pa fu fi d mx my).2=0):F16 (dirP c fp va vb vc vd sa sb pa fu fi d mx my).1:=by
 unfold dirP at h ⊢
 split at h
 ·rename_i h1;exact absurd h h1
 ·rename_i h1
  rw [if_neg h1]
  split at h
  ·rename_i h2;rw [if_pos h2];exact zsj h
  ·rename_i h2;rw [if_neg h2];exact zrz h
theorem zoY {c:Cx} {m:Mb} {pa fu fi:Fm} {mx my:Int} (h:(prS c m pa fu fi mx my).2=0):F16 (prS c m pa fu fi mx my).1:=by
 unfold prS at h ⊢
 split at h
 ·rename_i h1
  rw [if_pos h1]
  split at h
  ·rename_i h2;exact absurd h h2
  ·rename_i h2
   rw [if_neg h2]
   have h3:F16 (zhp c m pa fu fi mx my).1:=ziG (Decidable.not_not.1 h2)
   split at h
   ·rename_i h4
    rw [if_pos h4]
    split at h
    ·rename_i h5;exact absurd h h5
    ·rename_i h5
     rw [if_neg h5];exact zps h3 _
   ·rename_i h4
    rw [if_neg h4];exact h3
 ·rename_i h1
  rw [if_neg h1];exact ziG h
def stl (c:Cx):Mb:=⟨2,true,decide (c.t=3),false,false,0,0,0,0,0,0,0,0,pcx c,0,if c.t=3 then pcx c else 0,0,0,false,false,false,false,false,false,zl384⟩
def zgs (c:Cx) (si sq:List UInt8) (al:Bool) (q:Int) (m:Mb) (pa fu fi:Fm) (mx my:Int):Fm×Int:=
 if (fmS c m&&(zb2 si&&(zb2 sq&&qnB q)))=true then
  if m.k=1 then (addN m al si q gry 6,0)
  else if (prS c (if m.k=0 then stl c else m) pa fu fi mx my).2≠0 then (f0,(prS c (if m.k=0 then stl c else m) pa fu fi mx my).2)
  else (addN (if m.k=0 then stl c else m) al sq q (prS c (if m.k=0 then stl c else m) pa fu fi mx my).1 6,0)
 else (f0,1)
structure nrF (D:Int) (f g:Fm):Prop where
 w:f.w=g.w
 h:f.h=g.h
 y:nr D f.y g.y
 u:nr D f.u g.u
 v:nr D f.v g.v
theorem nrF.refl {D:Int} (h:0≤D) (f:Fm):nrF D f f:=⟨rfl,rfl,.refl h _,.refl h _,.refl h _⟩
theorem nrF.D0 {D:Int} {f g:Fm} (h:nrF D f g):0≤D:=h.y.D0
theorem nrF.fmd {D:Int} {f g:Fm} (h:nrF D f g):fmd f=fmd g:=by
 unfold Sc.fmd;rw [h.w,h.h,h.y.1,h.u.1,h.v.1]
theorem nrF.fvd {D:Int} {f g:Fm} (h:nrF D f g):fvd f=fvd g:=by
 unfold Sc.fvd;rw [h.fmd,h.w,h.h]
theorem nrF.prdF {D:Int} {f g:Fm} (h:nrF D f g) (x y:Int) (k:Nat) (vx vy:Int):nrF D (prdF f x y k vx vy) (prdF g x y k vx vy):=by
 unfold Sc.prdF
 rw [h.w,h.h]
 exact ⟨rfl,rfl,h.y.prd _ _ _ _ _ _ _ _,h.u.prd _ _ _ _ _ _ _ _,h.v.prd _ _ _ _ _ _ _ _⟩
theorem nrF.fieldOf {D:Int} {f g:Fm} (h:nrF D f g) {s:Int} (hs:s=0∨s=1) (hv:Sc.fvd f=true) (h32:f.h%32=0):nrF D (fieldOf f s) (fieldOf g s):=by
 obtain ⟨w,ht,y,u,v⟩:=f
 obtain ⟨w',ht',y',u',v'⟩:=g
 obtain ⟨e1,e2,h3,h4,h5⟩:=h
 simp only at e1 e2 h3 h4 h5 h32
 subst e1 e2
 obtain ⟨V,K,rfl,rfl,ok⟩:=zdB hv h32
 obtain ⟨P,hP,rfl⟩:∃ P:Nat,P≤1∧s=(P:Int):=by
  rcases hs with e|e
  ·exact ⟨0,by omega,by omega⟩
  ·exact ⟨1,by omega,by omega⟩
 have f1:=zaO V K P y u v
 have f2:=zaO V K P y' u' v'
 unfold fr4 at f1 f2
 rw [f1,f2]
 exact ⟨rfl,rfl,h3.ctl (zaC _ _ _ hP _ ok.ly),h4.ctl (zaC _ _ _ hP _ ok.lu),h5.ctl (zaC _ _ _ hP _ ok.lv)⟩
def nrA (D:Int) (a b:Fm×Int):Prop:=a.2=b.2∧nrF D a.1 b.1
theorem nrF.lastF {D:Int} {f g:Fm} (h:nrF D f g) (wh:Bool) (s:Int) (hs:wh=true∨s=0∨s=1):nrA D (lastF f wh s) (lastF g wh s):=by
 have h0:=nrF.refl h.D0 f0
 unfold Sc.lastF
 rw [←h.w,←h.fvd,←h.h]
 split
 ·exact ⟨rfl,h0⟩
 split
 ·exact ⟨rfl,h0⟩
 rename_i hb
 split
 ·exact ⟨rfl,h⟩
 rename_i hw
 have hb':Sc.fvd f=true∧f.h%32=0:=by
  cases hv:Sc.fvd f<;>cases wh<;>simp_all
 exact ⟨rfl,h.fieldOf (by rcases hs with e|e;exact absurd e hw;exact e) hb'.1 hb'.2⟩
theorem nrF.refS {D:Int} {pa fu fi pa' fu':Fm} (hp:nrF D pa pa') (hf:nrF D fu fu') {c:Cx} (hc:c.n=false) (d s:Int):nrA D (refS c pa fu fi d s) (refS c pa' fu' fi d s):=by
 have h0:=nrF.refl hp.D0 f0
 unfold Sc.refS
 split
 ·exact ⟨rfl,h0⟩
 rename_i hb
 have hs:((!(fcx c))=true∨s=0∨s=1):=by
  rw [ziQ] at hb
  cases hfc:fcx c
  ·exact .inl rfl
  ·right
   rw [hfc] at hb
   simp at hb
   omega
 unfold zdf
 rw [hc]
 split
 ·exact hf.lastF _ _ hs
 ·exact hp.lastF _ _ hs
theorem nrF.prdS {D:Int} {f g:Fm} (h:nrF D f g) (mx my vx vy:Int):nrA D (prdS f mx my vx vy) (prdS g mx my vx vy):=by
 have h0:=nrF.refl h.D0 f0
 unfold Sc.prdS
 rw [h.fmd,h.w,h.h]
 split
 ·split
  ·exact ⟨rfl,h.prdF _ _ _ _ _⟩
  ·exact ⟨rfl,h0⟩
 ·exact ⟨rfl,h0⟩
theorem nrF.wovF {D:Int} {f g f' g':Fm} (h:nrF D f g) (h':nrF D f' g') (x y x' y' a b c d:Int):nrF D (wovF (Sc.prdF f x y 8 a b) (Sc.prdF f' x' y' 8 c d)) (wovF (Sc.prdF g x y 8 a b) (Sc.prdF g' x' y' 8 c d)):=by
 have h1:=h.prdF x y 8 a b
 have h2:=h'.prdF x' y' 8 c d
 have l1:∀ p W R x y vx vy,(prd p W R x y 16 8 vx vy).length=8 * 16:=fun _ _ _ _ _ _ _=>zan _ _ _ _ _ _ _ _ _
 have l2:∀ p W R x y vx vy,(prd p W R x y 8 (8 / 2) vx vy).length=4 * 8:=fun _ _ _ _ _ _ _=>zan _ _ _ _ _ _ _ _ _
 exact ⟨rfl,rfl,h1.y.wov h2.y (l1 ..) (l1 ..),h1.u.wov h2.u (l2 ..) (l2 ..),h1.v.wov h2.v (l2 ..) (l2 ..)⟩
theorem nrF.fldS {D:Int} {f g:Fm} (h:nrF D f g) (mx my va vb vc vd:Int) {sa sb:Int} (ha:sa=0∨sa=1) (hb:sb=0∨sb=1):nrA D (fldS f mx my va vb vc vd sa sb) (fldS g mx my va vb vc vd sa sb):=by
 have h0:=nrF.refl h.D0 f0
 have e:zc9 f mx my=zc9 g mx my:=by unfold zc9;rw [h.fvd,h.w,h.h]
 unfold Sc.fldS
 rw [←e,←h.h]
 split
 ·rename_i hc
  rw [Bool.and_eq_true,decide_eq_true_eq,zc9,Bool.and_eq_true] at hc
  exact ⟨rfl,(h.fieldOf ha hc.1.1 hc.2).wovF (h.fieldOf hb hc.1.1 hc.2) _ _ _ _ _ _ _ _⟩
 ·exact ⟨rfl,h0⟩
theorem nrF.dirP {D:Int} {pa fu fi pa' fu':Fm} (hp:nrF D pa pa') (hf:nrF D fu fu') {c:Cx} (hc:c.n=false) (fp:Bool) (va vb vc vd:Int) {sa sb:Int} (ha:sa=0∨sa=1) (hb:sb=0∨sb=1) (d mx my:Int):
  nrA D (dirP c fp va vb vc vd sa sb pa fu fi d mx my) (dirP c fp va vb vc vd sa sb pa' fu' fi d mx my):=by
 have h0:=nrF.refl hp.D0 f0
 obtain ⟨h1,h2⟩:=hp.refS (fi:=fi) hf hc d sa
 unfold Sc.dirP
 rw [h1]
 split
 ·exact ⟨rfl,h0⟩
 split
 ·exact h2.fldS _ _ _ _ _ _ ha hb
 ·exact h2.prdS _ _ _ _
structure selB (m:Mb):Prop where
 a:m.sa=0∨m.sa=1
 b:m.sb=0∨m.sb=1
 c:m.sc=0∨m.sc=1
 d:m.sd=0∨m.sd=1
theorem nrF.mnF {D:Int} {f g f' g':Fm} (h:nrF D f g) (h':nrF D f' g'):nrF D (mnF f f') (mnF g g'):=⟨h.w,h.h,h.y.mnb h'.y,h.u.mnb h'.u,h.v.mnb h'.v⟩
theorem nrF.prS {D:Int} {pa fu fi pa' fu':Fm} (hp:nrF D pa pa') (hf:nrF D fu fu') {c:Cx} (hc:c.n=false) {m:Mb} (hs:selB m) (mx my:Int):nrA D (prS c m pa fu fi mx my) (prS c m pa' fu' fi mx my):=by
 have h0:=nrF.refl hp.D0 f0
 obtain ⟨a1,a2⟩:=hp.dirP (fi:=fi) hf hc m.fp m.va m.vb m.vc m.vd hs.a hs.b 0 mx my
 obtain ⟨b1,b2⟩:=hp.dirP (fi:=fi) hf hc m.fp m.ve m.vf m.vg m.vh hs.c hs.d 1 mx my
 unfold Sc.prS zhp zfH
 rw [←a1,←b1]
 split
 ·split
  ·exact ⟨rfl,h0⟩
  ·split
   ·split
    ·exact ⟨rfl,h0⟩
    ·exact ⟨rfl,a2.mnF b2⟩
   ·exact ⟨a1,a2⟩
 ·exact ⟨b1,b2⟩
theorem nrF.addB {D:Int} {f g:Fm} (h:nrF D f g) (hf:F16 f) {n:Nat} (hn:n<6) (fd:Bool) (x:List Int):nrF D (addB f n fd x) (addB g n fd x):=by
 have hl:=hf.cmp hn
 unfold Sc.addB Sc.cmp at *
 unfold zhd
 by_cases h4:n=4
 ·simp only [if_pos h4] at hl ⊢
  exact ⟨h.w,h.h,h.y,h.u.cad hn hl,h.v⟩
 ·by_cases h5:n=5
  ·simp only [if_neg h4,if_pos h5] at hl ⊢
   exact ⟨h.w,h.h,h.y,h.u,h.v.cad hn hl⟩
  ·simp only [if_neg h4,if_neg h5] at hl ⊢
   exact ⟨h.w,h.h,h.y.cad hn hl,h.u,h.v⟩
theorem nrF.addN {D:Int} {f g:Fm} (h:nrF D f g) (hf:F16 f) (m:Mb) (al:Bool) (mat:List UInt8) (q:Int):∀ n,n≤6→nrF D (addN m al mat q f n) (addN m al mat q g n)
 | 0,_=>h
 | n+1,hn=>by
  have ih:=h.addN hf m al mat q n (by omega)
  rw [Sc.addN,Sc.addN]
  split
  ·exact ih.addB (hf.addN m al mat q n (by omega)) (by omega) _ _
  ·exact ih
theorem zk6 (f:Fm) (mx my:Int) (H:za):CallOk Tryz.prog 138 [.agg (fmc f),.int .i64 mx,.int .i64 my] H (.bool (zc9 f mx my)) H:=by
 have va:=fun K=>zgb f K
 have hr:zc9 f mx my=(fvd f&&(decide (0≤mx)&&(decide (mx<f.w / 16)&&(decide (0≤my)&&decide (my<f.h / 16))))):=rfl
 generalize zc9 f mx my=r at hr ⊢
 cases hv:fvd f
 ·rw [hv] at va hr
  obtain ⟨w,ht,y,u,v⟩:=f
  simp only [fmc] at va ⊢
  refine CallOk.body (F0:=[(0,.agg [.int .i64 w,.int .i64 ht,.slice (bs y) y.length false,.slice (bs u) u.length false,.slice (bs v) v.length false]),(1,.int .i64 mx),(2,.int .i64 my)]) Tryz.func138 rfl Tryz.ntmps138 Tryz.results138 rfl (by kernel_rfl) rfl ?_
  refine PW.e ?_
  (repeat refine PW.seq ?_);refine PW.rg rfl fun K hK=> ?_;simp (disch:=omega) only [go_sem,↓reduceIte,reduceCtorEq];(repeat' (first|((first|refine zk ?_ ?_|refine And.intro ?_ ?_)<;>intro h<;>(try simp only [nqb] at h)<;>simp (disch:=omega) only [go_sem,↓reduceIte,reduceCtorEq,h])|((first|refine VCx.call (va _) rfl ?_);simp (disch:=omega) only [go_sem,↓reduceIte,reduceCtorEq])))
  all_goals (refine hK _ _ ?_;clear hK;(refine PW.ret ⟨_,rfl,?_⟩;first|refine .inl ⟨?_,rfl⟩|refine Fin.base (.id' ?_ (.bool _))|refine Fin.base (.id' ?_ (.int _ _)));(simp_all [slot,Nat.beq]<;>first|rfl|omega|(rw [Bool.eq_iff_iff];simp;done)|(rw [Bool.eq_iff_iff];simp;omega)))
 ·rw [hv] at va hr
  have hp:(0≤f.w∧f.w≤64)∧0≤f.h∧f.h≤64:=by
   unfold fvd fmd at hv
   simp only [Bool.and_eq_true] at hv
   have:=zcV hv.1.1
   omega
  obtain ⟨w,ht,y,u,v⟩:=f
  simp only [fmc] at va hp hr ⊢
  clear hv
  refine CallOk.body (F0:=[(0,.agg [.int .i64 w,.int .i64 ht,.slice (bs y) y.length false,.slice (bs u) u.length false,.slice (bs v) v.length false]),(1,.int .i64 mx),(2,.int .i64 my)]) Tryz.func138 rfl Tryz.ntmps138 Tryz.results138 rfl (by kernel_rfl) rfl ?_
  refine PW.e ?_
  (repeat refine PW.seq ?_);refine PW.rg rfl fun K hK=> ?_;simp (disch:=omega) only [go_sem,↓reduceIte,reduceCtorEq];(repeat' (first|((first|refine zk ?_ ?_|refine And.intro ?_ ?_)<;>intro h<;>(try simp only [nqb] at h)<;>simp (disch:=omega) only [go_sem,↓reduceIte,reduceCtorEq,zx,h])|((first|refine VCx.call (va _) rfl ?_);simp (disch:=omega) only [go_sem,↓reduceIte,reduceCtorEq,zx])))
  all_goals (refine hK _ _ ?_;clear hK va;(refine PW.ret ⟨_,rfl,?_⟩;first|refine .inl ⟨?_,rfl⟩|refine Fin.base (.id' ?_ (.bool _))|refine Fin.base (.id' ?_ (.int _ _)));rw [hr];simp_all [slot,Nat.beq]<;>grind)
theorem F16.has {f:Fm} (h:F16 f):zc9 f 0 0=true:=by
 unfold zc9;rw [h.fvd,h.w,h.h];rfl
theorem or6 {i:Nat} (h:i<6):i=0∨i=1∨i=2∨i=3∨i=4∨i=5:=by omega
def zeG (n:Nat) (fd:Bool):List PV:=[.int .i64 (bfr n fd:Int),.int .i64 (bst n fd:Int),.int .i64 8,.int .i64 8]
theorem zbG (n:Nat) (a b c d:Int):∀ x∈[PV.int .i64 a,PV.int .i64 b,PV.int .i64 c,PV.int .i64 d],Scoped n x:=fun x hx=>by
 simp only [List.mem_cons,List.not_mem_nil,or_false] at hx
 rcases hx with rfl|rfl|rfl|rfl<;>exact .int _ _
theorem zpC (H:za):CallOk Tryz.prog 140 [.int .i64 16,.int .i64 0,.int .i64 0] H (.tup [.agg [.int .i64 0,.int .i64 16,.int .i64 16,.int .i64 16],.agg [.int .i64 0,.int .i64 8,.int .i64 8,.int .i64 8]]) H:=by
 have d1:(16:Int).tdiv 2=8:=rfl
 refine CallOk.body (F0:=[(0,.int .i64 16),(1,.int .i64 0),(2,.int .i64 0)]) Tryz.func140 rfl Tryz.ntmps140 Tryz.results140 rfl (by kernel_rfl) rfl ?_
 refine PW.e ?_
 refine PW.e ?_
 refine PW.f (fun K k=>by simp (disch:=omega) only [go_sem,↓reduceIte,reduceCtorEq,d1];exact k) ?_
 (repeat refine PW.seq ?_);refine PW.drawi [H.length,H.length+1] [(6,[0]),(7,[1])] [] [] mix (by kernel_rfl) (by simp<;>omega) fun K hK=> ?_
 simp (disch:=omega) only [go_sem,↓reduceIte,reduceCtorEq]
 refine hK _ _ ?_;clear hK K
 refine PW.ret ⟨.tup [.agg [.int .i64 0,.int .i64 16,.int .i64 16,.int .i64 16],.agg [.int .i64 0,.int .i64 8,.int .i64 8,.int .i64 8]],by simp (disch:=omega) only [go_sem,↓reduceIte,reduceCtorEq,zd,zg,List.mapM_cons,List.mapM_nil,Option.pure_def,Option.bind_eq_bind,Option.bind_some,Array.toList,Int.reduceMul,Int.reduceAdd],?_⟩
 refine Fin.base (.id (.tup (asc fun x hx=> ?_)))
 simp only [List.mem_cons,List.not_mem_nil,or_false] at hx
 rcases hx with rfl|rfl<;>exact zB (zbG _ _ _ _ _)
set_option maxHeartbeats 1600000 in
theorem zjD (n:Nat) (fd:Bool) (hn:n<6) (H:za):CallOk Tryz.prog 290 [.int .i64 16,.int .i64 0,.int .i64 0,.int .i64 (n:Int),.bool fd] H (.agg (zeG n fd)) H:=by
 have mo:=fun K=>zpC K
 have m1:(n:Int).tmod 2=((n%2:Nat):Int):=by rw [zP _ _ (by omega)];omega
 have m2:(n:Int).tdiv 2=((n / 2:Nat):Int):=by rw [zx _ _ (by omega)];omega
 refine CallOk.body (F0:=[(0,.int .i64 16),(1,.int .i64 0),(2,.int .i64 0),(3,.int .i64 (n:Int)),(4,.bool fd)]) Tryz.func290 rfl Tryz.ntmps290 Tryz.results290 rfl (by kernel_rfl) rfl ?_
 refine PW.e ?_
 refine PW.f (fun K k=>by simp (disch:=omega) only [go_sem,↓reduceIte,reduceCtorEq];refine VCx.call (mo _) rfl ?_;simp (disch:=omega) only [go_sem,↓reduceIte,reduceCtorEq];exact k) ?_
 refine PW.e ?_
 (repeat refine PW.seq ?_);refine PW.cond (t:=_) rfl (fun h=> ?_) (fun h=> ?_)
 ·have h4:4≤n:=by have:=of_decide_eq_true h;omega
  refine PW.e ?_
  refine PW.ret ⟨.agg [.int .i64 0,.int .i64 8,.int .i64 8,.int .i64 8],by simp (disch:=omega) only [go_sem,↓reduceIte,reduceCtorEq,zd,zg,List.mapM_cons,List.mapM_nil,Option.pure_def,Option.bind_eq_bind,Option.bind_some,Array.toList],?_⟩
  have e:zeG n fd=[.int .i64 0,.int .i64 8,.int .i64 8,.int .i64 8]:=by unfold zeG bfr bst;rw [if_pos h4,if_pos h4];rfl
  rw [e]
  exact Fin.base (.id (zB (zbG _ _ _ _ _)))
 have h4:¬ 4≤n:=by have:=of_decide_eq_false h;omega
 refine PW.skip ?_
 refine PW.f (fun K k=>by simp (disch:=omega) only [go_sem,↓reduceIte,reduceCtorEq,m1,m2];exact k) ?_
 cases fd
 ·have e:zeG n false=[.int .i64 (0+((n%2:Nat):Int) * 8+((n / 2:Nat):Int) * 8 * 16),.int .i64 16,.int .i64 8,.int .i64 8]:=by
   unfold zeG bfr bst;rw [if_neg h4,if_neg h4]
   simp only [Bool.false_eq_true,if_false,List.cons.injEq,PV.int.injEq,true_and,and_true]
   omega
  refine PW.e ?_
  (repeat refine PW.seq ?_);refine PW.cond (t:=_) rfl (fun h=> ?_) (fun h=> ?_)
  ·cases h
  refine PW.skip ?_
  refine PW.e ?_
  refine PW.ret ⟨.agg [.int .i64 (0+((n%2:Nat):Int) * 8+((n / 2:Nat):Int) * 8 * 16),.int .i64 16,.int .i64 8,.int .i64 8],by simp (disch:=omega) only [go_sem,↓reduceIte,reduceCtorEq,zd,zg,List.mapM_cons,List.mapM_nil,Option.pure_def,Option.bind_eq_bind,Option.bind_some,Array.toList],?_⟩
  rw [e]
  exact Fin.base (.id (zB (zbG _ _ _ _ _)))
 ·have e:zeG n true=[.int .i64 (0+((n%2:Nat):Int) * 8+((n / 2:Nat):Int) * 16),.int .i64 32,.int .i64 8,.int .i64 8]:=by
   unfold zeG bfr bst;rw [if_neg h4,if_neg h4]
   simp only [if_true,List.cons.injEq,PV.int.injEq,true_and,and_true]
   omega
  refine PW.e ?_
  (repeat refine PW.seq ?_);refine PW.cond (t:=_) rfl (fun h=> ?_) (fun h=> ?_)
  rotate_left
  ·cases h
  refine PW.e ?_
  refine PW.ret ⟨.agg [.int .i64 (0+((n%2:Nat):Int) * 8+((n / 2:Nat):Int) * 16),.int .i64 32,.int .i64 8,.int .i64 8],by simp (disch:=omega) only [go_sem,↓reduceIte,reduceCtorEq,zd,zg,List.mapM_cons,List.mapM_nil,Option.pure_def,Option.bind_eq_bind,Option.bind_some,Array.toList,Int.reduceMul],?_⟩
  rw [e]
  exact Fin.base (.id (zB (zbG _ _ _ _ _)))
theorem ziL (w ht:Int) (y u v:List UInt8) (n:Nat) (H:za) (hn:n<6):CallOk Tryz.prog 289 [.agg (fmc ⟨w,ht,y,u,v⟩),.int .i64 (n:Int)] H (.slice (bs (cmp ⟨w,ht,y,u,v⟩ n)) (cmp ⟨w,ht,y,u,v⟩ n).length false) H:=by
 refine CallOk.body (F0:=[(0,.agg [.int .i64 w,.int .i64 ht,.slice (bs y) y.length false,.slice (bs u) u.length false,.slice (bs v) v.length false]),(1,.int .i64 (n:Int))]) Tryz.func289 rfl Tryz.ntmps289 Tryz.results289 rfl (by kernel_rfl) rfl ?_
 refine PW.e ?_
 refine PW.e ?_
 (repeat refine PW.seq ?_);refine PW.block ?_
 refine PW.e ?_
 (repeat refine PW.seq ?_);refine PW.cond (t:=_) rfl (fun h=> ?_) (fun h=> ?_)
 ·have e:n=4:=by have:=of_decide_eq_true h;omega
  subst e
  refine PW.e ?_
  exact PW.ret ⟨_,rfl,Fin.base (.id (zr (zq _ _)))⟩
 have e4:n≠4:=by have:=of_decide_eq_false h;omega
 refine PW.e ?_
 (repeat refine PW.seq ?_);refine PW.cond (t:=_) rfl (fun h=> ?_) (fun h=> ?_)
 ·have e:n=5:=by have:=of_decide_eq_true h;omega
  subst e
  refine PW.e ?_
  exact PW.ret ⟨_,rfl,Fin.base (.id (zr (zq _ _)))⟩
 have e5:n≠5:=by have:=of_decide_eq_false h;omega
 have ec:cmp ⟨w,ht,y,u,v⟩ n=y:=by unfold cmp;rw [if_neg e4,if_neg e5]
 rw [ec]
 refine PW.skip ?_
 refine PW.e ?_
 exact PW.ret ⟨_,rfl,Fin.base (.id (zr (zq _ _)))⟩
theorem zsG (p:List UInt8) (n:Nat) (fd:Bool):fil (fun k=>byt p (bps n fd k)) 64=blk p n fd:=zlb _
theorem znr (n:Nat) (l:List Int) (e:Int):Scoped n (.tup [.agg (is l),.int .i64 e]):=.tup (asc fun x hx=>by
 simp only [List.mem_cons,List.not_mem_nil,or_false] at hx
 rcases hx with rfl|rfl
 ·exact zB (zat _ _)
 ·exact .int _ _)
set_option maxHeartbeats 1600000 in
set_option maxRecDepth 100000 in
theorem zqw (f:Fm) (hf:F16 f) (n:Nat) (hn:n<6) (fd:Bool) (H:za):
  CallOk Tryz.prog 212 [.agg (fmc f),.int .i64 0,.int .i64 0,.int .i64 (n:Int),.bool fd] H (.tup [.agg (is (blk (cmp f n) n fd)),.int .i64 0]) H:=by
 have hm:=fun K=>zk6 f 0 0 K
 rw [hf.has] at hm
 have co:=fun K=>ziL f.w f.h f.y f.u f.v n K hn
 have po:=fun K=>zjD n fd hn K
 have cl:=hf.cmp hn
 have bb:bln n≤256:=by unfold bln;split<;>omega
 have bfb:bfr n fd≤150∧bst n fd≤150:=by
  rcases or6 hn with rfl|rfl|rfl|rfl|rfl|rfl<;>cases fd<;>decide
 have hfit:∀ k,k<8→bfr n fd+k * bst n fd+8≤(cmp f n).length:=fun k hk=>by rw [cl];exact znw hn k hk
 have cu:=fun K=>ziJ (cmp f n) (bfr n fd) (bst n fd) 8 8 false K (by omega) (by omega) (by omega) hfit (by omega)
 have ll:=zaT (cmp f n) (bfr n fd) (bst n fd) 8 8 hfit
 have lb:=fun k hk=>zsw (p:=cmp f n) (fd:=fd) hn cl (k:=k) hk
 have hz:=zml (fun k=>byt (cmp f n) (bps n fd k))
 obtain ⟨w,ht,y,u,v⟩:=f
 have hw:w=16:=hf.w
 have hh:ht=16:=hf.h
 subst hw hh
 simp only at co
 obtain ⟨P,hP⟩:∃ P,cmp ⟨16,16,y,u,v⟩ n=P:=⟨_,rfl⟩
 rw [hP] at co cl hfit cu ll lb hz ⊢
 obtain ⟨Z,hZ⟩:∃ Z,ctl P (bfr n fd) (bst n fd) 8 8=Z:=⟨_,rfl⟩
 rw [hZ] at cu ll lb
 simp only [fmc] at hm co ⊢
 unfold zeG at po
 refine CallOk.body (F0:=[(0,.agg [.int .i64 16,.int .i64 16,.slice (bs y) y.length false,.slice (bs u) u.length false,.slice (bs v) v.length false]),(1,.int .i64 0),(2,.int .i64 0),(3,.int .i64 (n:Int)),(4,.bool fd)]) Tryz.func212 rfl Tryz.ntmps212 Tryz.results212 rfl (by kernel_rfl) rfl ?_
 refine PW.e ?_
 (repeat refine PW.seq ?_)
 refine PW.rgv (P:=Tryz.prog) [1,2,3,4,5,10,11] 27 (.bool false) ?_ ?_ ?_
 ·rfl
 ·simp (disch:=omega) only [go_sem,↓reduceIte,reduceCtorEq];(repeat' (first|((first|refine zk ?_ ?_|refine And.intro ?_ ?_)<;>intro h<;>(try simp only [nqb] at h)<;>simp (disch:=omega) only [go_sem,↓reduceIte,reduceCtorEq,h])|((first|refine VCx.call (hm _) rfl ?_);simp (disch:=omega) only [go_sem,↓reduceIte,reduceCtorEq])))
  all_goals (simp_all [slot,Nat.beq]<;>first|rfl|omega|(rw [Bool.eq_iff_iff];simp;done)|(rw [Bool.eq_iff_iff];simp;omega))
 (repeat refine PW.seq ?_);refine PW.cond (t:=_) rfl (fun h=> ?_) (fun h=> ?_)
 ·cases h
 refine PW.skip ?_
 refine PW.e ?_
 (repeat refine PW.seq ?_);refine PW.draw mix (by kernel_rfl) fun K hK=> ?_;simp (disch:=omega) only [go_sem,↓reduceIte,reduceCtorEq]
 (repeat' (first|((first|refine zn ?_ ?_|refine And.intro ?_ ?_)<;>intro h<;>(try simp only [nqb] at h)<;>simp (disch:=omega) only [go_sem,↓reduceIte,reduceCtorEq,h])|((first|refine VCy.call (co _) rfl ?_|refine VCy.call (po _) rfl ?_|refine VCy.call (cu _) rfl ?_);simp (disch:=omega) only [go_sem,↓reduceIte,reduceCtorEq])))
 refine hK _ _ ?_;clear hK K
 (repeat refine PW.seq ?_);refine PW.block (PW.loop ?_)
 suffices h1:∀ k:Nat,k≤64→PL Tryz.prog _ _ [(10,.ptr (H.length+1) 0 0),(12,.ptr (H.length+2) 0 0),(39,.slice (bs Z) 64 false),(40,.int .i64 64),(41,.int .i64 (k:Int))] (H++[⟨33,0,[.int .i64 16,.int .i64 16,.slice (bs y) y.length false,.slice (bs u) u.length false,.slice (bs v) v.length false]⟩,⟨151,0,is zi⟩,⟨151,0,is (fil (fun k=>byt P (bps n fd k)) k)⟩]) _ by
  exact PL.at [10,12,39,40,41] (h1 0 (by omega)) rfl (by rw [hz];rfl)
 refine cnt 64 (fun k hk ih=> ?_) ?_
 ·refine PL.round ?_;refine PW.e ?_;(repeat refine PW.seq ?_);refine PW.cond (t:=_) rfl (fun h=> ?_) (fun h=> ?_)
  rotate_left
  ·cases h
  have g1:=lb k hk
  rw [blk,zbI _ hk] at g1
  have f1:=zfV (fun k=>byt P (bps n fd k)) k
  have f2:=zcW (fun k=>byt P (bps n fd k)) k
  have br:=zab P (bps n fd k)
  refine PW.skip ?_;(repeat refine PW.seq ?_);refine PW.block ?_
  refine PW.f (fun K k=>by simp (disch:=omega) only [go_sem,↓reduceIte,reduceCtorEq,zbK,ze,ll,g1];exact k) ?_
  refine PW.f (fun K k=>by simp (disch:=omega) only [go_sem,↓reduceIte,reduceCtorEq,zu,f2,zbJ,f1];exact k) ?_
  refine PW.e ?_
  exact PL.at [10,12,39,40,41] ih rfl rfl
 refine PL.round ?_;refine PW.e ?_;(repeat refine PW.seq ?_);refine PW.cond (t:=_) rfl (fun h=> ?_) (fun h=> ?_)
 ·cases h
 refine PW.exit ?_
 rw [zsG]
 have c3:(blk P n fd).length=64:=zbs _ _
 have c4:(is (blk P n fd)).length=64:=by rw [zu,c3]
 have c5:=zW (blk P n fd)
 have c6:List.take 64 (is (blk P n fd))=is (blk P n fd):=List.take_of_length_le (by omega)
 have z3:(is zi).length=64:=by rw [zu,zhR]
 have z4:List.drop 64 (is zi)=[]:=List.drop_of_length_le (by omega)
 refine PW.f (fun K k=>by simp (disch:=omega) only [go_sem,↓reduceIte,reduceCtorEq,c4,c5,c6,z3,z4];exact k) ?_
 refine PW.ret ⟨.tup [.agg (is (blk P n fd)),.int .i64 0],by simp (disch:=omega) only [go_sem,↓reduceIte,reduceCtorEq,zd,zg,List.mapM_cons,List.mapM_nil,Option.pure_def,Option.bind_eq_bind,Option.bind_some,Array.toList,c4,c6],?_⟩
 exact Fin.base (.id (znr _ _ _))
def one (H:za) (r:Nat) (B:Blk):za:=H.set r B
theorem zce (H:za) (r:Nat) (B:Blk):(one H r B).length=H.length:=by unfold one;simp
theorem zgL {H:za} {r:Nat} {B:Blk} (h:H[r]? =some B):one H r B=H:=by
 have hl:=(List.getElem?_eq_some_iff.1 h)
 unfold one
 apply List.ext_getElem?
 intro i
 rw [List.getElem?_set]
 split
 ·rename_i e;subst e;rw [if_pos hl.1,h]
 ·rfl
theorem ztd {H:za} {r:Nat} (hr:r<H.length) (B:Blk):(one H r B)[r]? =some B:=by
 unfold one;rw [List.getElem?_set];simp [hr]
theorem zpl {H:za} {r:Nat} (hr:r<H.length) (B:Blk) (K:za):(one H r B++K)[r]? =some B:=by
 rw [List.getElem?_append_left (by rw [zce];exact hr),ztd hr]
theorem zpj (H:za) (r:Nat) (B X:Blk) (K:za):(one H r B++X::K)[H.length]? =some X:=by
 rw [List.getElem?_append_right (by rw [zce];omega),zce];simp
theorem ztc {H:za} {r:Nat} (B C:Blk):(one H r B).set r C=one H r C:=by unfold one;rw [List.set_set]
theorem zpk {H:za} {r:Nat} (hr:r<H.length) (B C:Blk) (K:za):(one H r B++K).set r C=one H r C++K:=by
 rw [List.set_append_left _ _ (by rw [zce];exact hr),ztc]
theorem zgl (P z:List UInt8) (a:Nat):zN (bs P) a (bs z)=bs (spl P a z):=by
 unfold zN spl
 rw [zby,zci,ze,←zau,←zau,List.append_assoc]
set_option maxHeartbeats 1600000 in
theorem zb1 (p z:List UInt8) (r v a s w n:Nat) (g f:Bool) (H:za) (hr:H[r]? =some ⟨5,v,bs p⟩) (hw:w≤64) (hn:n≤64) (hp:p.length≤8192) (hz:z.length=n * w) (hfit:∀ k,k<n→a+k * s+w≤p.length) (hs:s≤200∧a≤200):
  CallOk Tryz.prog 78 [.msl r v 0 p.length 1 g,.agg [.int .i64 (a:Int),.int .i64 (s:Int),.int .i64 (w:Int),.int .i64 (n:Int)],.slice (bs z) z.length f] H (.tup []) (H.set r ⟨5,v,bs (pst p a s w z n)⟩):=by
 have hrl:=(List.getElem?_eq_some_iff.1 hr).1
 have hne:H.length≠r:=by omega
 have hne':r≠H.length:=by omega
 have o1:=fun B K=>zpl hrl B K
 have o2:=fun B X K=>zpj H r B X K
 have o3:=fun B C K=>zpk hrl B C K
 have o4:=fun B=>zce H r B
 have hbig:n * w≤4096:=Nat.mul_le_mul hn hw
 refine CallOk.body (F0:=[(0,.msl r v 0 p.length 1 g),(1,.agg [.int .i64 (a:Int),.int .i64 (s:Int),.int .i64 (w:Int),.int .i64 (n:Int)]),(2,.slice (bs z) z.length f)]) Tryz.func78 rfl Tryz.ntmps78 Tryz.results78 rfl (by kernel_rfl) rfl ?_
 refine PW.eq rfl (zgL hr).symm ?_
 refine PW.f (fun K k=>by simp (disch:=omega) only [go_sem,↓reduceIte,reduceCtorEq,o4];exact k) ?_
 refine PW.f (fun K k=>by simp (disch:=omega) only [go_sem,↓reduceIte,reduceCtorEq,o1,o2,o3];exact k) ?_
 (repeat refine PW.seq ?_);refine PW.block (PW.loop ?_)
 suffices hloop:∀ k:Nat,k≤n→PL Tryz.prog _ _ [(0,.msl r v 0 p.length 1 g),(2,.slice (bs z) z.length f),(4,.ptr H.length 0 0),(8,.int .i64 (n:Int)),(9,.int .i64 (k:Int))] (one H r ⟨5,v,bs (pst p a s w z k)⟩++[⟨164,0,[.int .i64 (a:Int),.int .i64 (s:Int),.int .i64 (w:Int),.int .i64 (n:Int)]⟩]) _ by
  exact PL.at [0,2,4,8,9] (hloop 0 (Nat.zero_le _)) rfl rfl
 refine cnt n (fun k hk ih=> ?_) ?_
 ·have hpl:=zaz (p:=p) (a:=a) (s:=s) hz k (by omega) fun j hj=>hfit j (by omega)
  have h6:=hfit k hk
  have ct:=zgQ hk
  have eR:(k:Int) * (w:Int)=((k * w:Nat):Int):=by simp
  have b1:(k+1) * w=k * w+w:=by rw [Nat.add_mul];omega
  have eR1:((k:Int)+1) * (w:Int)=((k * w+w:Nat):Int):=by rw [←b1];simp
  have eS:(k:Int) * (s:Int)=((k * s:Nat):Int):=by simp
  have eA:(a:Int)+((k * s:Nat):Int)=((a+k * s:Nat):Int):=by simp
  have b2:(k+1) * w≤n * w:=Nat.mul_le_mul_right _ (by omega)
  have e3:k * w+w - k * w=w:=by omega
  have rl:=zbR hz hk
  have hmin:min (p.length - (a+k * s)) w=w:=by omega
  have htk:List.take w (List.take w (List.drop (k * w) z))=List.take w (List.drop (k * w) z):=List.take_of_length_le (by omega)
  rw [pst] at ih
  refine PL.round ?_;refine PW.f (fun K k=>by simp (disch:=omega) only [go_sem,↓reduceIte,reduceCtorEq,ct];exact k) ?_;(repeat refine PW.seq ?_);refine PW.cond (t:=_) rfl (fun h=> ?_) (fun h=> ?_)
  rotate_left
  ·cases h
  refine PW.skip ?_;(repeat refine PW.seq ?_);refine PW.block ?_
  refine PW.e ?_
  rw [b1] at b2
  (repeat refine PW.seq ?_);refine PW.drawt [] [] mix (by kernel_rfl) fun K hK=> ?_
  simp (disch:=omega) only [go_sem,↓reduceIte,reduceCtorEq,zaH,o1,o2,o3,eR,eR1,eS,eA,e3,ze,hpl,zci,zby,hmin,rl,htk]
  refine hK _ _ ?_;clear hK K
  refine PW.e ?_
  refine PL.at [0,2,4,8,9] ih rfl ?_
  rw [←zgl,show min w (p.length - (a+k * s))=w by omega,htk]
  first|rfl|simp [zN,zby,zci,zau,ze,rl]
 refine PL.round ?_;refine PW.f (fun K k=>by simp (disch:=omega) only [go_sem,↓reduceIte,reduceCtorEq,zit n];exact k) ?_;(repeat refine PW.seq ?_);refine PW.cond (t:=_) rfl (fun h=> ?_) (fun h=> ?_)
 ·cases h
 refine PW.exit ?_
 refine Exists.intro _ (And.intro rfl ?_)
 exact Fin.cut (A:=one H r ⟨5,v,bs (pst p a s w z n)⟩) rfl (zce _ _ _).symm (fun hh=>HSc.set hh fun x hx=>zq _ _ x hx) (.id (.tup (asc fun x hx=>by cases hx)))
theorem zfk (p:List UInt8) (f:Bool) (r:Nat) (H:za) (hr:H[r]? =some ⟨5,0,[]⟩) (hp:1≤p.length∧p.length≤100000):
  CallOk Tryz.prog 223 [.slice (bs p) p.length f] H (.msl r 1 0 p.length 1 true) (H.set r ⟨5,1,bs p⟩):=by
 have hrl:=(List.getElem?_eq_some_iff.1 hr).1
 have o1:=fun B=>ztd hrl B
 have o3:=fun B C=>ztc (H:=H) (r:=r) B C
 have rz:(List.replicate p.length [PV.int .u8 0]).flatten=bs (List.replicate p.length 0):=zcY _
 have htk:List.take p.length (bs p)=bs p:=List.take_of_length_le (by rw [ze];omega)
 refine CallOk.body (F0:=[(0,.slice (bs p) p.length f)]) Tryz.func223 rfl Tryz.ntmps223 Tryz.results223 rfl (by kernel_rfl) rfl ?_
 refine PW.e ?_
 refine PW.eq rfl (zgL hr).symm ?_
 (repeat refine PW.seq ?_);refine PW.seqi [r] [(6,0)] rfl fun K hK=> ?_
 simp (disch:=omega) only [go_sem,↓reduceIte,reduceCtorEq,o1,o3]
 refine hK _ _ ?_;clear hK K
 rw [rz]
 refine PW.f (fun K k=>by simp (disch:=omega) only [go_sem,↓reduceIte,reduceCtorEq,o1,o3,ze,htk,List.length_replicate];exact k) ?_
 refine PW.e ?_
 refine PW.ret ⟨_,rfl,.inl ⟨rfl,?_⟩⟩
 unfold one
 rw [Nat.min_self,htk,List.drop_of_length_le (by simp [ze]),List.append_nil]
theorem hscP {K0 L L':za} (hl:L'.length=L.length) (hL:∀ b∈L',∀ x∈b.cells,Scoped (K0.length+L.length) x) (h:HSc (K0++L)):HSc (K0++L'):=fun id k hk x hx=>by
 rw [List.length_append,hl]
 rw [List.getElem?_append] at hk
 split at hk
 ·rename_i hlt
  have:=h id k (by rw [List.getElem?_append_left hlt];exact hk) x hx
  rwa [List.length_append] at this
 ·exact hL k (List.mem_of_getElem? hk) x hx
def plc:Blk:=⟨5,0,[]⟩
def cpB (p:List UInt8):Blk:=⟨5,1,bs p⟩
set_option maxHeartbeats 1600000 in
theorem zhK (w ht:Int) (y u v:List UInt8) (K0:za) (hy:1≤y.length∧y.length≤100000) (hu:1≤u.length∧u.length≤100000) (hv:1≤v.length∧v.length≤100000):
  CallOk Tryz.prog 139 [.agg (fmc ⟨w,ht,y,u,v⟩)] (K0++[plc,plc,plc]) (.agg [.int .i64 w,.int .i64 ht,.msl K0.length 1 0 y.length 1 true,.msl (K0.length+1) 1 0 u.length 1 true,.msl (K0.length+2) 1 0 v.length 1 true]) (K0++[cpB y,cpB u,cpB v]):=by
 have g1:K0.length≠K0.length+1:=by omega
 refine CallOk.body (F0:=[(0,.agg [.int .i64 w,.int .i64 ht,.slice (bs y) y.length false,.slice (bs u) u.length false,.slice (bs v) v.length false])]) Tryz.func139 rfl Tryz.ntmps139 Tryz.results139 rfl (by kernel_rfl) rfl ?_
 refine PW.e ?_
 (repeat refine PW.seq ?_);refine PW.drawi [K0.length,K0.length+1,K0.length+2,K0.length+4] [(2,[3]),(8,[0]),(11,[1]),(14,[2])] [] [] mix (by kernel_rfl) (by simp<;>omega) fun K hK=> ?_
 simp (disch:=omega) only [go_sem,↓reduceIte,reduceCtorEq]
 refine VCj.wr1 (id:=K0.length) (k:=plc) (b:=cpB y) (hp0 _ _ _) (fun L hL _=>zfk y false _ L hL hy) (by simp (disch:=omega) only [go_sem,↓reduceIte,reduceCtorEq]) (.inr (by simp (disch:=omega) only [go_sem,↓reduceIte,reduceCtorEq])) rfl ?_
 simp (disch:=omega) only [go_sem,↓reduceIte,reduceCtorEq]
 refine VCj.wr1 (id:=K0.length+1) (k:=plc) (b:=cpB u) (hp1 _ _ _ _) (fun L hL _=>zfk u false _ L hL hu) (by simp (disch:=omega) only [go_sem,↓reduceIte,reduceCtorEq]) (.inr (by simp (disch:=omega) only [go_sem,↓reduceIte,reduceCtorEq])) rfl ?_
 simp (disch:=omega) only [go_sem,↓reduceIte,reduceCtorEq]
 refine VCj.wr1 (id:=K0.length+2) (k:=plc) (b:=cpB v) (hp2 _ _ _ _ _) (fun L hL _=>zfk v false _ L hL hv) (by simp (disch:=omega) only [go_sem,↓reduceIte,reduceCtorEq]) (.inr (by simp (disch:=omega) only [go_sem,↓reduceIte,reduceCtorEq])) rfl ?_
 simp (disch:=omega) only [go_sem,↓reduceIte,reduceCtorEq]
 refine hK _ _ ?_;clear hK K
 refine PW.ret ⟨.agg [.int .i64 w,.int .i64 ht,.msl K0.length 1 0 y.length 1 true,.msl (K0.length+1) 1 0 u.length 1 true,.msl (K0.length+2) 1 0 v.length 1 true],by simp (disch:=omega) only [go_sem,↓reduceIte,reduceCtorEq,zd,zg,List.mapM_cons,List.mapM_nil,Option.pure_def,Option.bind_eq_bind,Option.bind_some,Array.toList],?_⟩
 refine Fin.cut (A:=K0++[cpB y,cpB u,cpB v]) (List.append_assoc _ [_,_,_] [_,_]).symm (by simp) (hscP (by simp) fun b hb x hx=> ?_) (.id (zB fun x hx=> ?_))
 ·simp only [List.mem_cons,List.not_mem_nil,or_false] at hb
  rcases hb with rfl|rfl|rfl<;>exact zq _ _ x hx
 ·simp only [List.mem_cons,List.not_mem_nil,or_false] at hx
  rcases hx with rfl|rfl|rfl|rfl|rfl
  ·exact .int _ _
  ·exact .int _ _
  ·exact .msl (by simp only [List.length_append,List.length_cons,List.length_nil];omega)
  ·exact .msl (by simp only [List.length_append,List.length_cons,List.length_nil];omega)
  ·exact .msl (by simp only [List.length_append,List.length_cons,List.length_nil];omega)
theorem zlV (v:Int) (h: -200≤v∧v≤400):zbb .and .i64 v .i64 1=some (.int .i64 (v%2)):=by
 have key:∀ n:Nat,n<601→IntKind.i64.wrap (((BitVec.ofInt 64 ((n:Int) - 200)&&& BitVec.ofInt 64 1).toNat:Nat):Int)=((n:Int) - 200)%2:=by decide+kernel
 have:=key (v+200).toNat (by omega)
 rw [show (((v+200).toNat:Nat):Int) - 200=v by omega] at this
 show some (PV.int .i64 (IntKind.i64.wrap (((BitVec.ofInt 64 v&&& BitVec.ofInt 64 1).toNat:Nat):Int)))=_
 rw [this]
theorem zic (k':IntKind) (v:Int):zbb .shr .i64 v k' 1=some (.int .i64 (v / 2)):=by
 simp only [zbb]
 rw [if_neg (by omega),show min (1:Int).toNat IntKind.i64.bits=1 by decide,Int.fdiv_eq_ediv_of_nonneg _ (by decide)]
 rfl
theorem zrx (k':IntKind) (v:Int):zbb .shr .i64 v k' 2=some (.int .i64 (v / 4)):=by
 simp only [zbb]
 rw [if_neg (by omega),show min (2:Int).toNat IntKind.i64.bits=2 by decide,Int.fdiv_eq_ediv_of_nonneg _ (by decide)]
 rfl
theorem zdz (i n:Int) (hn:1≤n∧n≤10000) (H:za):CallOk Tryz.prog 311 [.int .i64 i,.int .i64 n] H (.int .i64 (clm i n)) H:=by
 refine CallOk.body (F0:=[(0,.int .i64 i),(1,.int .i64 n)]) Tryz.func311 rfl Tryz.ntmps311 Tryz.results311 rfl (by kernel_rfl) rfl ?_
 refine PW.e ?_
 refine PW.e ?_
 (refine PW.ret ⟨_,rfl,?_⟩;first|refine .inl ⟨?_,rfl⟩|refine Fin.base (.id' ?_ (.bool _))|refine Fin.base (.id' ?_ (.int _ _)))
 simp [slot,Nat.beq];unfold clm;omega
theorem zf1 {i:Int} {n:Nat} (hn:1≤n):∃ a:Nat,clm i n=(a:Int)∧a<n:=by
 have:=zu2 (i:=i) (n:=(n:Int)) (by omega)
 exact ⟨(clm i n).toNat,by omega,by omega⟩
theorem zmy {a b W R:Nat} (ha:a<W) (hb:b<R):b * W+a<W * R∧b * W≤W * R:=by
 have h1:(b+1) * W≤R * W:=Nat.mul_le_mul_right _ (by omega)
 rw [Nat.add_mul,Nat.one_mul,Nat.mul_comm R W] at h1
 omega
structure Itp (i2 i3 i4 i5 i6:Nat) (p:List UInt8) (W R:Nat) (dx dy:Int) (H:za):Prop where
 a:H[i2]? =some ⟨3,0,[.int .i64 (W:Int)]⟩
 b:H[i3]? =some ⟨3,1,[.int .i64 dx]⟩
 c:H[i4]? =some ⟨3,0,[.int .i64 (R:Int)]⟩
 d:H[i5]? =some ⟨3,1,[.int .i64 dy]⟩
 e:H[i6]? =some ⟨31,0,[.slice (bs p) p.length false]⟩
set_option maxHeartbeats 1600000 in
theorem zuv (i2 i3 i4 i5 i6:Nat) (p:List UInt8) (W R:Nat) (dx dy c r:Int) (H:za) (hI:Itp i2 i3 i4 i5 i6 p W R dx dy H) (hp:p.length=W * R) (hW:1≤W∧W≤64) (hR:1≤R∧R≤64) (hd:0≤dx∧dx≤1∧0≤dy∧dy≤1) (hc: -1000≤c∧c≤1000∧-1000≤r∧r≤1000):
  CallOk Tryz.prog 310 [.int .i64 c,.int .i64 r,.ptr i2 0 0,.ptr i3 1 0,.ptr i4 0 0,.ptr i5 1 0,.ptr i6 0 0] H (.int .u8 ((smp p W R c r+smp p W R (c+dx) r+smp p W R c (r+dy)+smp p W R (c+dx) (r+dy)+2) / 4)) H:=by
 obtain ⟨h2,h3,h4,h5,h6⟩:=hI
 have n1:=fun K=>zdz c W (by omega) K
 have n2:=fun K=>zdz (c+dx) W (by omega) K
 have n3:=fun K=>zdz r R (by omega) K
 have n4:=fun K=>zdz (r+dy) R (by omega) K
 have s1:smp p W R c r=byt p (clm r R * W+clm c W).toNat:=rfl
 have s2:smp p W R (c+dx) r=byt p (clm r R * W+clm (c+dx) W).toNat:=rfl
 have s3:smp p W R c (r+dy)=byt p (clm (r+dy) R * W+clm c W).toNat:=rfl
 have s4:smp p W R (c+dx) (r+dy)=byt p (clm (r+dy) R * W+clm (c+dx) W).toNat:=rfl
 obtain ⟨a,ea,la⟩:=zf1 (i:=c) hW.1
 obtain ⟨b,eb,lb⟩:=zf1 (i:=c+dx) hW.1
 obtain ⟨u,eu,lu⟩:=zf1 (i:=r) hR.1
 obtain ⟨l,el,ll⟩:=zf1 (i:=r+dy) hR.1
 rw [ea] at n1;rw [eb] at n2;rw [eu] at n3;rw [el] at n4
 rw [ea,eu] at s1;rw [eb,eu] at s2;rw [ea,el] at s3;rw [eb,el] at s4
 have bg:W * R≤64 * 64:=Nat.mul_le_mul (by omega) (by omega)
 have k1:=zmy la lu
 have k2:=zmy lb lu
 have k3:=zmy la ll
 have k4:=zmy lb ll
 have e0:(u:Int) * (W:Int)=((u * W:Nat):Int):=by simp
 have e1:(l:Int) * (W:Int)=((l * W:Nat):Int):=by simp
 have e2:((u * W:Nat):Int)+(a:Int)=((u * W+a:Nat):Int):=by omega
 have e3:((u * W:Nat):Int)+(b:Int)=((u * W+b:Nat):Int):=by omega
 have e4:((l * W:Nat):Int)+(a:Int)=((l * W+a:Nat):Int):=by omega
 have e5:((l * W:Nat):Int)+(b:Int)=((l * W+b:Nat):Int):=by omega
 rw [e0,e2,Int.toNat_natCast] at s1
 rw [e0,e3,Int.toNat_natCast] at s2
 rw [e1,e4,Int.toNat_natCast] at s3
 rw [e1,e5,Int.toNat_natCast] at s4
 rw [s1,s2,s3,s4]
 have r1:=zab p (u * W+a)
 have r2:=zab p (u * W+b)
 have r3:=zab p (l * W+a)
 have r4:=zab p (l * W+b)
 refine CallOk.body (F0:=[(0,.int .i64 c),(1,.int .i64 r),(2,.ptr i2 0 0),(3,.ptr i3 1 0),(4,.ptr i4 0 0),(5,.ptr i5 1 0),(6,.ptr i6 0 0)]) Tryz.func310 rfl Tryz.ntmps310 Tryz.results310 rfl (by kernel_rfl) rfl ?_
 refine PW.e ?_
 (repeat refine PW.seq ?_);refine PW.draw mix (by kernel_rfl) fun K hK=> ?_;simp (disch:=omega) only [go_sem,↓reduceIte,reduceCtorEq,h2,h3]
 (repeat' (first|((first|refine zn ?_ ?_|refine And.intro ?_ ?_)<;>intro h<;>(try simp only [nqb] at h)<;>simp (disch:=omega) only [go_sem,↓reduceIte,reduceCtorEq,h2,h3,h])|((first|refine VCy.call (n1 _) rfl ?_|refine VCy.call (n2 _) rfl ?_);simp (disch:=omega) only [go_sem,↓reduceIte,reduceCtorEq,h2,h3])))
 refine hK _ _ ?_;clear hK K
 (repeat refine PW.seq ?_);refine PW.draw mix (by kernel_rfl) fun K hK=> ?_;simp (disch:=omega) only [go_sem,↓reduceIte,reduceCtorEq,h2,h4,h5,e0,e1]
 (repeat' (first|((first|refine zn ?_ ?_|refine And.intro ?_ ?_)<;>intro h<;>(try simp only [nqb] at h)<;>simp (disch:=omega) only [go_sem,↓reduceIte,reduceCtorEq,h2,h4,h5,e0,e1,h])|((first|refine VCy.call (n3 _) rfl ?_|refine VCy.call (n4 _) rfl ?_);simp (disch:=omega) only [go_sem,↓reduceIte,reduceCtorEq,h2,h4,h5,e0,e1])))
 refine hK _ _ ?_;clear hK K
 (repeat refine PW.seq ?_);refine PW.draw mix (by kernel_rfl) fun K hK=> ?_;simp (disch:=omega) only [go_sem,↓reduceIte,reduceCtorEq,h6,e2,e3,e4,e5,zbK,ze];refine hK _ _ ?_;clear hK K
 refine PW.f (fun K k=>by simp (disch:=omega) only [go_sem,↓reduceIte,reduceCtorEq,zrx];exact k) ?_
 (refine PW.ret ⟨_,rfl,?_⟩;first|refine .inl ⟨?_,rfl⟩|refine Fin.base (.id' ?_ (.bool _))|refine Fin.base (.id' ?_ (.int _ _)))
 rfl
def prk (p:List UInt8) (W R x y:Int) (w:Nat) (vx vy:Int) (k:Nat):List UInt8:=rgB k fun k=>pxl p W R (x+((k%w:Nat):Int)) (y+((k / w:Nat):Int)) vx vy
theorem zlR (p:List UInt8) (W R x y:Int) (w:Nat) (vx vy:Int) (k:Nat):(prk p W R x y w vx vy k).length=k:=zcN _ _
theorem zoV (p:List UInt8) (W R x y:Int) (w:Nat) (vx vy:Int) (j i:Nat) (hi:i<w):bs (prk p W R x y w vx vy (j * w+(i+1)))=bs (prk p W R x y w vx vy (j * w+i))++[.int .u8 (pxl p W R (x+(i:Int)) (y+(j:Int)) vx vy)]:=by
 have e1:(j * w+i)%w=i:=by rw [Nat.add_comm,Nat.add_mul_mod_self_right];exact Nat.mod_eq_of_lt hi
 have e2:(j * w+i) / w=j:=by rw [Nat.add_comm,Nat.add_mul_div_right _ _ (by omega),Nat.div_eq_of_lt hi,Nat.zero_add]
 rw [prk,←Nat.add_assoc,zoL,zau,zu7,e1,e2,zeL (zoR _ _ _ _ _ _ _)]
 rfl
theorem zry (p:List UInt8) (W R x y:Int) (w h:Nat) (vx vy:Int):prk p W R x y w vx vy (h * w)=prd p W R x y w h vx vy:=by rw [prk,prd,Nat.mul_comm]
set_option maxHeartbeats 3200000 in
theorem zdU (p:List UInt8) (W R w hg:Nat) (x y vx vy:Int) (H:za) (hp:p.length=W * R) (hW:1≤W∧W≤64) (hR:1≤R∧R≤64) (hw:1≤w∧w≤16) (hgb:hg≤16) (hx:0≤x∧x≤64∧0≤y∧y≤64) (hv: -63≤vx∧vx≤63∧-63≤vy∧vy≤63):
  CallOk Tryz.prog 295 [.slice (bs p) p.length false,.int .i64 (W:Int),.int .i64 (R:Int),.agg [.int .i64 x,.int .i64 y,.int .i64 (w:Int),.int .i64 (hg:Int)],.agg [.int .i64 vx,.int .i64 vy]] H (.slice (bs (prd p W R x y w hg vx vy)) (w * hg) false) H:=by
 have e0:(w:Int) * (hg:Int)=((hg * w:Nat):Int):=by rw [Nat.mul_comm];simp
 have hbig:hg * w≤16 * 16:=Nat.mul_le_mul hgb hw.2
 have a1:=zlV vx (by omega)
 have a2:=zlV vy (by omega)
 refine CallOk.body (F0:=[(0,.slice (bs p) p.length false),(1,.int .i64 (W:Int)),(2,.int .i64 (R:Int)),(3,.agg [.int .i64 x,.int .i64 y,.int .i64 (w:Int),.int .i64 (hg:Int)]),(4,.agg [.int .i64 vx,.int .i64 vy])]) Tryz.func295 rfl Tryz.ntmps295 Tryz.results295 rfl (by kernel_rfl) rfl ?_
 refine PW.e ?_
 refine PW.view (Vs.place 3) ?_
 refine PW.view (Vs.place 3) ?_
 (repeat refine PW.seq ?_);refine PW.drawi [H.length+5,H.length+6] [(11,[0]),(12,[1])] [(11,0),(12,1)] [] mix (by kernel_rfl) (by simp<;>omega) fun K hK=> ?_
 simp (disch:=omega) only [go_sem,↓reduceIte,reduceCtorEq,zaH,a1,a2]
 refine hK _ _ ?_;clear hK K
 refine PW.e ?_
 refine PW.f (fun K k=>by simp (disch:=omega) only [go_sem,↓reduceIte,reduceCtorEq,e0];exact k) ?_
 refine PW.e ?_
 (repeat refine PW.seq ?_);refine PW.block (PW.loop ?_)
 suffices h1:∀ j:Nat,j≤hg→PL Tryz.prog _ _ [(8,.ptr (H.length+3) 0 0),(9,.ptr (H.length+4) 0 0),(13,.func 310 [] [.ptr (H.length+1) 0 0,.ptr (H.length+5) 1 0,.ptr (H.length+2) 0 0,.ptr (H.length+6) 1 0,.ptr H.length 0 0]),(14,.msl (H.length+7) (j * w) 0 (j * w) 1 true),(31,.int .i64 (hg:Int)),(32,.int .i64 (j:Int))] (H++[⟨31,0,[.slice (bs p) p.length false]⟩,⟨3,0,[.int .i64 (W:Int)]⟩,⟨3,0,[.int .i64 (R:Int)]⟩,⟨353,0,[.int .i64 x,.int .i64 y,.int .i64 (w:Int),.int .i64 (hg:Int)]⟩,⟨145,0,[.int .i64 vx,.int .i64 vy]⟩,⟨3,1,[.int .i64 (vx%2)]⟩,⟨3,1,[.int .i64 (vy%2)]⟩,⟨5,j * w,bs (prk p W R x y w vx vy (j * w))⟩]) _ by
  exact PL.at [8,9,13,14,31,32] (h1 0 (by omega)) (by rw [Nat.zero_mul];rfl) (by rw [Nat.zero_mul];rfl)
 refine cnt hg (fun j hj ih=> ?_) ?_
 ·have ct:=zgQ hj
  refine PL.round ?_;refine PW.f (fun K k=>by simp (disch:=omega) only [go_sem,↓reduceIte,reduceCtorEq,ct];exact k) ?_;(repeat refine PW.seq ?_);refine PW.cond (t:=_) rfl (fun h=> ?_) (fun h=> ?_)
  rotate_left
  ·cases h
  refine PW.skip ?_;(repeat refine PW.seq ?_);refine PW.block ?_
  refine PW.e ?_
  refine PW.e ?_
  (repeat refine PW.seq ?_);refine PW.block (PW.loop ?_)
  suffices h2:∀ i:Nat,i≤w→PL Tryz.prog _ _ [(8,.ptr (H.length+3) 0 0),(9,.ptr (H.length+4) 0 0),(13,.func 310 [] [.ptr (H.length+1) 0 0,.ptr (H.length+5) 1 0,.ptr (H.length+2) 0 0,.ptr (H.length+6) 1 0,.ptr H.length 0 0]),(14,.msl (H.length+7) (j * w+i) 0 (j * w+i) 1 true),(15,.int .i64 (j:Int)),(31,.int .i64 (hg:Int)),(32,.int .i64 (j:Int)),(36,.int .i64 (w:Int)),(37,.int .i64 (i:Int))] (H++[⟨31,0,[.slice (bs p) p.length false]⟩,⟨3,0,[.int .i64 (W:Int)]⟩,⟨3,0,[.int .i64 (R:Int)]⟩,⟨353,0,[.int .i64 x,.int .i64 y,.int .i64 (w:Int),.int .i64 (hg:Int)]⟩,⟨145,0,[.int .i64 vx,.int .i64 vy]⟩,⟨3,1,[.int .i64 (vx%2)]⟩,⟨3,1,[.int .i64 (vy%2)]⟩,⟨5,j * w+i,bs (prk p W R x y w vx vy (j * w+i))⟩]) _ by
   exact PL.at [8,9,13,14,15,31,32,36,37] (h2 0 (by omega)) rfl rfl
  refine cnt w (fun i hi ih2=> ?_) ?_
  ·have ct:=zgQ hi
   refine PL.round ?_;refine PW.f (fun K k=>by simp (disch:=omega) only [go_sem,↓reduceIte,reduceCtorEq,ct];exact k) ?_;(repeat refine PW.seq ?_);refine PW.cond (t:=_) rfl (fun h=> ?_) (fun h=> ?_)
   rotate_left
   ·cases h
   have b2:(j+1) * w≤hg * w:=Nat.mul_le_mul_right _ (by omega)
   rw [Nat.add_mul,Nat.one_mul] at b2
   have pl:=zlR p W R x y w vx vy (j * w+i)
   have it:=zuv (H.length+1) (H.length+5) (H.length+2) (H.length+6) H.length p W R (vx%2) (vy%2) (x+(i:Int)+vx / 2) (y+(j:Int)+vy / 2) (H++[⟨31,0,[.slice (bs p) p.length false]⟩,⟨3,0,[.int .i64 (W:Int)]⟩,⟨3,0,[.int .i64 (R:Int)]⟩,⟨353,0,[.int .i64 x,.int .i64 y,.int .i64 (w:Int),.int .i64 (hg:Int)]⟩,⟨145,0,[.int .i64 vx,.int .i64 vy]⟩,⟨3,1,[.int .i64 (vx%2)]⟩,⟨3,1,[.int .i64 (vy%2)]⟩,⟨5,j * w+i,bs (prk p W R x y w vx vy (j * w+i))⟩]) ⟨apn _ _ 1,apn _ _ 5,apn _ _ 2,apn _ _ 6,hp0 _ _ _⟩ hp hW hR (by omega) (by omega)
   rw [←pxl] at it
   rw [zoV _ _ _ _ _ _ _ _ _ _ hi] at ih2
   refine PW.skip ?_;(repeat refine PW.seq ?_);refine PW.block ?_
   refine PW.e ?_
   refine PW.f (fun K k=>by simp (disch:=omega) only [go_sem,↓reduceIte,reduceCtorEq,zic,ze,pl];refine VCx.call (it) rfl ?_;simp (disch:=omega) only [go_sem,↓reduceIte,reduceCtorEq,zic,ze,pl];exact k) ?_
   refine PW.e ?_
   have lp:(bs (prk p W R x y w vx vy (j * w+i))++[PV.int .u8 (pxl p W R (x+(i:Int)) (y+(j:Int)) vx vy)]).length=j * w+(i+1):=by simp [ze,pl];omega
   exact PL.at [8,9,13,14,15,31,32,36,37] ih2 (by rw [lp];rfl) (by rw [lp])
  ·refine PL.round ?_;refine PW.f (fun K k=>by simp (disch:=omega) only [go_sem,↓reduceIte,reduceCtorEq,zit w];exact k) ?_;(repeat refine PW.seq ?_);refine PW.cond (t:=_) rfl (fun h=> ?_) (fun h=> ?_)
   ·cases h
   refine PW.exit ?_
   refine PW.e ?_
   exact PL.at [8,9,13,14,31,32] ih (by rw [Nat.add_mul,Nat.one_mul];rfl) (by rw [Nat.add_mul,Nat.one_mul])
 refine PL.round ?_;refine PW.f (fun K k=>by simp (disch:=omega) only [go_sem,↓reduceIte,reduceCtorEq,zit hg];exact k) ?_;(repeat refine PW.seq ?_);refine PW.cond (t:=_) rfl (fun h=> ?_) (fun h=> ?_)
 ·cases h
 refine PW.exit ?_
 have pl:=zlR p W R x y w vx vy (hg * w)
 refine PW.e ?_
 rw [←zry,Nat.mul_comm w hg]
 refine PW.ret ⟨_,rfl,?_⟩
 exact Fin.base (Fz.mslC (e:=5) (xs:=bs (prk p W R x y w vx vy (hg * w))) (by omega) (apn _ _ 7) (by rw [ze,pl];omega) (FzC.refl (zq _ _)))
def flB (N:Nat) (f:Nat→Int) (n:Nat):List UInt8:=rgB N fun j=>if j<n then f j else 0
theorem zmh (N:Nat) (f:Nat→Int) (n:Nat):(flB N f n).length=N:=zcN _ _
theorem ztq (N:Nat) (f:Nat→Int):bs (flB N f 0)=zbD N [PV.int .u8 0]:=by
 rw [zcY]
 congr 1
 apply List.ext_getElem
 ·simp [flB,rgB]
 intro i h1 h2
 simp [flB,rgB,u8]
theorem zmg {N:Nat} {f:Nat→Int} {n:Nat} (hf:0≤f n∧f n≤255):(bs (flB N f n)).set n (.int .u8 (f n))=bs (flB N f (n+1)):=by
 conv=>lhs;rw [←zeL hf]
 rw [zu5]
 congr 1
 apply List.ext_getElem
 ·simp [flB,rgB]
 intro i h1 h2
 simp only [flB,rgB,List.getElem_set,List.getElem_map,List.getElem_range]
 by_cases hi:n=i
 ·subst hi;rw [if_pos rfl,if_pos (by omega)]
 ·rw [if_neg hi]
  by_cases h3:i<n
  ·rw [if_pos h3,if_pos (by omega)]
  ·rw [if_neg h3,if_neg (by omega)]
theorem zmi (N:Nat) (f:Nat→Int):flB N f N=rgB N f:=zrl fun i hi=>if_pos hi
set_option maxHeartbeats 1600000 in
theorem zio (a b:List UInt8) (f g:Bool) (H:za) (hl:a.length=b.length) (ha:a.length≤8192):CallOk Tryz.prog 296 [.slice (bs a) a.length f,.slice (bs b) b.length g] H (.slice (bs (mnb a b)) a.length false) H:=by
 have hz:=ztq a.length (fun i=>(byt a i+byt b i+1) / 2)
 have he:=zmi a.length (fun i=>(byt a i+byt b i+1) / 2)
 rw [←mnb] at he
 refine CallOk.body (F0:=[(0,.slice (bs a) a.length f),(1,.slice (bs b) b.length g)]) Tryz.func296 rfl Tryz.ntmps296 Tryz.results296 rfl (by kernel_rfl) rfl ?_
 refine PW.e ?_
 refine PW.e ?_
 refine PW.e ?_
 (repeat refine PW.seq ?_);refine PW.block (PW.loop ?_)
 suffices h1:∀ k:Nat,k≤a.length→PL Tryz.prog _ _ [(1,.slice (bs b) b.length g),(5,.msl H.length 0 0 a.length 1 true),(11,.slice (bs a) a.length f),(12,.int .i64 (a.length:Int)),(13,.int .i64 (k:Int))] (H++[⟨5,0,bs (flB a.length (fun i=>(byt a i+byt b i+1) / 2) k)⟩]) _ by
  exact PL.at [1,5,11,12,13] (h1 0 (by omega)) rfl (by rw [hz];rfl)
 refine cnt a.length (fun k hk ih=> ?_) ?_
 ·have ct:=zgQ hk
  have r1:=zab a k
  have r2:=zab b k
  have fl:=zmh a.length (fun i=>(byt a i+byt b i+1) / 2) k
  have fs:=zmg (N:=a.length) (f:=fun i=>(byt a i+byt b i+1) / 2) (n:=k) (by show 0≤(byt a k+byt b k+1) / 2∧(byt a k+byt b k+1) / 2≤255;omega)
  refine PL.round ?_;refine PW.f (fun K k=>by simp (disch:=omega) only [go_sem,↓reduceIte,reduceCtorEq,ct];exact k) ?_;(repeat refine PW.seq ?_);refine PW.cond (t:=_) rfl (fun h=> ?_) (fun h=> ?_)
  rotate_left
  ·cases h
  refine PW.skip ?_;(repeat refine PW.seq ?_);refine PW.block ?_
  refine PW.f (fun K k=>by simp (disch:=omega) only [go_sem,↓reduceIte,reduceCtorEq,zbK,ze];exact k) ?_
  refine PW.f (fun K k=>by simp (disch:=omega) only [go_sem,↓reduceIte,reduceCtorEq,zbK,ze,fl,zic,fs];exact k) ?_
  refine PW.e ?_
  exact PL.at [1,5,11,12,13] ih rfl rfl
 refine PL.round ?_;refine PW.f (fun K k=>by simp (disch:=omega) only [go_sem,↓reduceIte,reduceCtorEq,zit a.length];exact k) ?_;(repeat refine PW.seq ?_);refine PW.cond (t:=_) rfl (fun h=> ?_) (fun h=> ?_)
 ·cases h
 refine PW.exit ?_
 rw [he]
 refine PW.e ?_
 refine PW.ret ⟨_,rfl,?_⟩
 exact Fin.base (Fz.mslC (e:=5) (xs:=bs (mnb a b)) (by omega) (hp0 _ _ _) (by rw [ze,zcR];omega) (FzC.refl (zq _ _)))
theorem zvW (y u v p:List UInt8) (w h:Int):zhd ⟨w,h,y,u,v⟩ 4 p=⟨w,h,y,p,v⟩:=rfl
theorem zvV (y u v p:List UInt8) (w h:Int):zhd ⟨w,h,y,u,v⟩ 5 p=⟨w,h,y,u,p⟩:=rfl
theorem zvU (y u v p:List UInt8) (w h:Int) {n:Nat} (h4:n≠4) (h5:n≠5):zhd ⟨w,h,y,u,v⟩ n p=⟨w,h,p,u,v⟩:=by unfold zhd;rw [if_neg h4,if_neg h5]
theorem zwP (y u v:List UInt8) (w h:Int) {n:Nat} (h4:n≠4) (h5:n≠5):cmp ⟨w,h,y,u,v⟩ n=y:=by unfold cmp;rw [if_neg h4,if_neg h5]
theorem zqp (w ht:Int) (r a b c:Nat) (n:Nat) (H:za) (hr:r+2<H.length) (hn:n<6):CallOk Tryz.prog 289 [.agg [.int .i64 w,.int .i64 ht,.msl r 1 0 a 1 true,.msl (r+1) 1 0 b 1 true,.msl (r+2) 1 0 c 1 true],.int .i64 (n:Int)] H (if n=4 then .msl (r+1) 1 0 b 1 true else if n=5 then .msl (r+2) 1 0 c 1 true else .msl r 1 0 a 1 true) H:=by
 refine CallOk.body (F0:=[(0,.agg [.int .i64 w,.int .i64 ht,.msl r 1 0 a 1 true,.msl (r+1) 1 0 b 1 true,.msl (r+2) 1 0 c 1 true]),(1,.int .i64 (n:Int))]) Tryz.func289 rfl Tryz.ntmps289 Tryz.results289 rfl (by kernel_rfl) rfl ?_
 refine PW.e ?_
 refine PW.e ?_
 (repeat refine PW.seq ?_);refine PW.block ?_
 refine PW.e ?_
 (repeat refine PW.seq ?_);refine PW.cond (t:=_) rfl (fun h=> ?_) (fun h=> ?_)
 ·have e:n=4:=by have:=of_decide_eq_true h;omega
  subst e
  refine PW.e ?_
  exact PW.ret ⟨_,rfl,Fin.base (.id (.msl (by omega)))⟩
 have e4:n≠4:=by have:=of_decide_eq_false h;omega
 rw [if_neg e4]
 refine PW.e ?_
 (repeat refine PW.seq ?_);refine PW.cond (t:=_) rfl (fun h=> ?_) (fun h=> ?_)
 ·have e:n=5:=by have:=of_decide_eq_true h;omega
  subst e
  refine PW.e ?_
  exact PW.ret ⟨_,rfl,Fin.base (.id (.msl (by omega)))⟩
 have e5:n≠5:=by have:=of_decide_eq_false h;omega
 rw [if_neg e5]
 refine PW.skip ?_
 refine PW.e ?_
 exact PW.ret ⟨_,rfl,Fin.base (.id (.msl (by omega)))⟩
theorem za5 (n:Nat) (a b:Int) (p q r:List UInt8) (i j k:Nat) (e f g:Bool):∀ x∈[PV.int .i64 a,PV.int .i64 b,PV.slice (bs p) i e,PV.slice (bs q) j f,PV.slice (bs r) k g],Scoped n x:=fun x hx=>by
 simp only [List.mem_cons,List.not_mem_nil,or_false] at hx
 rcases hx with rfl|rfl|rfl|rfl|rfl
 ·exact .int _ _
 ·exact .int _ _
 ·exact zr (zq _ _)
 ·exact zr (zq _ _)
 ·exact zr (zq _ _)
theorem zv3 (x:List Int):flB 64 (fun k=>clp (zh x k)) 64=rgB 64 fun k=>clp (zh x k):=zmi _ _
set_option maxHeartbeats 3200000 in
set_option maxRecDepth 100000 in
theorem zjp (f:Fm) (hf:F16 f) (n:Nat) (hn:n<6) (fd:Bool) (x:List Int) (hx:x.length=64) (H:za):
  CallOk Tryz.prog 214 [.agg (fmc f),.int .i64 0,.int .i64 0,.int .i64 (n:Int),.bool fd,.agg (is x)] H (.tup [.agg (fmc (zhd f n (zee (cmp f n) n fd x))),.int .i64 0]) H:=by
 have hm:=fun K=>zk6 f 0 0 K
 rw [hf.has] at hm
 have po:=fun K=>zjD n fd hn K
 have cl:=hf.cmp hn
 have bfb:bfr n fd≤150∧bst n fd≤150:=by
  rcases or6 hn with rfl|rfl|rfl|rfl|rfl|rfl<;>cases fd<;>decide
 have bb:bln n≤256:=by unfold bln;split<;>omega
 have hfit:∀ k,k<8→bfr n fd+k * bst n fd+8≤(cmp f n).length:=fun k hk=>by rw [cl];exact znw hn k hk
 have zl:(rgB 64 fun k=>clp (zh x k)).length=64:=zcN _ _
 have pa:=fun r K hr=>zb1 (cmp f n) (rgB 64 fun k=>clp (zh x k)) r 1 (bfr n fd) (bst n fd) 8 8 true false K hr (by omega) (by omega) (by omega) zl hfit (by omega)
 have hsl:=zgo (fd:=fd) (x:=x) hn cl
 have hset:pst (cmp f n) (bfr n fd) (bst n fd) 8 (rgB 64 fun k=>clp (zh x k)) 8=zee (cmp f n) n fd x:=rfl
 have hz:=ztq 64 (fun k=>clp (zh x k))
 obtain ⟨w,ht,y,u,v⟩:=f
 obtain ⟨hw,hh,l1,l2,l3⟩:=hf
 simp only at hw hh l1 l2 l3
 subst hw hh
 rw [hset] at pa
 have hall:=zW x
 have tkx:List.take 64 (is x)=is x:=List.take_of_length_le (by rw [zu];omega)
 have fc:=zhK 16 16 y u v (H++[⟨33,0,fmc ⟨16,16,y,u,v⟩⟩,⟨151,0,is x⟩,⟨33,0,[.int .i64 0,.int .i64 0,.slice [] 0 true,.slice [] 0 true,.slice [] 0 true]⟩]) (by omega) (by omega) (by omega)
 simp only [fmc,plc,l1,l2,l3,zl,hl3,List.append_assoc,List.cons_append,List.nil_append,Nat.add_assoc,Nat.reduceAdd] at hm fc pa ⊢
 unfold zeG at po
 obtain ⟨Z,hZ⟩:∃ Z,rgB 64 (fun k=>clp (zh x k))=Z:=⟨_,rfl⟩
 rw [hZ] at pa zl
 have hZ2:flB 64 (fun k=>clp (zh x k)) 64=Z:=(zv3 x).trans hZ
 refine CallOk.body (F0:=[(0,.agg [.int .i64 16,.int .i64 16,.slice (bs y) 256 false,.slice (bs u) 64 false,.slice (bs v) 64 false]),(1,.int .i64 0),(2,.int .i64 0),(3,.int .i64 (n:Int)),(4,.bool fd),(5,.agg (is x))]) Tryz.func214 rfl Tryz.ntmps214 Tryz.results214 rfl (by kernel_rfl) rfl ?_
 refine PW.f (fun K k=>by simp (disch:=omega) only [go_sem,↓reduceIte,reduceCtorEq,hall];exact k) ?_
 (repeat refine PW.seq ?_)
 refine PW.rgv (P:=Tryz.prog) [1,2,3,4,6,11,12,13] 30 (.bool false) ?_ ?_ ?_
 ·rfl
 ·simp (disch:=omega) only [go_sem,↓reduceIte,reduceCtorEq];(repeat' (first|((first|refine zk ?_ ?_|refine And.intro ?_ ?_)<;>intro h<;>(try simp only [nqb] at h)<;>simp (disch:=omega) only [go_sem,↓reduceIte,reduceCtorEq,h])|((first|refine VCx.call (hm _) rfl ?_);simp (disch:=omega) only [go_sem,↓reduceIte,reduceCtorEq])))
  all_goals (simp_all [slot,Nat.beq]<;>first|rfl|omega|(rw [Bool.eq_iff_iff];simp;done)|(rw [Bool.eq_iff_iff];simp;omega))
 (repeat refine PW.seq ?_);refine PW.cond (t:=_) rfl (fun h=> ?_) (fun h=> ?_)
 ·cases h
 refine PW.skip ?_
 refine PW.e ?_
 refine PW.f (fun K k=>by simp (disch:=omega) only [go_sem,↓reduceIte,reduceCtorEq,zu,tkx];exact k) ?_
 (repeat refine PW.seq ?_);refine PW.block (PW.loop ?_)
 suffices h1:∀ k:Nat,k≤64→PL Tryz.prog _ _ [(1,.int .i64 0),(2,.int .i64 0),(3,.int .i64 (n:Int)),(4,.bool fd),(6,.ptr H.length 0 0),(12,.ptr (H.length+2) 0 0),(14,.msl (H.length+3) 0 0 64 1 true),(33,.agg (is x)),(34,.int .i64 (k:Int))] (H++[⟨33,0,[.int .i64 16,.int .i64 16,.slice (bs y) 256 false,.slice (bs u) 64 false,.slice (bs v) 64 false]⟩,⟨151,0,is x⟩,⟨33,0,[.int .i64 0,.int .i64 0,.slice [] 0 true,.slice [] 0 true,.slice [] 0 true]⟩,⟨5,0,bs (flB 64 (fun k=>clp (zh x k)) k)⟩]) _ by
  exact PL.at [1,2,3,4,6,12,14,33,34] (h1 0 (by omega)) rfl (by rw [hz];rfl)
 refine cnt 64 (fun k hk ih=> ?_) ?_
 ·refine PL.round ?_;refine PW.e ?_;(repeat refine PW.seq ?_);refine PW.cond (t:=_) rfl (fun h=> ?_) (fun h=> ?_)
  rotate_left
  ·cases h
  have b1:=zg6 (zh x k)
  have cp:(if 255<(if zh x k<0 then 0 else zh x k) then 255 else (if zh x k<0 then 0 else zh x k))=clp (zh x k):=by unfold clp;omega
  have f1:=zmg (N:=64) (f:=fun k=>clp (zh x k)) (n:=k) b1
  have f2:=zmh 64 (fun k=>clp (zh x k)) k
  refine PW.skip ?_;(repeat refine PW.seq ?_);refine PW.block ?_
  refine PW.f (fun K k=>by simp (disch:=omega) only [go_sem,↓reduceIte,reduceCtorEq,zbq,zu,hx];exact k) ?_
  refine PW.f (fun K k=>by simp (disch:=omega) only [go_sem,↓reduceIte,reduceCtorEq,ze,f2,cp,f1];exact k) ?_
  refine PW.e ?_
  exact PL.at [1,2,3,4,6,12,14,33,34] ih rfl rfl
 refine PL.round ?_;refine PW.e ?_;(repeat refine PW.seq ?_);refine PW.cond (t:=_) rfl (fun h=> ?_) (fun h=> ?_)
 ·cases h
 refine PW.exit ?_
 rw [hZ2]
 refine PW.view (Vs.trim (F1:=[(1,.int .i64 0),(2,.int .i64 0),(3,.int .i64 (n:Int)),(4,.bool fd),(6,.ptr H.length 0 0),(12,.ptr (H.length+2) 0 0),(14,.slice (bs Z) 64 false)]) (H1:=H++[⟨33,0,[.int .i64 16,.int .i64 16,.slice (bs y) 256 false,.slice (bs u) 64 false,.slice (bs v) 64 false]⟩,⟨151,0,is x⟩,⟨33,0,[.int .i64 0,.int .i64 0,.slice [] 0 true,.slice [] 0 true,.slice [] 0 true]⟩]) (ziz ?_) (by simp) (List.append_assoc _ [_,_,_] [_]).symm ?_) ?_
 ·intro b hb z hz
  simp only [List.mem_cons,List.not_mem_nil,or_false] at hb
  rcases hb with rfl|rfl|rfl
  ·exact za5 _ 16 16 y u v _ _ _ _ _ _ z hz
  ·exact zat _ _ z hz
  ·exact za5 _ 0 0 [] [] [] _ _ _ _ _ _ z hz
 ·rw [hl3]
  exact ⟨.id (.int _ _),.id (.int _ _),.id (.int _ _),.id (.bool _),.id (.ptr (by omega)),.id (.ptr (by omega)),Fz.mslC (e:=5) (xs:=bs Z) (by omega) (apn _ _ 3) (by rw [ze,zl]) (FzC.refl (zq _ _)),trivial⟩
 refine PW.view (Vs.place 5) ?_
 refine PW.view (Vs.place 5) ?_
 refine PW.view (Vs.place 5) ?_
 refine PW.f (fun K k=>by simp (disch:=omega) only [go_sem,↓reduceIte,reduceCtorEq];refine VCx.call (fc) rfl ?_;simp (disch:=omega) only [go_sem,↓reduceIte,reduceCtorEq];exact k) ?_
 have co:=fun L hL=>zqp 16 16 (H.length+3) 256 64 64 n L hL hn
 simp only [Nat.add_assoc,Nat.reduceAdd] at co
 by_cases h4:n=4
 ·subst h4
  have cu:cmp ⟨16,16,y,u,v⟩ 4=u:=rfl
  rw [cu] at hsl pa cl
  rw [cu,zvW]
  simp only [if_pos,hsl,l1,l2,l3] at co pa ⊢
  (repeat refine PW.seq ?_);refine PW.drawi [H.length+4] [(50,[0])] [] [50,57] mix (by kernel_rfl) (by simp<;>omega) fun K hK=> ?_
  simp (disch:=omega) only [go_sem,↓reduceIte,reduceCtorEq]
  refine VCj.read (fun L hL=>co L (by have:=hL.len;simp at this;omega)) rfl ?_
  simp (disch:=omega) only [go_sem,↓reduceIte,reduceCtorEq]
  refine VCj.read (fun _ _=>po _) rfl ?_
  simp (disch:=omega) only [go_sem,↓reduceIte,reduceCtorEq]
  refine VCj.wr1 (id:=H.length+4) (k:=cpB u) (b:=cpB (zee u 4 fd x)) (apn _ _ 4) (fun L hL _=>pa _ L hL) (by simp (disch:=omega) only [go_sem,↓reduceIte,reduceCtorEq]) (.inl rfl) rfl ?_
  simp (disch:=omega) only [go_sem,↓reduceIte,reduceCtorEq]
  refine hK _ _ ?_;clear hK K
  refine PW.e ?_
  refine PW.ret ⟨.tup [.agg [.int .i64 16,.int .i64 16,.msl (H.length+3) 1 0 256 1 true,.msl (H.length+4) 1 0 64 1 true,.msl (H.length+5) 1 0 64 1 true],.int .i64 0],by simp (disch:=omega) only [go_sem,↓reduceIte,reduceCtorEq,zd,zg,List.mapM_cons,List.mapM_nil,Option.pure_def,Option.bind_eq_bind,Option.bind_some,Array.toList],?_⟩
  refine Fin.base (Fz.tupC ⟨Fz.aggC ⟨.id (.int _ _),.id (.int _ _),Fz.mslC (e:=5) (xs:=bs y) (by omega) (apn _ _ 3) (by rw [ze];omega) (FzC.refl (zq _ _)),Fz.mslC (e:=5) (xs:=bs (zee u 4 fd x)) (by omega) (apn _ _ 4) (by rw [ze];omega) (FzC.refl (zq _ _)),Fz.mslC (e:=5) (xs:=bs v) (by omega) (apn _ _ 5) (by rw [ze];omega) (FzC.refl (zq _ _)),trivial⟩,.id (.int _ _),trivial⟩)
 by_cases h5:n=5
 ·subst h5
  have cu:cmp ⟨16,16,y,u,v⟩ 5=v:=rfl
  rw [cu] at hsl pa cl
  rw [cu,zvV]
  simp only [if_neg h4,if_pos,hsl,l1,l2,l3] at co pa ⊢
  (repeat refine PW.seq ?_);refine PW.drawi [H.length+5] [(50,[0])] [] [50,57] mix (by kernel_rfl) (by simp<;>omega) fun K hK=> ?_
  simp (disch:=omega) only [go_sem,↓reduceIte,reduceCtorEq]
  refine VCj.read (fun L hL=>co L (by have:=hL.len;simp at this;omega)) rfl ?_
  simp (disch:=omega) only [go_sem,↓reduceIte,reduceCtorEq]
  refine VCj.read (fun _ _=>po _) rfl ?_
  simp (disch:=omega) only [go_sem,↓reduceIte,reduceCtorEq]
  refine VCj.wr1 (id:=H.length+5) (k:=cpB v) (b:=cpB (zee v 5 fd x)) (apn _ _ 5) (fun L hL _=>pa _ L hL) (by simp (disch:=omega) only [go_sem,↓reduceIte,reduceCtorEq]) (.inl rfl) rfl ?_
  simp (disch:=omega) only [go_sem,↓reduceIte,reduceCtorEq]
  refine hK _ _ ?_;clear hK K
  refine PW.e ?_
  refine PW.ret ⟨.tup [.agg [.int .i64 16,.int .i64 16,.msl (H.length+3) 1 0 256 1 true,.msl (H.length+4) 1 0 64 1 true,.msl (H.length+5) 1 0 64 1 true],.int .i64 0],by simp (disch:=omega) only [go_sem,↓reduceIte,reduceCtorEq,zd,zg,List.mapM_cons,List.mapM_nil,Option.pure_def,Option.bind_eq_bind,Option.bind_some,Array.toList],?_⟩
  refine Fin.base (Fz.tupC ⟨Fz.aggC ⟨.id (.int _ _),.id (.int _ _),Fz.mslC (e:=5) (xs:=bs y) (by omega) (apn _ _ 3) (by rw [ze];omega) (FzC.refl (zq _ _)),Fz.mslC (e:=5) (xs:=bs u) (by omega) (apn _ _ 4) (by rw [ze];omega) (FzC.refl (zq _ _)),Fz.mslC (e:=5) (xs:=bs (zee v 5 fd x)) (by omega) (apn _ _ 5) (by rw [ze];omega) (FzC.refl (zq _ _)),trivial⟩,.id (.int _ _),trivial⟩)
 have cu:cmp ⟨16,16,y,u,v⟩ n=y:=zwP _ _ _ _ _ h4 h5
 rw [cu] at hsl pa cl
 rw [cu,zvU _ _ _ _ _ _ h4 h5]
 simp only [if_neg h4,if_neg h5,hsl,l1,l2,l3] at co pa ⊢
 (repeat refine PW.seq ?_);refine PW.drawi [H.length+3] [(50,[0])] [] [50,57] mix (by kernel_rfl) (by simp<;>omega) fun K hK=> ?_
 simp (disch:=omega) only [go_sem,↓reduceIte,reduceCtorEq]
 refine VCj.read (fun L hL=>co L (by have:=hL.len;simp at this;omega)) rfl ?_
 simp (disch:=omega) only [go_sem,↓reduceIte,reduceCtorEq]
 refine VCj.read (fun _ _=>po _) rfl ?_
 simp (disch:=omega) only [go_sem,↓reduceIte,reduceCtorEq]
 refine VCj.wr1 (id:=H.length+3) (k:=cpB y) (b:=cpB (zee y n fd x)) (apn _ _ 3) (fun L hL _=>pa _ L hL) (by simp (disch:=omega) only [go_sem,↓reduceIte,reduceCtorEq]) (.inl rfl) rfl ?_
 simp (disch:=omega) only [go_sem,↓reduceIte,reduceCtorEq]
 refine hK _ _ ?_;clear hK K
 refine PW.e ?_
 refine PW.ret ⟨.tup [.agg [.int .i64 16,.int .i64 16,.msl (H.length+3) 1 0 256 1 true,.msl (H.length+4) 1 0 64 1 true,.msl (H.length+5) 1 0 64 1 true],.int .i64 0],by simp (disch:=omega) only [go_sem,↓reduceIte,reduceCtorEq,zd,zg,List.mapM_cons,List.mapM_nil,Option.pure_def,Option.bind_eq_bind,Option.bind_some,Array.toList],?_⟩
 refine Fin.base (Fz.tupC ⟨Fz.aggC ⟨.id (.int _ _),.id (.int _ _),Fz.mslC (e:=5) (xs:=bs (zee y n fd x)) (by omega) (apn _ _ 3) (by rw [ze];omega) (FzC.refl (zq _ _)),Fz.mslC (e:=5) (xs:=bs u) (by omega) (apn _ _ 4) (by rw [ze];omega) (FzC.refl (zq _ _)),Fz.mslC (e:=5) (xs:=bs v) (by omega) (apn _ _ 5) (by rw [ze];omega) (FzC.refl (zq _ _)),trivial⟩,.id (.int _ _),trivial⟩)
structure Hok (V K:Nat) (f:Fm):Prop where
 w:f.w=((2 * V:Nat):Int)
 h:f.h=((2 * K:Nat):Int)
 rv:1≤V∧V≤32
 rk:1≤K∧K≤16
 ly:f.y.length=2 * K * (2 * V)
 lu:f.u.length=K * V
 lv:f.v.length=K * V
def znK (V K:Nat) (a b:Fm):Fm:=⟨((2 * V:Nat):Int),((4 * K:Nat):Int),wov a.y b.y (2 * V) (2 * K),wov a.u b.u V K,wov a.v b.v V K⟩
theorem ztz (a b:Fm):znK 8 4 a b=wovF a b:=rfl
theorem Hok.fmd {V K:Nat} {f:Fm} (h:Hok V K f):fmd f=true:=by
 obtain ⟨w,ht,y,u,v⟩:=f
 obtain ⟨hw,hh,⟨v1,v2⟩,⟨k1,k2⟩,ly,lu,lv⟩:=h
 simp only at hw hh ly lu lv
 subst hw hh
 have e1:((2 * V:Nat):Int) / 2=(V:Int):=by omega
 have e2:((2 * K:Nat):Int) / 2=(K:Int):=by omega
 have a1:fsz ((2 * V:Nat):Int) ((2 * K:Nat):Int)=true:=by
  simp only [fsz,Bool.and_eq_true,decide_eq_true_eq]
  omega
 have a2:((2 * K * (2 * V):Nat):Int)=((2 * V:Nat):Int) * ((2 * K:Nat):Int):=by rw [Nat.mul_comm];exact Int.natCast_mul _ _
 have a3:((K * V:Nat):Int)=(V:Int) * (K:Int):=by rw [Nat.mul_comm];exact Int.natCast_mul _ _
 simp only [Sc.fmd,a1,e1,e2,ly,lu,lv,a2,a3,decide_true,Bool.and_self]
set_option maxHeartbeats 6400000 in
set_option maxRecDepth 100000 in
theorem zf9 (V K:Nat) (a b:Fm) (ha:Hok V K a) (hb:Hok V K b) (H:za):CallOk Tryz.prog 38 [.agg (fmc a),.agg (fmc b)] H (.tup [.agg (fmc (znK V K a b)),.int .i64 0]) H:=by
 have fa:=fun L=>zaS a L
 have fb:=fun L=>zaS b L
 rw [ha.fmd] at fa
 rw [hb.fmd] at fb
 obtain ⟨w,ht,y,u,v⟩:=a
 obtain ⟨w',ht',y',u',v'⟩:=b
 obtain ⟨hw,hh,⟨v1,v2⟩,⟨k1,k2⟩,ly,lu,lv⟩:=ha
 obtain ⟨hw',hh',_,_,ly',lu',lv'⟩:=hb
 simp only at hw hh ly lu lv hw' hh' ly' lu' lv'
 subst hw hh hw' hh'
 have bN1:2 * K * (2 * (2 * V))≤32 * 128:=Nat.mul_le_mul (by omega) (by omega)
 have bN2:K * (2 * V)≤16 * 64:=Nat.mul_le_mul (by omega) (by omega)
 have bn1:2 * K * (2 * V)≤32 * 64:=Nat.mul_le_mul (by omega) (by omega)
 have bn2:K * V≤16 * 32:=Nat.mul_le_mul (by omega) (by omega)
 have x1:(2:Int) * ((2 * K:Nat):Int)=((4 * K:Nat):Int):=by omega
 have x2:(2:Int) * ((2 * V:Nat):Int)=((2 * (2 * V):Nat):Int):=by omega
 have x3:((2 * (2 * V):Nat):Int) * ((2 * K:Nat):Int)=((2 * K * (2 * (2 * V)):Nat):Int):=by rw [Nat.mul_comm (2 * K)];exact (Int.natCast_mul _ _).symm
 have x4:((2 * V:Nat):Int) * ((2 * K:Nat):Int)=((K * (2 * V) * 2:Nat):Int):=by
  rw [←Int.natCast_mul];congr 1;rw [Nat.mul_comm (2 * V),Nat.mul_comm 2 K,Nat.mul_right_comm]
 have x5:((K * (2 * V) * 2:Nat):Int).tdiv 2=((K * (2 * V):Nat):Int):=by rw [zx _ _ (by omega)];omega
 have y0:(0:Int) * ((2 * V:Nat):Int)=((0:Nat):Int):=by simp
 have y1:((0:Int)+1) * ((2 * V:Nat):Int)=((2 * V:Nat):Int):=by simp
 have y2:((2 * V:Nat):Int).tdiv 2=(V:Int):=by rw [zx _ _ (by omega)];omega
 have y3:((0:Nat):Int).tdiv 2=((0:Nat):Int):=rfl
 have y4:((2 * K:Nat):Int).tdiv 2=(K:Int):=by rw [zx _ _ (by omega)];omega
 obtain ⟨Z1,hZ1,z1⟩:∃ Z:List UInt8,Z=List.replicate (2 * K * (2 * (2 * V))) 0∧Z.length=2 * K * (2 * (2 * V)):=⟨_,rfl,List.length_replicate⟩
 obtain ⟨Z2,hZ2,z2⟩:∃ Z:List UInt8,Z=List.replicate (K * (2 * V)) 0∧Z.length=K * (2 * V):=⟨_,rfl,List.length_replicate⟩
 have r1:(List.replicate (2 * K * (2 * (2 * V))) [PV.int .u8 0]).flatten=bs Z1:=by rw [hZ1];exact zcY _
 have r2:(List.replicate (K * (2 * V)) [PV.int .u8 0]).flatten=bs Z2:=by rw [hZ2];exact zcY _
 have fit:=fun (W M L P:Nat) (hP:P≤1) (hL:L=M * (2 * W)) k (hk:k<M)=>(show P * W+k * (2 * W)+W≤L by
  have h1:(k+1) * (2 * W)≤M * (2 * W):=Nat.mul_le_mul_right _ (by omega)
  rw [Nat.add_mul] at h1
  have:P * W≤W:=by
   have:P=0∨P=1:=by omega
   rcases this with rfl|rfl<;>simp
  omega)
 have f1a:∀ k,k<2 * K→0+k * (2 * (2 * V))+2 * V≤Z1.length:=fun k hk=>by have:=fit (2 * V) (2 * K) Z1.length 0 (by omega) z1 k hk;simpa using this
 have f2a:∀ k,k<K→0+k * (2 * V)+V≤Z2.length:=fun k hk=>by have:=fit V K Z2.length 0 (by omega) z2 k hk;simpa using this
 have l1:(pst Z1 0 (2 * (2 * V)) (2 * V) y (2 * K)).length=Z1.length:=zaz ly _ (Nat.le_refl _) f1a
 have l2:(pst Z2 0 (2 * V) V u K).length=Z2.length:=zaz lu _ (Nat.le_refl _) f2a
 have l3:(pst Z2 0 (2 * V) V v K).length=Z2.length:=zaz lv _ (Nat.le_refl _) f2a
 have p1:=fun L hr=>zb1 Z1 y (H.length+3) 1 0 (2 * (2 * V)) (2 * V) (2 * K) true false L hr (by omega) (by omega) (by omega) ly f1a (by omega)
 have p2:=fun L hr=>zb1 Z2 u (H.length+4) 1 0 (2 * V) V K true false L hr (by omega) (by omega) (by omega) lu f2a (by omega)
 have p3:=fun L hr=>zb1 Z2 v (H.length+5) 1 0 (2 * V) V K true false L hr (by omega) (by omega) (by omega) lv f2a (by omega)
 have q1:=fun L hr=>zb1 (pst Z1 0 (2 * (2 * V)) (2 * V) y (2 * K)) y' (H.length+3) 1 (2 * V) (2 * (2 * V)) (2 * V) (2 * K) true false L hr (by omega) (by omega) (by omega) ly' (fun k hk=>by have:=fit (2 * V) (2 * K) Z1.length 1 (by omega) z1 k hk;rw [l1];simpa using this) (by omega)
 have q2:=fun L hr=>zb1 (pst Z2 0 (2 * V) V u K) u' (H.length+4) 1 V (2 * V) V K true false L hr (by omega) (by omega) (by omega) lu' (fun k hk=>by have:=fit V K Z2.length 1 (by omega) z2 k hk;rw [l2];simpa using this) (by omega)
 have q3:=fun L hr=>zb1 (pst Z2 0 (2 * V) V v K) v' (H.length+5) 1 V (2 * V) V K true false L hr (by omega) (by omega) (by omega) lv' (fun k hk=>by have:=fit V K Z2.length 1 (by omega) z2 k hk;rw [l3];simpa using this) (by omega)
 rw [zia ly ly' z1,l1,z1] at q1
 rw [zia lu lu' z2,l2,z2] at q2
 rw [zia lv lv' z2,l3,z2] at q3
 rw [z1] at p1
 rw [z2] at p2 p3
 have w1:(wov y y' (2 * V) (2 * K)).length=2 * K * (2 * (2 * V)):=za1 ly ly' _ (Nat.le_refl _)
 have w2:(wov u u' V K).length=K * (2 * V):=za1 lu lu' _ (Nat.le_refl _)
 have w3:(wov v v' V K).length=K * (2 * V):=za1 lv lv' _ (Nat.le_refl _)
 simp only [fmc,znK,w1,w2,w3,ly,lu,lv,ly',lu',lv'] at fa fb p1 p2 p3 q1 q2 q3 ⊢
 generalize pst Z1 0 (2 * (2 * V)) (2 * V) y (2 * K)=T1 at p1 q1 l1
 generalize pst Z2 0 (2 * V) V u K=T2 at p2 q2 l2
 generalize pst Z2 0 (2 * V) V v K=T3 at p3 q3 l3
 generalize wov y y' (2 * V) (2 * K)=W1 at q1 w1 ⊢
 generalize wov u u' V K=W2 at q2 w2 ⊢
 generalize wov v v' V K=W3 at q3 w3 ⊢
 clear hZ1 hZ2 f1a f2a fit
 refine CallOk.body (F0:=[(0,.agg [.int .i64 ((2 * V:Nat):Int),.int .i64 ((2 * K:Nat):Int),.slice (bs y) (2 * K * (2 * V)) false,.slice (bs u) (K * V) false,.slice (bs v) (K * V) false]),(1,.agg [.int .i64 ((2 * V:Nat):Int),.int .i64 ((2 * K:Nat):Int),.slice (bs y') (2 * K * (2 * V)) false,.slice (bs u') (K * V) false,.slice (bs v') (K * V) false])]) Tryz.func38 rfl Tryz.ntmps38 Tryz.results38 rfl (by kernel_rfl) rfl ?_
 refine PW.e ?_
 (repeat refine PW.seq ?_)
 refine PW.rgv (P:=Tryz.prog) [2,3,4,5] 38 (.bool false) ?_ ?_ ?_
 ·rfl
 ·simp (maxSteps:=3000000) (disch:=omega) only [go_sem,↓reduceIte,reduceCtorEq];(repeat' (first|((first|refine zk ?_ ?_|refine And.intro ?_ ?_)<;>intro h<;>(try simp only [nqb] at h)<;>simp (maxSteps:=3000000) (disch:=omega) only [go_sem,↓reduceIte,reduceCtorEq,h])|((first|refine VCx.call (fa _) rfl ?_|refine VCx.call (fb _) rfl ?_);simp (maxSteps:=3000000) (disch:=omega) only [go_sem,↓reduceIte,reduceCtorEq])))
  all_goals (simp_all [slot,Nat.beq]<;>first|rfl|omega|(rw [Bool.eq_iff_iff];simp;done)|(rw [Bool.eq_iff_iff];simp;omega))
 (repeat refine PW.seq ?_);refine PW.cond (t:=_) rfl (fun h=> ?_) (fun h=> ?_)
 ·cases h
 refine PW.skip ?_
 (repeat refine PW.seq ?_);refine PW.draw mix (by kernel_rfl) fun K hK=> ?_;simp (maxSteps:=3000000) (disch:=omega) only [go_sem,↓reduceIte,reduceCtorEq];refine hK _ _ ?_;clear hK K
 refine PW.view (Vs.place 5) ?_
 refine PW.view (Vs.place 5) ?_
 refine PW.view (Vs.place 5) ?_
 refine PW.view (Vs.place 33) ?_
 (repeat refine PW.seq ?_);refine PW.drawi [H.length+3,H.length+4,H.length+5,H.length+6] [(51,[0]),(56,[1]),(61,[2]),(8,[3])] [(51,0),(56,1),(61,2),(8,3)] [] mix (by kernel_rfl) (by simp<;>omega) fun K hK=> ?_
 simp (maxSteps:=3000000) (disch:=omega) only [go_sem,↓reduceIte,reduceCtorEq,zaH,x1,x2,x3,x4,x5]
 refine hK _ _ ?_;clear hK K
 rw [r1,r2]
 refine PW.e ?_
 (repeat refine PW.seq ?_);refine PW.block (PW.loop ?_)
 refine PL.round ?_;refine PW.e ?_;(repeat refine PW.seq ?_);refine PW.cond (t:=_) rfl (fun h=> ?_) (fun h=> ?_)
 rotate_left
 ·cases h
 refine PW.skip ?_;(repeat refine PW.seq ?_);refine PW.block ?_
 refine PW.e ?_
 refine PW.f (fun K k=>by simp (maxSteps:=3000000) (disch:=omega) only [go_sem,↓reduceIte,reduceCtorEq,y0,x2];refine VCx.call (p1 _ (apn _ _ 3)) rfl ?_;simp (maxSteps:=3000000) (disch:=omega) only [go_sem,↓reduceIte,reduceCtorEq,y0,x2];exact k) ?_
 refine PW.f (fun K k=>by simp (maxSteps:=3000000) (disch:=omega) only [go_sem,↓reduceIte,reduceCtorEq,y0,x2,y2,y3,y4];refine VCx.call (p2 _ (apn _ _ 4)) rfl ?_;simp (maxSteps:=3000000) (disch:=omega) only [go_sem,↓reduceIte,reduceCtorEq,y0,x2,y2,y3,y4];exact k) ?_
 refine PW.f (fun K k=>by simp (maxSteps:=3000000) (disch:=omega) only [go_sem,↓reduceIte,reduceCtorEq,y0,x2,y2,y3,y4];refine VCx.call (p3 _ (apn _ _ 5)) rfl ?_;simp (maxSteps:=3000000) (disch:=omega) only [go_sem,↓reduceIte,reduceCtorEq,y0,x2,y2,y3,y4];exact k) ?_
 refine PW.e ?_
 refine PL.round ?_;refine PW.e ?_;(repeat refine PW.seq ?_);refine PW.cond (t:=_) rfl (fun h=> ?_) (fun h=> ?_)
 rotate_left
 ·cases h
 refine PW.skip ?_;(repeat refine PW.seq ?_);refine PW.block ?_
 refine PW.e ?_
 refine PW.f (fun K k=>by simp (maxSteps:=3000000) (disch:=omega) only [go_sem,↓reduceIte,reduceCtorEq,y1,x2];refine VCx.call (q1 _ (apn _ _ 3)) rfl ?_;simp (maxSteps:=3000000) (disch:=omega) only [go_sem,↓reduceIte,reduceCtorEq,y1,x2];exact k) ?_
 refine PW.f (fun K k=>by simp (maxSteps:=3000000) (disch:=omega) only [go_sem,↓reduceIte,reduceCtorEq,y1,x2,y2,y3,y4];refine VCx.call (q2 _ (apn _ _ 4)) rfl ?_;simp (maxSteps:=3000000) (disch:=omega) only [go_sem,↓reduceIte,reduceCtorEq,y1,x2,y2,y3,y4];exact k) ?_
 refine PW.f (fun K k=>by simp (maxSteps:=3000000) (disch:=omega) only [go_sem,↓reduceIte,reduceCtorEq,y1,x2,y2,y3,y4];refine VCx.call (q3 _ (apn _ _ 5)) rfl ?_;simp (maxSteps:=3000000) (disch:=omega) only [go_sem,↓reduceIte,reduceCtorEq,y1,x2,y2,y3,y4];exact k) ?_
 refine PW.e ?_
 refine PL.round ?_;refine PW.e ?_;(repeat refine PW.seq ?_);refine PW.cond (t:=_) rfl (fun h=> ?_) (fun h=> ?_)
 ·cases h
 refine PW.exit ?_
 refine PW.e ?_
 refine PW.ret ⟨.tup [.agg [.int .i64 ((2 * V:Nat):Int),.int .i64 ((4 * K:Nat):Int),.msl (H.length+3) 1 0 (2 * K * (2 * (2 * V))) 1 true,.msl (H.length+4) 1 0 (K * (2 * V)) 1 true,.msl (H.length+5) 1 0 (K * (2 * V)) 1 true],.int .i64 0],by simp (maxSteps:=3000000) (disch:=omega) only [go_sem,↓reduceIte,reduceCtorEq,zd,zg,List.mapM_cons,List.mapM_nil,Option.pure_def,Option.bind_eq_bind,Option.bind_some,Array.toList],?_⟩
 refine Fin.base (Fz.tupC ⟨Fz.aggC ⟨.id (.int _ _),.id (.int _ _),Fz.mslC (e:=5) (xs:=bs W1) (by omega) (apn _ _ 3) (by rw [ze];omega) (FzC.refl (zq _ _)),Fz.mslC (e:=5) (xs:=bs W2) (by omega) (apn _ _ 4) (by rw [ze];omega) (FzC.refl (zq _ _)),Fz.mslC (e:=5) (xs:=bs W3) (by omega) (apn _ _ 5) (by rw [ze];omega) (FzC.refl (zq _ _)),trivial⟩,.id (.int _ _),trivial⟩)
end Go.Proofs.YtjgmdlcjbgiekaaGreatDoor.Sc
