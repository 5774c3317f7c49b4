/-
  Parts of the proof, put together in one text. No condition.
-/
import Derived.Test.YtjgmdlcjbgiekaaGreatDoorQ31
import Derived.Test.YtjgmdlcjbgiekaaGreatDoorQ32
namespace Go.Proofs.YtjgmdlcjbgiekaaGreatDoor.Sc
set_option linter.all false
open Pm Ty Go.RowKit
structure F16 (f:Fm):Prop where
 w:f.w=16
 h:f.h=16
 ly:f.y.length=256
 lu:f.u.length=64
 lv:f.v.length=64
def gry:Fm:=⟨16,16,List.replicate 256 128,List.replicate 64 128,List.replicate 64 128⟩
theorem F16.gry:F16 gry:=⟨rfl,rfl,List.length_replicate,List.length_replicate,List.length_replicate⟩
theorem F16.fvd {f:Fm} (h:F16 f):fvd f=true:=by
 obtain ⟨w,h,y,u,v⟩:=f
 obtain ⟨rfl,rfl,ly,lu,lv⟩:=h
 simp only at ly lu lv
 simp [Sc.fvd,fmd,fsz,ly,lu,lv]
def cmp (f:Fm) (n:Nat):List UInt8:=if n=4 then f.u else if n=5 then f.v else f.y
def zhb (f:Fm) (n:Nat) (p:List UInt8):Fm:=if n=4 then ⟨f.w,f.h,f.y,p,f.v⟩ else if n=5 then ⟨f.w,f.h,f.y,f.u,p⟩ else ⟨f.w,f.h,p,f.u,f.v⟩
theorem F16.cmp {f:Fm} (h:F16 f) {n:Nat} (hn:n<6):(cmp f n).length=bln n:=by
 unfold Sc.cmp bln
 split
 ·rw [if_pos (by omega)];exact h.lu
 ·split
  ·rw [if_pos (by omega)];exact h.lv
  ·rw [if_neg (by omega)];exact h.ly
theorem F16.stc {f:Fm} (h:F16 f) {n:Nat} (hn:n<6) {p:List UInt8} (hp:p.length=bln n):F16 (zhb f n p):=by
 unfold zhb
 split
 ·exact ⟨h.w,h.h,h.ly,by rw [hp];subst n;rfl,h.lv⟩
 ·split
  ·exact ⟨h.w,h.h,h.ly,h.lu,by rw [hp];subst n;rfl⟩
  ·exact ⟨h.w,h.h,by rw [hp,bln,if_neg (by omega)],h.lu,h.lv⟩
def addB (f:Fm) (n:Nat) (fd:Bool) (x:List Int):Fm:=zhb f n (cad (cmp f n) n fd x)
theorem zsB {p:List UInt8} {n:Nat} {fd:Bool} {x:List Int} (hn:n<6) (hp:p.length=bln n):(cad p n fd x).length=bln n:=by
 rw [cad,zgo hn hp,hp]
theorem F16.addB {f:Fm} (h:F16 f) {n:Nat} (hn:n<6) (fd:Bool) (x:List Int):F16 (addB f n fd x):=h.stc hn (zsB hn (h.cmp hn))
def lvl (lv:List Int) (n:Nat):List Int:=(lv.drop (n * 64)).take 64
def rsd (lv:List Int) (al:Bool) (mat:List UInt8) (q:Int) (n:Nat):List Int:=inv (dqz (frs (lvl lv n) al) mat q)
def addN (m:Mb) (al:Bool) (mat:List UInt8) (q:Int) (f:Fm):Nat→Fm
 | 0=>f
 | n+1=>if zaz (cdl m) n then addB (addN m al mat q f n) n m.fd (rsd m.lv al mat q n) else addN m al mat q f n
theorem F16.addN {f:Fm} (h:F16 f) (m:Mb) (al:Bool) (mat:List UInt8) (q:Int):∀ n,n≤6→F16 (addN m al mat q f n)
 | 0,_=>h
 | n+1,hn=>by
  have ih:=h.addN m al mat q n (by omega)
  rw [Sc.addN]
  split
  ·exact ih.addB (by omega) _ _
  ·exact ih
def prdF (f:Fm) (x y:Int) (h:Nat) (vx vy:Int):Fm:=
 ⟨16,h,prd f.y f.w f.h x y 16 h vx vy,prd f.u (f.w / 2) (f.h / 2) (x / 2) (y / 2) 8 (h / 2) (vx.tdiv 2) (vy.tdiv 2),prd f.v (f.w / 2) (f.h / 2) (x / 2) (y / 2) 8 (h / 2) (vx.tdiv 2) (vy.tdiv 2)⟩
theorem zrz (f:Fm) (x y vx vy:Int):F16 (prdF f x y 16 vx vy):=⟨rfl,rfl,zak _ _ _ _ _ _ _ _ _,zak _ _ _ _ _ _ _ _ _,zak _ _ _ _ _ _ _ _ _⟩
def prdS (f:Fm) (mx my vx vy:Int):Fm×Int:=
 if (fmd f&&(decide (0≤mx)&&(decide (16 * mx+16≤f.w)&&(decide (0≤my)&&decide (16 * my+16≤f.h)))))=true then (if vrg vx vy=true then (prdF f (16 * mx) (16 * my) 16 vx vy,0) else (f0,2)) else (f0,1)
def zdc (f:Fm) (mx my:Int):Bool:=fvd f&&(decide (0≤mx)&&(decide (mx<f.w / 16)&&(decide (0≤my)&&decide (my<f.h / 16))))
def wovF (a b:Fm):Fm:=⟨16,16,wov a.y b.y 16 8,wov a.u b.u 8 4,wov a.v b.v 8 4⟩
def fldS (f:Fm) (mx my va vb vc vd sa sb:Int):Fm×Int:=
 if (zdc f mx my&&decide (f.h%32=0))=true then (wovF (prdF (fieldOf f sa) (16 * mx) (8 * my) 8 va vb) (prdF (fieldOf f sb) (16 * mx) (8 * my) 8 vc vd),0) else (f0,1)
theorem zlz (f g:Fm) (x y x' y' a b c d:Int):F16 (wovF (prdF f x y 8 a b) (prdF g x' y' 8 c d)):=by
 have l1:∀ p W R x y vx vy,(prd p W R x y 16 8 vx vy).length=8 * 16:=fun _ _ _ _ _ _ _=>zak _ _ _ _ _ _ _ _ _
 have l2:∀ p W R x y vx vy,(prd p W R x y 8 (8 / 2) vx vy).length=4 * 8:=fun _ _ _ _ _ _ _=>zak _ _ _ _ _ _ _ _ _
 exact ⟨rfl,rfl,za0 (l1 ..) (l1 ..) 8 (Nat.le_refl _),za0 (l2 ..) (l2 ..) 4 (Nat.le_refl _),za0 (l2 ..) (l2 ..) 4 (Nat.le_refl _)⟩
def mnF (a b:Fm):Fm:=⟨a.w,a.h,mnb a.y b.y,mnb a.u b.u,mnb a.v b.v⟩
theorem zpt {a:Fm} (h:F16 a) (b:Fm):F16 (mnF a b):=⟨h.w,h.h,(zcS _ _).trans h.ly,(zcS _ _).trans h.lu,(zcS _ _).trans h.lv⟩
def dirP (c:Cx) (fp:Bool) (va vb vc vd sa sb:Int) (pa fu fi:Fm) (d mx my:Int):Fm×Int:=
 if (refS c pa fu fi d sa).2≠0 then (f0,(refS c pa fu fi d sa).2) else if fp=true then fldS (refS c pa fu fi d sa).1 mx my va vb vc vd sa sb else prdS (refS c pa fu fi d sa).1 mx my va vb
def zhn (c:Cx) (m:Mb) (pa fu fi:Fm) (mx my:Int):Fm×Int:=dirP c m.fp m.va m.vb m.vc m.vd m.sa m.sb pa fu fi 0 mx my
def zfF (c:Cx) (m:Mb) (pa fu fi:Fm) (mx my:Int):Fm×Int:=dirP c m.fp m.ve m.vf m.vg m.vh m.sc m.sd pa fu fi 1 mx my
def prS (c:Cx) (m:Mb) (pa fu fi:Fm) (mx my:Int):Fm×Int:=
 if m.ua=true then
  if (zhn c m pa fu fi mx my).2≠0 then (f0,(zhn c m pa fu fi mx my).2)
  else if m.ub=true then
   if (zfF c m pa fu fi mx my).2≠0 then (f0,(zfF c m pa fu fi mx my).2)
   else (mnF (zhn c m pa fu fi mx my).1 (zfF c m pa fu fi mx my).1,0)
  else zhn c m pa fu fi mx my
 else zfF c m pa fu fi mx my
theorem zry {f:Fm} {mx my vx vy:Int} (h:(prdS f mx my vx vy).2=0):F16 (prdS f mx my vx vy).1:=by
 unfold prdS at h ⊢
 split at h
 ·rename_i h1
  split at h
  ·rename_i h2
   rw [if_pos h1,if_pos h2];exact zrz _ _ _ _ _
  ·cases h
 ·cases h
theorem zsf {f:Fm} {mx my va vb vc vd sa sb:Int} (h:(fldS f mx my va vb vc vd sa sb).2=0):F16 (fldS f mx my va vb vc vd sa sb).1:=by
 unfold fldS at h ⊢
 split at h
 ·rename_i h1
  rw [if_pos h1];exact zlz _ _ _ _ _ _ _ _ _ _
 ·cases h
theorem ziK {c:Cx} {fp:Bool} {va vb vc vd sa sb:Int} {pa fu fi:Fm} {d mx my:Int} (h:(dirP c fp va vb vc vd sa sb pa fu fi d mx my).2=0):F16 (dirP c fp va vb vc vd sa sb pa fu fi d mx my).1:=by
 unfold dirP at h ⊢
 split at h
 ·rename_i h1;exact absurd h h1
 ·rename_i h1
  rw [if_neg h1]
  split at h
  ·rename_i h2;rw [if_pos h2];exact zsf h
  ·rename_i h2;rw [if_neg h2];exact zry h
theorem zoZ {c:Cx} {m:Mb} {pa fu fi:Fm} {mx my:Int} (h:(prS c m pa fu fi mx my).2=0):F16 (prS c m pa fu fi mx my).1:=by
 unfold prS at h ⊢
 split at h
 ·rename_i h1
  rw [if_pos h1]
  split at h
  ·rename_i h2;exact absurd h h2
  ·rename_i h2
   rw [if_neg h2]
   have h3:F16 (zhn c m pa fu fi mx my).1:=ziK (Decidable.not_not.1 h2)
   split at h
   ·rename_i h4
    rw [if_pos h4]
    split at h
    ·rename_i h5;exact absurd h h5
    ·rename_i h5
     rw [if_neg h5];exact zpt h3 _
   ·rename_i h4
    rw [if_neg h4];exact h3
 ·rename_i h1
  rw [if_neg h1];exact ziK h
def stl (c:Cx):Mb:=⟨2,true,decide (c.t=3),false,false,0,0,0,0,0,0,0,0,pcx c,0,if c.t=3 then pcx c else 0,0,0,false,false,false,false,false,false,zl384⟩
def zgt (c:Cx) (si sq:List UInt8) (al:Bool) (q:Int) (m:Mb) (pa fu fi:Fm) (mx my:Int):Fm×Int:=
 if (fmS c m&&(zbH si&&(zbH sq&&qnB q)))=true then
  if m.k=1 then (addN m al si q gry 6,0)
  else if (prS c (if m.k=0 then stl c else m) pa fu fi mx my).2≠0 then (f0,(prS c (if m.k=0 then stl c else m) pa fu fi mx my).2)
  else (addN (if m.k=0 then stl c else m) al sq q (prS c (if m.k=0 then stl c else m) pa fu fi mx my).1 6,0)
 else (f0,1)
structure nrF (D:Int) (f g:Fm):Prop where
 w:f.w=g.w
 h:f.h=g.h
 y:nr D f.y g.y
 u:nr D f.u g.u
 v:nr D f.v g.v
theorem nrF.refl {D:Int} (h:0≤D) (f:Fm):nrF D f f:=⟨rfl,rfl,.refl h _,.refl h _,.refl h _⟩
theorem nrF.D0 {D:Int} {f g:Fm} (h:nrF D f g):0≤D:=h.y.D0
theorem nrF.fmd {D:Int} {f g:Fm} (h:nrF D f g):fmd f=fmd g:=by
 unfold Sc.fmd;rw [h.w,h.h,h.y.1,h.u.1,h.v.1]
theorem nrF.fvd {D:Int} {f g:Fm} (h:nrF D f g):fvd f=fvd g:=by
 unfold Sc.fvd;rw [h.fmd,h.w,h.h]
theorem nrF.prdF {D:Int} {f g:Fm} (h:nrF D f g) (x y:Int) (k:Nat) (vx vy:Int):nrF D (prdF f x y k vx vy) (prdF g x y k vx vy):=by
 unfold Sc.prdF
 rw [h.w,h.h]
 exact ⟨rfl,rfl,h.y.prd _ _ _ _ _ _ _ _,h.u.prd _ _ _ _ _ _ _ _,h.v.prd _ _ _ _ _ _ _ _⟩
theorem nrF.fieldOf {D:Int} {f g:Fm} (h:nrF D f g) {s:Int} (hs:s=0∨s=1) (hv:Sc.fvd f=true) (h32:f.h%32=0):nrF D (fieldOf f s) (fieldOf g s):=by
 obtain ⟨w,ht,y,u,v⟩:=f
 obtain ⟨w',ht',y',u',v'⟩:=g
 obtain ⟨e1,e2,h3,h4,h5⟩:=h
 simp only at e1 e2 h3 h4 h5 h32
 subst e1 e2
 obtain ⟨V,K,rfl,rfl,ok⟩:=zdJ hv h32
 obtain ⟨P,hP,rfl⟩:∃ P:Nat,P≤1∧s=(P:Int):=by
  rcases hs with e|e
  ·exact ⟨0,by omega,by omega⟩
  ·exact ⟨1,by omega,by omega⟩
 have f1:=zaN V K P y u v
 have f2:=zaN V K P y' u' v'
 unfold fr4 at f1 f2
 rw [f1,f2]
 exact ⟨rfl,rfl,h3.ctl (zaA _ _ _ hP _ ok.ly),h4.ctl (zaA _ _ _ hP _ ok.lu),h5.ctl (zaA _ _ _ hP _ ok.lv)⟩
def nrA (D:Int) (a b:Fm×Int):Prop:=a.2=b.2∧nrF D a.1 b.1
theorem nrF.lastF {D:Int} {f g:Fm} (h:nrF D f g) (wh:Bool) (s:Int) (hs:wh=true∨s=0∨s=1):nrA D (lastF f wh s) (lastF g wh s):=by
 have h0:=nrF.refl h.D0 f0
 unfold Sc.lastF
 rw [←h.w,←h.fvd,←h.h]
 split
 ·exact ⟨rfl,h0⟩
 split
 ·exact ⟨rfl,h0⟩
 rename_i hb
 split
 ·exact ⟨rfl,h⟩
 rename_i hw
 have hb':Sc.fvd f=true∧f.h%32=0:=by
  cases hv:Sc.fvd f<;>cases wh<;>simp_all
 exact ⟨rfl,h.fieldOf (by rcases hs with e|e;exact absurd e hw;exact e) hb'.1 hb'.2⟩
theorem nrF.refS {D:Int} {pa fu fi pa' fu':Fm} (hp:nrF D pa pa') (hf:nrF D fu fu') {c:Cx} (hc:c.n=false) (d s:Int):nrA D (refS c pa fu fi d s) (refS c pa' fu' fi d s):=by
 have h0:=nrF.refl hp.D0 f0
 unfold Sc.refS
 split
 ·exact ⟨rfl,h0⟩
 rename_i hb
 have hs:((!(fcx c))=true∨s=0∨s=1):=by
  rw [ziU] at hb
  cases hfc:fcx c
  ·exact .inl rfl
  ·right
   rw [hfc] at hb
   simp at hb
   omega
 unfold zdj
 rw [hc]
 split
 ·exact hf.lastF _ _ hs
 ·exact hp.lastF _ _ hs
theorem nrF.prdS {D:Int} {f g:Fm} (h:nrF D f g) (mx my vx vy:Int):nrA D (prdS f mx my vx vy) (prdS g mx my vx vy):=by
 have h0:=nrF.refl h.D0 f0
 unfold Sc.prdS
 rw [h.fmd,h.w,h.h]
 split
 ·split
  ·exact ⟨rfl,h.prdF _ _ _ _ _⟩
  ·exact ⟨rfl,h0⟩
 ·exact ⟨rfl,h0⟩
theorem nrF.wovF {D:Int} {f g f' g':Fm} (h:nrF D f g) (h':nrF D f' g') (x y x' y' a b c d:Int):nrF D (wovF (Sc.prdF f x y 8 a b) (Sc.prdF f' x' y' 8 c d)) (wovF (Sc.prdF g x y 8 a b) (Sc.prdF g' x' y' 8 c d)):=by
 have h1:=h.prdF x y 8 a b
 have h2:=h'.prdF x' y' 8 c d
 have l1:∀ p W R x y vx vy,(prd p W R x y 16 8 vx vy).length=8 * 16:=fun _ _ _ _ _ _ _=>zak _ _ _ _ _ _ _ _ _
 have l2:∀ p W R x y vx vy,(prd p W R x y 8 (8 / 2) vx vy).length=4 * 8:=fun _ _ _ _ _ _ _=>zak _ _ _ _ _ _ _ _ _
 exact ⟨rfl,rfl,h1.y.wov h2.y (l1 ..) (l1 ..),h1.u.wov h2.u (l2 ..) (l2 ..),h1.v.wov h2.v (l2 ..) (l2 ..)⟩
theorem nrF.fldS {D:Int} {f g:Fm} (h:nrF D f g) (mx my va vb vc vd:Int) {sa sb:Int} (ha:sa=0∨sa=1) (hb:sb=0∨sb=1):nrA D (fldS f mx my va vb vc vd sa sb) (fldS g mx my va vb vc vd sa sb):=by
 have h0:=nrF.refl h.D0 f0
 have e:zdc f mx my=zdc g mx my:=by unfold zdc;rw [h.fvd,h.w,h.h]
 unfold Sc.fldS
 rw [←e,←h.h]
 split
 ·rename_i hc
  rw [Bool.and_eq_true,decide_eq_true_eq,zdc,Bool.and_eq_true] at hc
  exact ⟨rfl,(h.fieldOf ha hc.1.1 hc.2).wovF (h.fieldOf hb hc.1.1 hc.2) _ _ _ _ _ _ _ _⟩
 ·exact ⟨rfl,h0⟩
theorem nrF.dirP {D:Int} {pa fu fi pa' fu':Fm} (hp:nrF D pa pa') (hf:nrF D fu fu') {c:Cx} (hc:c.n=false) (fp:Bool) (va vb vc vd:Int) {sa sb:Int} (ha:sa=0∨sa=1) (hb:sb=0∨sb=1) (d mx my:Int):
  nrA D (dirP c fp va vb vc vd sa sb pa fu fi d mx my) (dirP c fp va vb vc vd sa sb pa' fu' fi d mx my):=by
 have h0:=nrF.refl hp.D0 f0
 obtain ⟨h1,h2⟩:=hp.refS (fi:=fi) hf hc d sa
 unfold Sc.dirP
 rw [h1]
 split
 ·exact ⟨rfl,h0⟩
 split
 ·exact h2.fldS _ _ _ _ _ _ ha hb
 ·exact h2.prdS _ _ _ _
structure selB (m:Mb):Prop where
 a:m.sa=0∨m.sa=1
 b:m.sb=0∨m.sb=1
 c:m.sc=0∨m.sc=1
 d:m.sd=0∨m.sd=1
theorem nrF.mnF {D:Int} {f g f' g':Fm} (h:nrF D f g) (h':nrF D f' g'):nrF D (mnF f f') (mnF g g'):=⟨h.w,h.h,h.y.mnb h'.y,h.u.mnb h'.u,h.v.mnb h'.v⟩
theorem nrF.prS {D:Int} {pa fu fi pa' fu':Fm} (hp:nrF D pa pa') (hf:nrF D fu fu') {c:Cx} (hc:c.n=false) {m:Mb} (hs:selB m) (mx my:Int):nrA D (prS c m pa fu fi mx my) (prS c m pa' fu' fi mx my):=by
 have h0:=nrF.refl hp.D0 f0
 obtain ⟨a1,a2⟩:=hp.dirP (fi:=fi) hf hc m.fp m.va m.vb m.vc m.vd hs.a hs.b 0 mx my
 obtain ⟨b1,b2⟩:=hp.dirP (fi:=fi) hf hc m.fp m.ve m.vf m.vg m.vh hs.c hs.d 1 mx my
 unfold Sc.prS zhn zfF
 rw [←a1,←b1]
 split
 ·split
  ·exact ⟨rfl,h0⟩
  ·split
   ·split
    ·exact ⟨rfl,h0⟩
    ·exact ⟨rfl,a2.mnF b2⟩
   ·exact ⟨a1,a2⟩
 ·exact ⟨b1,b2⟩
theorem nrF.addB {D:Int} {f g:Fm} (h:nrF D f g) (hf:F16 f) {n:Nat} (hn:n<6) (fd:Bool) (x:List Int):nrF D (addB f n fd x) (addB g n fd x):=by
 have hl:=hf.cmp hn
 unfold Sc.addB Sc.cmp at *
 unfold zhb
 by_cases h4:n=4
 ·simp only [if_pos h4] at hl ⊢
  exact ⟨h.w,h.h,h.y,h.u.cad hn hl,h.v⟩
 ·by_cases h5:n=5
  ·simp only [if_neg h4,if_pos h5] at hl ⊢
   exact ⟨h.w,h.h,h.y,h.u,h.v.cad hn hl⟩
  ·simp only [if_neg h4,if_neg h5] at hl ⊢
   exact ⟨h.w,h.h,h.y.cad hn hl,h.u,h.v⟩
theorem nrF.addN {D:Int} {f g:Fm} (h:nrF D f g) (hf:F16 f) (m:Mb) (al:Bool) (mat:List UInt8) (q:Int):∀ n,n≤6→nrF D (addN m al mat q f n) (addN m al mat q g n)
 | 0,_=>h
 | n+1,hn=>by
  have ih:=h.addN hf m al mat q n (by omega)
  rw [Sc.addN,Sc.addN]
  split
  ·exact ih.addB (hf.addN m al mat q n (by omega)) (by omega) _ _
  ·exact ih
theorem zk9 (f:Fm) (mx my:Int) (H:za):CallOk Tryz.prog 138 [.agg (fmc f),.int .i64 mx,.int .i64 my] H (.bool (zdc f mx my)) H:=by
 have va:=fun K=>zgb f K
 have hr:zdc f mx my=(fvd f&&(decide (0≤mx)&&(decide (mx<f.w / 16)&&(decide (0≤my)&&decide (my<f.h / 16))))):=rfl
 generalize zdc f mx my=r at hr ⊢
 cases hv:fvd f
 ·rw [hv] at va hr
  obtain ⟨w,ht,y,u,v⟩:=f
  simp only [fmc] at va ⊢
  refine CallOk.body (F0:=[(0,.agg [.int .i64 w,.int .i64 ht,.slice (bs y) y.length false,.slice (bs u) u.length false,.slice (bs v) v.length false]),(1,.int .i64 mx),(2,.int .i64 my)]) Tryz.func138 rfl Tryz.ntmps138 Tryz.results138 rfl (by kernel_rfl) rfl ?_
  refine PW.e ?_
  (repeat refine PW.seq ?_);refine PW.rg rfl fun K hK=> ?_;simp (disch:=omega) only [go_sem,↓reduceIte,reduceCtorEq];(repeat' (first|((first|refine zj ?_ ?_|refine And.intro ?_ ?_)<;>intro h<;>(try simp only [nqb] at h)<;>simp (disch:=omega) only [go_sem,↓reduceIte,reduceCtorEq,h])|((first|refine VCx.call (va _) rfl ?_);simp (disch:=omega) only [go_sem,↓reduceIte,reduceCtorEq])))
  all_goals (refine hK _ _ ?_;clear hK;(refine PW.ret ⟨_,rfl,?_⟩;first|refine .inl ⟨?_,rfl⟩|refine Fin.base (.id' ?_ (.bool _))|refine Fin.base (.id' ?_ (.int _ _)));(simp_all [slot,Nat.beq]<;>first|rfl|omega|(rw [Bool.eq_iff_iff];simp;done)|(rw [Bool.eq_iff_iff];simp;omega)))
 ·rw [hv] at va hr
  have hp:(0≤f.w∧f.w≤64)∧0≤f.h∧f.h≤64:=by
   unfold fvd fmd at hv
   simp only [Bool.and_eq_true] at hv
   have:=zcW hv.1.1
   omega
  obtain ⟨w,ht,y,u,v⟩:=f
  simp only [fmc] at va hp hr ⊢
  clear hv
  refine CallOk.body (F0:=[(0,.agg [.int .i64 w,.int .i64 ht,.slice (bs y) y.length false,.slice (bs u) u.length false,.slice (bs v) v.length false]),(1,.int .i64 mx),(2,.int .i64 my)]) Tryz.func138 rfl Tryz.ntmps138 Tryz.results138 rfl (by kernel_rfl) rfl ?_
  refine PW.e ?_
  (repeat refine PW.seq ?_);refine PW.rg rfl fun K hK=> ?_;simp (disch:=omega) only [go_sem,↓reduceIte,reduceCtorEq];(repeat' (first|((first|refine zj ?_ ?_|refine And.intro ?_ ?_)<;>intro h<;>(try simp only [nqb] at h)<;>simp (disch:=omega) only [go_sem,↓reduceIte,reduceCtorEq,zx,h])|((first|refine VCx.call (va _) rfl ?_);simp (disch:=omega) only [go_sem,↓reduceIte,reduceCtorEq,zx])))
  all_goals (refine hK _ _ ?_;clear hK va;(refine PW.ret ⟨_,rfl,?_⟩;first|refine .inl ⟨?_,rfl⟩|refine Fin.base (.id' ?_ (.bool _))|refine Fin.base (.id' ?_ (.int _ _)));rw [hr];simp_all [slot,Nat.beq]<;>grind)
theorem F16.has {f:Fm} (h:F16 f):zdc f 0 0=true:=by
 unfold zdc;rw [h.fvd,h.w,h.h];rfl
theorem or6 {i:Nat} (h:i<6):i=0∨i=1∨i=2∨i=3∨i=4∨i=5:=by omega
def zeG (n:Nat) (fd:Bool):List PV:=[.int .i64 (bfr n fd:Int),.int .i64 (bst n fd:Int),.int .i64 8,.int .i64 8]
theorem zbK (n:Nat) (a b c d:Int):∀ x∈[PV.int .i64 a,PV.int .i64 b,PV.int .i64 c,PV.int .i64 d],Scoped n x:=fun x hx=>by
 simp only [List.mem_cons,List.not_mem_nil,or_false] at hx
 rcases hx with rfl|rfl|rfl|rfl<;>exact .int _ _
theorem zpE (H:za):CallOk Tryz.prog 140 [.int .i64 16,.int .i64 0,.int .i64 0] H (.tup [.agg [.int .i64 0,.int .i64 16,.int .i64 16,.int .i64 16],.agg [.int .i64 0,.int .i64 8,.int .i64 8,.int .i64 8]]) H:=by
 have d1:(16:Int).tdiv 2=8:=rfl
 refine CallOk.body (F0:=[(0,.int .i64 16),(1,.int .i64 0),(2,.int .i64 0)]) Tryz.func140 rfl Tryz.ntmps140 Tryz.results140 rfl (by kernel_rfl) rfl ?_
 refine PW.e ?_
 refine PW.e ?_
 refine PW.f (fun K k=>by simp (disch:=omega) only [go_sem,↓reduceIte,reduceCtorEq,d1];exact k) ?_
 (repeat refine PW.seq ?_);refine PW.drawi [H.length,H.length+1] [(6,[0]),(7,[1])] [] [] mix (by kernel_rfl) (by simp<;>omega) fun K hK=> ?_
 simp (disch:=omega) only [go_sem,↓reduceIte,reduceCtorEq]
 refine hK _ _ ?_;clear hK K
 refine PW.ret ⟨.tup [.agg [.int .i64 0,.int .i64 16,.int .i64 16,.int .i64 16],.agg [.int .i64 0,.int .i64 8,.int .i64 8,.int .i64 8]],by simp (disch:=omega) only [go_sem,↓reduceIte,reduceCtorEq,zd,zg,List.mapM_cons,List.mapM_nil,Option.pure_def,Option.bind_eq_bind,Option.bind_some,Array.toList,Int.reduceMul,Int.reduceAdd],?_⟩
 refine Fin.base (.id (.tup (asc fun x hx=> ?_)))
 simp only [List.mem_cons,List.not_mem_nil,or_false] at hx
 rcases hx with rfl|rfl<;>exact zB (zbK _ _ _ _ _)
set_option maxHeartbeats 1600000 in
theorem zjC (n:Nat) (fd:Bool) (hn:n<6) (H:za):CallOk Tryz.prog 290 [.int .i64 16,.int .i64 0,.int .i64 0,.int .i64 (n:Int),.bool fd] H (.agg (zeG n fd)) H:=by
 have mo:=fun K=>zpE K
 have m1:(n:Int).tmod 2=((n%2:Nat):Int):=by rw [zV _ _ (by omega)];omega
 have m2:(n:Int).tdiv 2=((n / 2:Nat):Int):=by rw [zx _ _ (by omega)];omega
 refine CallOk.body (F0:=[(0,.int .i64 16),(1,.int .i64 0),(2,.int .i64 0),(3,.int .i64 (n:Int)),(4,.bool fd)]) Tryz.func290 rfl Tryz.ntmps290 Tryz.results290 rfl (by kernel_rfl) rfl ?_
 refine PW.e ?_
 refine PW.f (fun K k=>by simp (disch:=omega) only [go_sem,↓reduceIte,reduceCtorEq];refine VCx.call (mo _) rfl ?_;simp (disch:=omega) only [go_sem,↓reduceIte,reduceCtorEq];exact k) ?_
 refine PW.e ?_
 (repeat refine PW.seq ?_);refine PW.cond (t:=_) rfl (fun h=> ?_) (fun h=> ?_)
 ·have h4:4≤n:=by have:=of_decide_eq_true h;omega
  refine PW.e ?_
  refine PW.ret ⟨.agg [.int .i64 0,.int .i64 8,.int .i64 8,.int .i64 8],by simp (disch:=omega) only [go_sem,↓reduceIte,reduceCtorEq,zd,zg,List.mapM_cons,List.mapM_nil,Option.pure_def,Option.bind_eq_bind,Option.bind_some,Array.toList],?_⟩
  have e:zeG n fd=[.int .i64 0,.int .i64 8,.int .i64 8,.int .i64 8]:=by unfold zeG bfr bst;rw [if_pos h4,if_pos h4];rfl
  rw [e]
  exact Fin.base (.id (zB (zbK _ _ _ _ _)))
 have h4:¬ 4≤n:=by have:=of_decide_eq_false h;omega
 refine PW.skip ?_
 refine PW.f (fun K k=>by simp (disch:=omega) only [go_sem,↓reduceIte,reduceCtorEq,m1,m2];exact k) ?_
 cases fd
 ·have e:zeG n false=[.int .i64 (0+((n%2:Nat):Int) * 8+((n / 2:Nat):Int) * 8 * 16),.int .i64 16,.int .i64 8,.int .i64 8]:=by
   unfold zeG bfr bst;rw [if_neg h4,if_neg h4]
   simp only [Bool.false_eq_true,if_false,List.cons.injEq,PV.int.injEq,true_and,and_true]
   omega
  refine PW.e ?_
  refine PW.us ?_
  refine PW.e ?_
  refine PW.ret ⟨.agg [.int .i64 (0+((n%2:Nat):Int) * 8+((n / 2:Nat):Int) * 8 * 16),.int .i64 16,.int .i64 8,.int .i64 8],by simp (disch:=omega) only [go_sem,↓reduceIte,reduceCtorEq,zd,zg,List.mapM_cons,List.mapM_nil,Option.pure_def,Option.bind_eq_bind,Option.bind_some,Array.toList],?_⟩
  rw [e]
  exact Fin.base (.id (zB (zbK _ _ _ _ _)))
 ·have e:zeG n true=[.int .i64 (0+((n%2:Nat):Int) * 8+((n / 2:Nat):Int) * 16),.int .i64 32,.int .i64 8,.int .i64 8]:=by
   unfold zeG bfr bst;rw [if_neg h4,if_neg h4]
   simp only [if_true,List.cons.injEq,PV.int.injEq,true_and,and_true]
   omega
  refine PW.e ?_
  refine PW.t ?_
  refine PW.e ?_
  refine PW.ret ⟨.agg [.int .i64 (0+((n%2:Nat):Int) * 8+((n / 2:Nat):Int) * 16),.int .i64 32,.int .i64 8,.int .i64 8],by simp (disch:=omega) only [go_sem,↓reduceIte,reduceCtorEq,zd,zg,List.mapM_cons,List.mapM_nil,Option.pure_def,Option.bind_eq_bind,Option.bind_some,Array.toList,Int.reduceMul],?_⟩
  rw [e]
  exact Fin.base (.id (zB (zbK _ _ _ _ _)))
theorem ziP (w ht:Int) (y u v:List UInt8) (n:Nat) (H:za) (hn:n<6):CallOk Tryz.prog 289 [.agg (fmc ⟨w,ht,y,u,v⟩),.int .i64 (n:Int)] H (.slice (bs (cmp ⟨w,ht,y,u,v⟩ n)) (cmp ⟨w,ht,y,u,v⟩ n).length false) H:=by
 refine CallOk.body (F0:=[(0,.agg [.int .i64 w,.int .i64 ht,.slice (bs y) y.length false,.slice (bs u) u.length false,.slice (bs v) v.length false]),(1,.int .i64 (n:Int))]) Tryz.func289 rfl Tryz.ntmps289 Tryz.results289 rfl (by kernel_rfl) rfl ?_
 refine PW.e ?_
 refine PW.e ?_
 (repeat refine PW.seq ?_);refine PW.block ?_
 refine PW.e ?_
 (repeat refine PW.seq ?_);refine PW.cond (t:=_) rfl (fun h=> ?_) (fun h=> ?_)
 ·have e:n=4:=by have:=of_decide_eq_true h;omega
  subst e
  refine PW.e ?_
  exact PW.ret ⟨_,rfl,Fin.base (.id (zo (zq _ _)))⟩
 have e4:n≠4:=by have:=of_decide_eq_false h;omega
 refine PW.e ?_
 (repeat refine PW.seq ?_);refine PW.cond (t:=_) rfl (fun h=> ?_) (fun h=> ?_)
 ·have e:n=5:=by have:=of_decide_eq_true h;omega
  subst e
  refine PW.e ?_
  exact PW.ret ⟨_,rfl,Fin.base (.id (zo (zq _ _)))⟩
 have e5:n≠5:=by have:=of_decide_eq_false h;omega
 have ec:cmp ⟨w,ht,y,u,v⟩ n=y:=by unfold cmp;rw [if_neg e4,if_neg e5]
 rw [ec]
 refine PW.skip ?_
 refine PW.e ?_
 exact PW.ret ⟨_,rfl,Fin.base (.id (zo (zq _ _)))⟩
theorem zsD (p:List UInt8) (n:Nat) (fd:Bool):fil (fun k=>byt p (bps n fd k)) 64=blk p n fd:=zlf _
theorem znt (n:Nat) (l:List Int) (e:Int):Scoped n (.tup [.agg (is l),.int .i64 e]):=.tup (asc fun x hx=>by
 simp only [List.mem_cons,List.not_mem_nil,or_false] at hx
 rcases hx with rfl|rfl
 ·exact zB (zar _ _)
 ·exact .int _ _)
set_option maxHeartbeats 1600000 in
set_option maxRecDepth 100000 in
theorem zqz (f:Fm) (hf:F16 f) (n:Nat) (hn:n<6) (fd:Bool) (H:za):
  CallOk Tryz.prog 212 [.agg (fmc f),.int .i64 0,.int .i64 0,.int .i64 (n:Int),.bool fd] H (.tup [.agg (is (blk (cmp f n) n fd)),.int .i64 0]) H:=by
 have hm:=fun K=>zk9 f 0 0 K
 rw [hf.has] at hm
 have co:=fun K=>ziP f.w f.h f.y f.u f.v n K hn
 have po:=fun K=>zjC n fd hn K
 have cl:=hf.cmp hn
 have bb:bln n≤256:=by unfold bln;split<;>omega
 have bfb:bfr n fd≤150∧bst n fd≤150:=by
  rcases or6 hn with rfl|rfl|rfl|rfl|rfl|rfl<;>cases fd<;>decide
 have hfit:∀ k,k<8→bfr n fd+k * bst n fd+8≤(cmp f n).length:=fun k hk=>by rw [cl];exact znw hn k hk
 have cu:=fun K=>ziN (cmp f n) (bfr n fd) (bst n fd) 8 8 false K (by omega) (by omega) (by omega) hfit (by omega)
 have ll:=zaS (cmp f n) (bfr n fd) (bst n fd) 8 8 hfit
 have lb:=fun k hk=>zst (p:=cmp f n) (fd:=fd) hn cl (k:=k) hk
 have hz:=zmt (fun k=>byt (cmp f n) (bps n fd k))
 obtain ⟨w,ht,y,u,v⟩:=f
 have hw:w=16:=hf.w
 have hh:ht=16:=hf.h
 subst hw hh
 simp only at co
 obtain ⟨P,hP⟩:∃ P,cmp ⟨16,16,y,u,v⟩ n=P:=⟨_,rfl⟩
 rw [hP] at co cl hfit cu ll lb hz ⊢
 obtain ⟨Z,hZ⟩:∃ Z,ctl P (bfr n fd) (bst n fd) 8 8=Z:=⟨_,rfl⟩
 rw [hZ] at cu ll lb
 simp only [fmc] at hm co ⊢
 unfold zeG at po
 refine CallOk.body (F0:=[(0,.agg [.int .i64 16,.int .i64 16,.slice (bs y) y.length false,.slice (bs u) u.length false,.slice (bs v) v.length false]),(1,.int .i64 0),(2,.int .i64 0),(3,.int .i64 (n:Int)),(4,.bool fd)]) Tryz.func212 rfl Tryz.ntmps212 Tryz.results212 rfl (by kernel_rfl) rfl ?_
 refine PW.e ?_
 (repeat refine PW.seq ?_)
 refine PW.rgv (P:=Tryz.prog) [1,2,3,4,5,10,11] 27 (.bool false) ?_ ?_ ?_
 ·rfl
 ·simp (disch:=omega) only [go_sem,↓reduceIte,reduceCtorEq];(repeat' (first|((first|refine zj ?_ ?_|refine And.intro ?_ ?_)<;>intro h<;>(try simp only [nqb] at h)<;>simp (disch:=omega) only [go_sem,↓reduceIte,reduceCtorEq,h])|((first|refine VCx.call (hm _) rfl ?_);simp (disch:=omega) only [go_sem,↓reduceIte,reduceCtorEq])))
  all_goals (simp_all [slot,Nat.beq]<;>first|rfl|omega|(rw [Bool.eq_iff_iff];simp;done)|(rw [Bool.eq_iff_iff];simp;omega))
 refine PW.us ?_
 refine PW.e ?_
 (repeat refine PW.seq ?_);refine PW.draw mix (by kernel_rfl) fun K hK=> ?_;simp (disch:=omega) only [go_sem,↓reduceIte,reduceCtorEq]
 (repeat' (first|((first|refine zn ?_ ?_|refine And.intro ?_ ?_)<;>intro h<;>(try simp only [nqb] at h)<;>simp (disch:=omega) only [go_sem,↓reduceIte,reduceCtorEq,h])|((first|refine VCy.call (co _) rfl ?_|refine VCy.call (po _) rfl ?_|refine VCy.call (cu _) rfl ?_);simp (disch:=omega) only [go_sem,↓reduceIte,reduceCtorEq])))
 refine hK _ _ ?_;clear hK K
 (repeat refine PW.seq ?_);refine PW.block (PW.loop ?_)
 suffices h1:∀ k:Nat,k≤64→PL Tryz.prog _ _ [(10,.ptr (H.length+1) 0 0),(12,.ptr (H.length+2) 0 0),(39,.slice (bs Z) 64 false),(40,.int .i64 64),(41,.int .i64 (k:Int))] (H++[⟨33,0,[.int .i64 16,.int .i64 16,.slice (bs y) y.length false,.slice (bs u) u.length false,.slice (bs v) v.length false]⟩,⟨151,0,is zi⟩,⟨151,0,is (fil (fun k=>byt P (bps n fd k)) k)⟩]) _ by
  exact PL.at [10,12,39,40,41] (h1 0 (by omega)) rfl (by rw [hz];rfl)
 refine cnt 64 (fun k hk ih=> ?_) ?_
 ·refine PL.round ?_;refine PW.e ?_;refine PW.t ?_
  have g1:=lb k hk
  rw [blk,zbN _ hk] at g1
  have f1:=zfV (fun k=>byt P (bps n fd k)) k
  have f2:=zcX (fun k=>byt P (bps n fd k)) k
  have br:=zaa P (bps n fd k)
  refine PW.skip ?_;(repeat refine PW.seq ?_);refine PW.block ?_
  refine PW.f (fun K k=>by simp (disch:=omega) only [go_sem,↓reduceIte,reduceCtorEq,zbr,ze,ll,g1];exact k) ?_
  refine PW.f (fun K k=>by simp (disch:=omega) only [go_sem,↓reduceIte,reduceCtorEq,zt,f2,zbO,f1];exact k) ?_
  refine PW.e ?_
  exact PL.at [10,12,39,40,41] ih rfl rfl
 refine PL.round ?_;refine PW.e ?_;refine PW.u ?_
 refine PW.exit ?_
 rw [zsD]
 have c3:(blk P n fd).length=64:=zbt _ _
 have c4:(is (blk P n fd)).length=64:=by rw [zt,c3]
 have c5:=zU (blk P n fd)
 have c6:List.take 64 (is (blk P n fd))=is (blk P n fd):=List.take_of_length_le (by omega)
 have z3:(is zi).length=64:=by rw [zt,zhR]
 have z4:List.drop 64 (is zi)=[]:=List.drop_of_length_le (by omega)
 refine PW.f (fun K k=>by simp (disch:=omega) only [go_sem,↓reduceIte,reduceCtorEq,c4,c5,c6,z3,z4];exact k) ?_
 refine PW.ret ⟨.tup [.agg (is (blk P n fd)),.int .i64 0],by simp (disch:=omega) only [go_sem,↓reduceIte,reduceCtorEq,zd,zg,List.mapM_cons,List.mapM_nil,Option.pure_def,Option.bind_eq_bind,Option.bind_some,Array.toList,c4,c6],?_⟩
 exact Fin.base (.id (znt _ _ _))
def one (H:za) (r:Nat) (B:Blk):za:=H.set r B
theorem zcl (H:za) (r:Nat) (B:Blk):(one H r B).length=H.length:=by unfold one;simp
theorem zgL {H:za} {r:Nat} {B:Blk} (h:H[r]? =some B):one H r B=H:=by
 have hl:=(List.getElem?_eq_some_iff.1 h)
 unfold one
 apply List.ext_getElem?
 intro i
 rw [List.getElem?_set]
 split
 ·rename_i e;subst e;rw [if_pos hl.1,h]
 ·rfl
theorem zs9 {H:za} {r:Nat} (hr:r<H.length) (B:Blk):(one H r B)[r]? =some B:=by
 unfold one;rw [List.getElem?_set];simp [hr]
theorem zpl {H:za} {r:Nat} (hr:r<H.length) (B:Blk) (K:za):(one H r B++K)[r]? =some B:=by
 rw [List.getElem?_append_left (by rw [zcl];exact hr),zs9 hr]
theorem zpj (H:za) (r:Nat) (B X:Blk) (K:za):(one H r B++X::K)[H.length]? =some X:=by
 rw [List.getElem?_append_right (by rw [zcl];omega),zcl];simp
theorem zs8 {H:za} {r:Nat} (B C:Blk):(one H r B).set r C=one H r C:=by unfold one;rw [List.set_set]
theorem zpk {H:za} {r:Nat} (hr:r<H.length) (B C:Blk) (K:za):(one H r B++K).set r C=one H r C++K:=by
 rw [List.set_append_left _ _ (by rw [zcl];exact hr),zs8]
theorem zgk (P z:List UInt8) (a:Nat):zO (bs P) a (bs z)=bs (spl P a z):=by
 unfold zO spl
 rw [zbz,zco,ze,←zat,←zat,List.append_assoc]
set_option maxHeartbeats 1600000 in
theorem zb7 (p z:List UInt8) (r v a s w n:Nat) (g f:Bool) (H:za) (hr:H[r]? =some ⟨5,v,bs p⟩) (hw:w≤64) (hn:n≤64) (hp:p.length≤8192) (hz:z.length=n * w) (hfit:∀ k,k<n→a+k * s+w≤p.length) (hs:s≤200∧a≤200):
  CallOk Tryz.prog 78 [.msl r v 0 p.length 1 g,.agg [.int .i64 (a:Int),.int .i64 (s:Int),.int .i64 (w:Int),.int .i64 (n:Int)],.slice (bs z) z.length f] H (.tup []) (H.set r ⟨5,v,bs (pst p a s w z n)⟩):=by
 have hrl:=(List.getElem?_eq_some_iff.1 hr).1
 have hne:H.length≠r:=by omega
 have hne':r≠H.length:=by omega
 have o1:=fun B K=>zpl hrl B K
 have o2:=fun B X K=>zpj H r B X K
 have o3:=fun B C K=>zpk hrl B C K
 have o4:=fun B=>zcl H r B
 have hbig:n * w≤4096:=Nat.mul_le_mul hn hw
 refine CallOk.body (F0:=[(0,.msl r v 0 p.length 1 g),(1,.agg [.int .i64 (a:Int),.int .i64 (s:Int),.int .i64 (w:Int),.int .i64 (n:Int)]),(2,.slice (bs z) z.length f)]) Tryz.func78 rfl Tryz.ntmps78 Tryz.results78 rfl (by kernel_rfl) rfl ?_
 refine PW.eq rfl (zgL hr).symm ?_
 refine PW.f (fun K k=>by simp (disch:=omega) only [go_sem,↓reduceIte,reduceCtorEq,o4];exact k) ?_
 refine PW.f (fun K k=>by simp (disch:=omega) only [go_sem,↓reduceIte,reduceCtorEq,o1,o2,o3];exact k) ?_
 (repeat refine PW.seq ?_);refine PW.block (PW.loop ?_)
 suffices hloop:∀ k:Nat,k≤n→PL Tryz.prog _ _ [(0,.msl r v 0 p.length 1 g),(2,.slice (bs z) z.length f),(4,.ptr H.length 0 0),(8,.int .i64 (n:Int)),(9,.int .i64 (k:Int))] (one H r ⟨5,v,bs (pst p a s w z k)⟩++[⟨164,0,[.int .i64 (a:Int),.int .i64 (s:Int),.int .i64 (w:Int),.int .i64 (n:Int)]⟩]) _ by
  exact PL.at [0,2,4,8,9] (hloop 0 (Nat.zero_le _)) rfl rfl
 refine cnt n (fun k hk ih=> ?_) ?_
 ·have hpl:=zax (p:=p) (a:=a) (s:=s) hz k (by omega) fun j hj=>hfit j (by omega)
  have h6:=hfit k hk
  have ct:=zhk hk
  have eR:(k:Int) * (w:Int)=((k * w:Nat):Int):=by simp
  have b1:(k+1) * w=k * w+w:=by rw [Nat.add_mul];omega
  have eR1:((k:Int)+1) * (w:Int)=((k * w+w:Nat):Int):=by rw [←b1];simp
  have eS:(k:Int) * (s:Int)=((k * s:Nat):Int):=by simp
  have eA:(a:Int)+((k * s:Nat):Int)=((a+k * s:Nat):Int):=by simp
  have b2:(k+1) * w≤n * w:=Nat.mul_le_mul_right _ (by omega)
  have e3:k * w+w - k * w=w:=by omega
  have rl:=zbU hz hk
  have hmin:min (p.length - (a+k * s)) w=w:=by omega
  have htk:List.take w (List.take w (List.drop (k * w) z))=List.take w (List.drop (k * w) z):=List.take_of_length_le (by omega)
  rw [pst] at ih
  refine PL.round ?_;refine PW.f (fun K k=>by simp (disch:=omega) only [go_sem,↓reduceIte,reduceCtorEq,ct];exact k) ?_;refine PW.t ?_
  refine PW.skip ?_;(repeat refine PW.seq ?_);refine PW.block ?_
  refine PW.e ?_
  rw [b1] at b2
  (repeat refine PW.seq ?_);refine PW.drawt [] [] mix (by kernel_rfl) fun K hK=> ?_
  simp (disch:=omega) only [go_sem,↓reduceIte,reduceCtorEq,zaF,o1,o2,o3,eR,eR1,eS,eA,e3,ze,hpl,zco,zbz,hmin,rl,htk]
  refine hK _ _ ?_;clear hK K
  refine PW.e ?_
  refine PL.at [0,2,4,8,9] ih rfl ?_
  rw [←zgk,show min w (p.length - (a+k * s))=w by omega,htk]
  first|rfl|simp [zO,zbz,zco,zat,ze,rl]
 refine PL.round ?_;refine PW.f (fun K k=>by simp (disch:=omega) only [go_sem,↓reduceIte,reduceCtorEq,zjR n];exact k) ?_;refine PW.u ?_
 refine PW.exit ?_
 refine Exists.intro _ (And.intro rfl ?_)
 exact Fin.cut (A:=one H r ⟨5,v,bs (pst p a s w z n)⟩) rfl (zcl _ _ _).symm (fun hh=>HSc.set hh fun x hx=>zq _ _ x hx) (.id (.tup (asc fun x hx=>by cases hx)))
theorem zfh (p:List UInt8) (f:Bool) (r:Nat) (H:za) (hr:H[r]? =some ⟨5,0,[]⟩) (hp:1≤p.length∧p.length≤100000):
  CallOk Tryz.prog 223 [.slice (bs p) p.length f] H (.msl r 1 0 p.length 1 true) (H.set r ⟨5,1,bs p⟩):=by
 have hrl:=(List.getElem?_eq_some_iff.1 hr).1
 have o1:=fun B=>zs9 hrl B
 have o3:=fun B C=>zs8 (H:=H) (r:=r) B C
 have rz:(List.replicate p.length [PV.int .u8 0]).flatten=bs (List.replicate p.length 0):=zc2 _
 have htk:List.take p.length (bs p)=bs p:=List.take_of_length_le (by rw [ze];omega)
 refine CallOk.body (F0:=[(0,.slice (bs p) p.length f)]) Tryz.func223 rfl Tryz.ntmps223 Tryz.results223 rfl (by kernel_rfl) rfl ?_
 refine PW.e ?_
 refine PW.eq rfl (zgL hr).symm ?_
 (repeat refine PW.seq ?_);refine PW.seqi [r] [(6,0)] rfl fun K hK=> ?_
 simp (disch:=omega) only [go_sem,↓reduceIte,reduceCtorEq,o1,o3]
 refine hK _ _ ?_;clear hK K
 rw [rz]
 refine PW.f (fun K k=>by simp (disch:=omega) only [go_sem,↓reduceIte,reduceCtorEq,o1,o3,ze,htk,List.length_replicate];exact k) ?_
 refine PW.e ?_
 refine PW.ret ⟨_,rfl,.inl ⟨rfl,?_⟩⟩
 unfold one
 rw [Nat.min_self,htk,List.drop_of_length_le (by simp [ze]),List.append_nil]
theorem hscP {K0 L L':za} (hl:L'.length=L.length) (hL:∀ b∈L',∀ x∈b.cells,Scoped (K0.length+L.length) x) (h:HSc (K0++L)):HSc (K0++L'):=fun id k hk x hx=>by
 rw [List.length_append,hl]
 rw [List.getElem?_append] at hk
 split at hk
 ·rename_i hlt
  have:=h id k (by rw [List.getElem?_append_left hlt];exact hk) x hx
  rwa [List.length_append] at this
 ·exact hL k (List.mem_of_getElem? hk) x hx
def plc:Blk:=⟨5,0,[]⟩
def cpB (p:List UInt8):Blk:=⟨5,1,bs p⟩
set_option maxHeartbeats 1600000 in
theorem zhL (w ht:Int) (y u v:List UInt8) (K0:za) (hy:1≤y.length∧y.length≤100000) (hu:1≤u.length∧u.length≤100000) (hv:1≤v.length∧v.length≤100000):
  CallOk Tryz.prog 139 [.agg (fmc ⟨w,ht,y,u,v⟩)] (K0++[plc,plc,plc]) (.agg [.int .i64 w,.int .i64 ht,.msl K0.length 1 0 y.length 1 true,.msl (K0.length+1) 1 0 u.length 1 true,.msl (K0.length+2) 1 0 v.length 1 true]) (K0++[cpB y,cpB u,cpB v]):=by
 have g1:K0.length≠K0.length+1:=by omega
 refine CallOk.body (F0:=[(0,.agg [.int .i64 w,.int .i64 ht,.slice (bs y) y.length false,.slice (bs u) u.length false,.slice (bs v) v.length false])]) Tryz.func139 rfl Tryz.ntmps139 Tryz.results139 rfl (by kernel_rfl) rfl ?_
 refine PW.e ?_
 (repeat refine PW.seq ?_);refine PW.drawi [K0.length,K0.length+1,K0.length+2,K0.length+4] [(2,[3]),(8,[0]),(11,[1]),(14,[2])] [] [] mix (by kernel_rfl) (by simp<;>omega) fun K hK=> ?_
 simp (disch:=omega) only [go_sem,↓reduceIte,reduceCtorEq]
 refine VCj.wr1 (id:=K0.length) (k:=plc) (b:=cpB y) (hp0 _ _ _) (fun L hL _=>zfh y false _ L hL hy) (by simp (disch:=omega) only [go_sem,↓reduceIte,reduceCtorEq]) (.inr (by simp (disch:=omega) only [go_sem,↓reduceIte,reduceCtorEq])) rfl ?_
 simp (disch:=omega) only [go_sem,↓reduceIte,reduceCtorEq]
 refine VCj.wr1 (id:=K0.length+1) (k:=plc) (b:=cpB u) (hp1 _ _ _ _) (fun L hL _=>zfh u false _ L hL hu) (by simp (disch:=omega) only [go_sem,↓reduceIte,reduceCtorEq]) (.inr (by simp (disch:=omega) only [go_sem,↓reduceIte,reduceCtorEq])) rfl ?_
 simp (disch:=omega) only [go_sem,↓reduceIte,reduceCtorEq]
 refine VCj.wr1 (id:=K0.length+2) (k:=plc) (b:=cpB v) (hp2 _ _ _ _ _) (fun L hL _=>zfh v false _ L hL hv) (by simp (disch:=omega) only [go_sem,↓reduceIte,reduceCtorEq]) (.inr (by simp (disch:=omega) only [go_sem,↓reduceIte,reduceCtorEq])) rfl ?_
 simp (disch:=omega) only [go_sem,↓reduceIte,reduceCtorEq]
 refine hK _ _ ?_;clear hK K
 refine PW.ret ⟨.agg [.int .i64 w,.int .i64 ht,.msl K0.length 1 0 y.length 1 true,.msl (K0.length+1) 1 0 u.length 1 true,.msl (K0.length+2) 1 0 v.length 1 true],by simp (disch:=omega) only [go_sem,↓reduceIte,reduceCtorEq,zd,zg,List.mapM_cons,List.mapM_nil,Option.pure_def,Option.bind_eq_bind,Option.bind_some,Array.toList],?_⟩
 refine Fin.cut (A:=K0++[cpB y,cpB u,cpB v]) (List.append_assoc _ [_,_,_] [_,_]).symm (by simp) (hscP (by simp) fun b hb x hx=> ?_) (.id (zB fun x hx=> ?_))
 ·simp only [List.mem_cons,List.not_mem_nil,or_false] at hb
  rcases hb with rfl|rfl|rfl<;>exact zq _ _ x hx
 ·simp only [List.mem_cons,List.not_mem_nil,or_false] at hx
  rcases hx with rfl|rfl|rfl|rfl|rfl
  ·exact .int _ _
  ·exact .int _ _
  ·exact .msl (by simp only [List.length_append,List.length_cons,List.length_nil];omega)
  ·exact .msl (by simp only [List.length_append,List.length_cons,List.length_nil];omega)
  ·exact .msl (by simp only [List.length_append,List.length_cons,List.length_nil];omega)
end Go.Proofs.YtjgmdlcjbgiekaaGreatDoor.Sc
