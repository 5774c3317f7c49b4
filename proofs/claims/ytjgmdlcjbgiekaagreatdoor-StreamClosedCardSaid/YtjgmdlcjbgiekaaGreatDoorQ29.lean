/-
  Parts of the proof, put together in one text. No condition.
-/
import Derived.Test.YtjgmdlcjbgiekaaGreatDoorQ28
namespace Go.Proofs.YtjgmdlcjbgiekaaGreatDoor.Sc
set_option linter.all false
open Pm Ty Go.RowKit
theorem znZ {q:List UInt8} {n:Nat} {pr:Int} {most a:Nat} {x:Int} {a1:Nat} (h:tkD q n pr most a= .ok x a1):win x most=true:=by
 unfold tkD at h
 obtain ⟨d,a2,_,h⟩:=Rr.bind_okE h
 split at h
 ·injection h with h _;rw [←h];assumption
 ·cases h
theorem zeL {c:Cx} {q:List UInt8} {n:Nat} {m:Mb} {s:St} {d k a:Nat} {y:Mb×St} {a1:Nat} (h:zdY c q n m s d k a= .ok y a1):∃ p x z:Int,(p=0∨p=1)∧vrg x z=true∧y.1=zdR (if (m.fp||fcx c)=true then zei m d k p else m) d k x z:=by
 unfold zdY at h
 obtain ⟨m',a2,h1,h⟩:=Rr.bind_okE h
 obtain ⟨x,a3,h2,h⟩:=Rr.bind_okE h
 obtain ⟨z,a4,h3,h⟩:=Rr.bind_okE h
 injection h with h _
 have w1:=znZ h2
 have w2:=znZ h3
 have hv:vrg x z=true:=by unfold vrg;rw [show win x 63=true from w1,show win z 63=true from w2];rfl
 split at h1
 ·rename_i hc
  obtain ⟨b,a5,_,h1⟩:=Rr.bind_okE h1
  injection h1 with h1 _
  exact ⟨(b.toNat:Int),x,z,by cases b<;>simp,hv,by rw [←h,if_pos hc,h1]⟩
 ·rename_i hc
  injection h1 with h1 _
  exact ⟨0,x,z,.inl rfl,hv,by rw [←h,if_neg hc,h1]⟩
def bmP (ua ub fp:Bool) (va vb vc vd ve vf vg vh sa sb sc sd:Int):Mb:=⟨2,ua,ub,fp,false,va,vb,vc,vd,ve,vf,vg,vh,sa,sb,sc,sd,0,false,false,false,false,false,false,zl384⟩
theorem zqV:vrg 0 0=true:=by decide
theorem zmA (c:Cx) (fp:Bool):zch c fp false 0 0 0 0 0 0=true:=by unfold zch;simp
theorem zcG {c:Cx} {fp:Bool} {a b d e p q:Int} (h1:vrg a b=true) (h2:vrg d e=true) (hp:p=0∨p=1) (hq:q=0∨q=1) (h3:fp=true∨(d=0∧e=0∧q=0)) (h4:fp=true∨fcx c=true∨p=0):zch c fp true a b d e p q=true:=by
 unfold zch
 rw [if_pos rfl,h1,h2]
 simp only [Bool.true_and,Bool.and_eq_true,Bool.or_eq_true,decide_eq_true_eq]
 exact ⟨hp,hq,h3,h4⟩
theorem dr0 {c:Cx} {q:List UInt8} {n:Nat} {ua ub fp:Bool} {s:St} {a:Nat} {y:Mb×St} {a1:Nat} (h:zeN c q n (bmP ua ub fp 0 0 0 0 0 0 0 0 0 0 0 0) s 0 a= .ok y a1):∃ va vb vc vd sa sb:Int,y.1=bmP ua ub fp va vb vc vd 0 0 0 0 sa sb 0 0∧zch c fp ua va vb vc vd sa sb=true:=by
 unfold zeN at h
 rw [show usd (bmP ua ub fp 0 0 0 0 0 0 0 0 0 0 0 0) 0=ua from rfl,show nvM (bmP ua ub fp 0 0 0 0 0 0 0 0 0 0 0 0)=if fp then 2 else 1 from rfl] at h
 cases ua with
 | false=>
  rw [if_neg (by simp)] at h
  injection h with h _
  exact ⟨0,0,0,0,0,0,by rw [←h],zmA _ _⟩
 | true=>
  rw [if_pos rfl] at h
  cases fp with
  | false=>
   rw [if_neg (by simp),zbQ] at h
   obtain ⟨x,a2,h1,h⟩:=Rr.bind_okE h
   rw [zbQ] at h
   injection h with h _
   obtain ⟨p,u,v,hp,hv,he⟩:=zeL h1
   rw [show (bmP true ub false 0 0 0 0 0 0 0 0 0 0 0 0).fp=false from rfl,Bool.false_or] at he
   have hy:y.1=x.1:=by rw [←h]
   cases hf:fcx c with
   | true=>
    rw [hf,if_pos rfl] at he
    exact ⟨u,v,0,0,p,0,by rw [hy,he];rfl,zcG hv zqV hp (.inl rfl) (.inr ⟨rfl,rfl,rfl⟩) (.inr (.inl hf))⟩
   | false=>
    rw [hf,if_neg (by simp)] at he
    exact ⟨u,v,0,0,0,0,by rw [hy,he];rfl,zcG hv zqV (.inl rfl) (.inl rfl) (.inr ⟨rfl,rfl,rfl⟩) (.inr (.inr rfl))⟩
  | true=>
   rw [if_pos rfl,zbQ] at h
   obtain ⟨x,a2,h1,h⟩:=Rr.bind_okE h
   rw [zbQ] at h
   obtain ⟨x2,a3,h2,h⟩:=Rr.bind_okE h
   rw [zbQ] at h
   injection h with h _
   obtain ⟨p,u,v,hp,hv,he⟩:=zeL h1
   rw [show (bmP true ub true 0 0 0 0 0 0 0 0 0 0 0 0).fp=true from rfl,Bool.true_or,if_pos rfl] at he
   have he':x.1=bmP true ub true u v 0 0 0 0 0 0 p 0 0 0:=he
   obtain ⟨p2,u2,v2,hp2,hv2,he2⟩:=zeL h2
   rw [he'] at he2
   rw [show (bmP true ub true u v 0 0 0 0 0 0 p 0 0 0).fp=true from rfl,Bool.true_or,if_pos rfl] at he2
   exact ⟨u,v,u2,v2,p,p2,by rw [show y.1=x2.1 by rw [←h],he2];rfl,zcG hv hv2 hp hp2 (.inl rfl) (.inl rfl)⟩
theorem dr1 {c:Cx} {q:List UInt8} {n:Nat} {ua ub fp:Bool} {va vb vc vd sa sb:Int} {s:St} {a:Nat} {y:Mb×St} {a1:Nat} (h:zeN c q n (bmP ua ub fp va vb vc vd 0 0 0 0 sa sb 0 0) s 1 a= .ok y a1):∃ ve vf vg vh sc sd:Int,y.1=bmP ua ub fp va vb vc vd ve vf vg vh sa sb sc sd∧zch c fp ub ve vf vg vh sc sd=true:=by
 unfold zeN at h
 rw [show usd (bmP ua ub fp va vb vc vd 0 0 0 0 sa sb 0 0) 1=ub from rfl,show nvM (bmP ua ub fp va vb vc vd 0 0 0 0 sa sb 0 0)=if fp then 2 else 1 from rfl] at h
 cases ub with
 | false=>
  rw [if_neg (by simp)] at h
  injection h with h _
  exact ⟨0,0,0,0,0,0,by rw [←h],zmA _ _⟩
 | true=>
  rw [if_pos rfl] at h
  cases fp with
  | false=>
   rw [if_neg (by simp),zbQ] at h
   obtain ⟨x,a2,h1,h⟩:=Rr.bind_okE h
   rw [zbQ] at h
   injection h with h _
   obtain ⟨p,u,v,hp,hv,he⟩:=zeL h1
   rw [show (bmP ua true false va vb vc vd 0 0 0 0 sa sb 0 0).fp=false from rfl,Bool.false_or] at he
   have hy:y.1=x.1:=by rw [←h]
   cases hf:fcx c with
   | true=>
    rw [hf,if_pos rfl] at he
    exact ⟨u,v,0,0,p,0,by rw [hy,he];rfl,zcG hv zqV hp (.inl rfl) (.inr ⟨rfl,rfl,rfl⟩) (.inr (.inl hf))⟩
   | false=>
    rw [hf,if_neg (by simp)] at he
    exact ⟨u,v,0,0,0,0,by rw [hy,he];rfl,zcG hv zqV (.inl rfl) (.inl rfl) (.inr ⟨rfl,rfl,rfl⟩) (.inr (.inr rfl))⟩
  | true=>
   rw [if_pos rfl,zbQ] at h
   obtain ⟨x,a2,h1,h⟩:=Rr.bind_okE h
   rw [zbQ] at h
   obtain ⟨x2,a3,h2,h⟩:=Rr.bind_okE h
   rw [zbQ] at h
   injection h with h _
   obtain ⟨p,u,v,hp,hv,he⟩:=zeL h1
   rw [show (bmP ua true true va vb vc vd 0 0 0 0 sa sb 0 0).fp=true from rfl,Bool.true_or,if_pos rfl] at he
   have he':x.1=bmP ua true true va vb vc vd u v 0 0 sa sb p 0:=he
   obtain ⟨p2,u2,v2,hp2,hv2,he2⟩:=zeL h2
   rw [he'] at he2
   rw [show (bmP ua true true va vb vc vd u v 0 0 sa sb p 0).fp=true from rfl,Bool.true_or,if_pos rfl] at he2
   exact ⟨u,v,u2,v2,p,p2,by rw [show y.1=x2.1 by rw [←h],he2];rfl,zcG hv hv2 hp hp2 (.inl rfl) (.inl rfl)⟩
theorem pr_f {c:Cx} {q:List UInt8} {n:Nat} {ua ub:Bool} {s:St} {a:Nat} {y:Mb×St} {a1:Nat} (h:zeM c q n (bmP ua ub false 0 0 0 0 0 0 0 0 0 0 0 0) s a= .ok y a1):∃ (fp:Bool) (va vb vc vd ve vf vg vh sa sb sc sd:Int),y.1=bmP ua ub fp va vb vc vd ve vf vg vh sa sb sc sd∧(fp=true→bcx c=true)∧zch c fp ua va vb vc vd sa sb=true∧zch c fp ub ve vf vg vh sc sd=true:=by
 unfold zeM at h
 rw [if_pos (show (bmP ua ub false 0 0 0 0 0 0 0 0 0 0 0 0).k=2 from rfl)] at h
 obtain ⟨m',a2,h1,h⟩:=Rr.bind_okE h
 obtain ⟨fp,hm,hfp⟩:∃ fp,m'=bmP ua ub fp 0 0 0 0 0 0 0 0 0 0 0 0∧(fp=true→bcx c=true):=by
  split at h1
  ·rename_i hc
   obtain ⟨b,a3,_,h1⟩:=Rr.bind_okE h1
   injection h1 with h1 _
   exact ⟨b,h1.symm,fun _=>hc⟩
  ·injection h1 with h1 _
   exact ⟨false,h1.symm,fun e=>by cases e⟩
 subst hm
 rw [zda] at h
 obtain ⟨x,a3,h2,h⟩:=Rr.bind_okE h
 rw [zda] at h
 obtain ⟨x2,a4,h3,h⟩:=Rr.bind_okE h
 rw [zda] at h
 injection h with h _
 obtain ⟨va,vb,vc,vd,sa,sb,e1,d1⟩:=dr0 h2
 rw [e1] at h3
 obtain ⟨ve,vf,vg,vh,sc,sd,e2,d2⟩:=dr1 h3
 exact ⟨fp,va,vb,vc,vd,ve,vf,vg,vh,sa,sb,sc,sd,by rw [show y.1=x2.1 by rw [←h],e2],hfp,d1,d2⟩
theorem zhH (l:List Int) (i j:Nat) (w:Int):zh (l.set i w) j=if i=j∧i<l.length then w else zh l j:=by
 unfold zh
 rw [List.getD_eq_getElem?_getD,List.getD_eq_getElem?_getD,List.getElem?_set]
 by_cases h:i=j
 ·subst h
  by_cases h2:i<l.length
  ·simp [h2]
  ·simp [h2]
 ·simp [h]
theorem zs0 {q:List UInt8} {n:Nat}:∀ (f p a:Nat) (l:List Int) {l':List Int} {a':Nat},tkB q n f p a l= .ok l' a'→(∀ i,win (zh l i) 4095=true)→l'.length=l.length∧∀ i,win (zh l' i) 4095=true
 | 0,p,a,l,l',a',h,hl=>by simp [tkB] at h
 | f+1,p,a,l,l',a',h,hl=>by
  simp only [tkB] at h
  obtain ⟨v,a1,_,h⟩:=Rr.bind_okE h
  split at h
  ·injection h with h _;rw [←h];exact ⟨rfl,hl⟩
  split at h
  ·cases h
  obtain ⟨w,a2,_,h⟩:=Rr.bind_okE h
  split at h
  ·cases h
  split at h
  ·cases h
  rename_i hw
  have hw':win w 4095=true:=by simpa using hw
  obtain ⟨e1,e2⟩:=zs0 f _ _ _ h (fun i=>by
   rw [zhH]
   split
   ·exact hw'
   ·exact hl i)
  exact ⟨e1.trans (by simp),e2⟩
theorem zvp (i:Nat):win (zh z64 i) 4095=true:=by
 unfold z64 zh
 rw [List.getD_eq_getElem?_getD,List.getElem?_replicate]
 split<;>decide
theorem zn4 {q:List UInt8} {n fr a:Nat} {l:List Int} {a1:Nat} (h:zeO q n fr a= .ok l a1):l.length=64∧∀ i,win (zh l i) 4095=true:=by
 unfold zeO at h
 obtain ⟨e1,e2⟩:=zs0 _ _ _ _ h zvp
 exact ⟨e1.trans (by simp [z64]),e2⟩
theorem zjn (m:Mb) (k:Nat) (l:List Int) (hk:k<6) (hl:l.length=64) (hm:m.lv.length=384) (i:Nat):zh (zaU m k l).lv i=if k * 64≤i∧i<k * 64+64 then zh l (i - k * 64) else zh m.lv i:=by
 unfold zaU zh
 simp only [List.getD_eq_getElem?_getD]
 have h1:(m.lv.take (k * 64)).length=k * 64:=by simp;omega
 rw [List.append_assoc]
 by_cases h:i<k * 64
 ·rw [List.getElem?_append_left (by omega),List.getElem?_take,if_pos h,if_neg (by omega)]
 ·rw [List.getElem?_append_right (by omega),h1]
  by_cases h2:i<k * 64+64
  ·rw [List.getElem?_append_left (by omega),if_pos (by omega)]
  ·rw [List.getElem?_append_right (by omega),if_neg (by omega),List.getElem?_drop,hl]
   congr 2;omega
theorem zfG {lv:List Int} (hl:lv.length=384) {n:Nat} (hn:n<6):zbk lv n=true↔∀ j,j<64→zh lv (n * 64+j)=0:=by
 constructor
 ·exact fun h j hj=>znJ h hj
 ·intro h
  unfold zbk
  rw [beq_iff_eq]
  apply List.ext_getElem
  ·simp;omega
  intro i h1 h2
  have hi:i<64:=by simpa using h2
  have:=h i hi
  rw [←zls lv n i hi] at this
  unfold zh at this
  rw [List.getD_eq_getElem?_getD,List.getElem?_eq_getElem h1] at this
  rw [List.getElem_replicate]
  exact this
theorem zqT {l:List Int} (hl:l.length=64):l=z64↔∀ j,j<64→zh l j=0:=by
 constructor
 ·intro h j hj
  rw [h];unfold z64 zh
  rw [List.getD_eq_getElem?_getD,List.getElem?_replicate,if_pos hj];rfl
 ·intro h
  apply List.ext_getElem
  ·simp [hl,z64]
  intro i h1 h2
  have:=h i (by omega)
  unfold zh at this
  rw [List.getD_eq_getElem?_getD,List.getElem?_eq_getElem h1] at this
  simp only [z64,List.getElem_replicate]
  exact this
def SameL (m m':Mb):Prop:=∃ l,m'={ m with lv:=l }
theorem SameL.refl (m:Mb):SameL m m:=⟨m.lv,rfl⟩
theorem SameL.trans {a b c:Mb} (h:SameL a b) (k:SameL b c):SameL a c:=by
 obtain ⟨l,rfl⟩:=h
 obtain ⟨l',rfl⟩:=k
 exact ⟨l',rfl⟩
theorem SameL.set (m:Mb) (n:Nat) (l:List Int):SameL m (zaU m n l):=⟨_,rfl⟩
theorem SameL.cdl {m m':Mb} (h:SameL m m'):Sc.cdl m'=Sc.cdl m∧m'.k=m.k:=by obtain ⟨l,rfl⟩:=h;exact ⟨rfl,rfl⟩
theorem zpF {q:List UInt8} {n:Nat}:∀ (r:Nat) (m:Mb) (s:St) (a:Nat) {y:Mb×St} {a1:Nat},zbR q n r m s a= .ok y a1→r≤6→m.lv.length=384→(∀ i,win (zh m.lv i) 4095=true)→
  SameL m y.1∧y.1.lv.length=384∧(∀ i,win (zh y.1.lv i) 4095=true)∧(m.k=2→(∀ j,6 - r≤j→j<6→zbk m.lv j=true)→∀ j,j<6→zbk y.1.lv j=if 6 - r≤j then !zaz (cdl m) j else zbk m.lv j)
 | 0,m,s,a,y,a1,h,hr,hl,hw=>by
  rw [zbR] at h
  injection h with h _
  rw [←h]
  exact ⟨.refl _,hl,hw,fun _ _ j hj=>by rw [if_neg (by omega)]⟩
 | r+1,m,s,a,y,a1,h,hr,hl,hw=>by
  rw [zbR] at h
  split at h
  ·rename_i hfl
   split at h
   ·rename_i hk
    obtain ⟨l,a2,h1,h⟩:=Rr.bind_okE h
    obtain ⟨e1,e2⟩:=zn4 h1
    split at h
    ·cases h
    rename_i hz
    have hz':¬ ∀ j,j<64→zh l j=0:=fun hh=>hz ((zqT e1).2 hh)
    have at1:=zjn m (5 - r) l (by omega) e1 hl
    obtain ⟨g1,g2,g3,g4⟩:=zpF r _ _ _ h (by omega) (zaH m (5 - r) l (by omega) e1 hl) (fun i=>by
     rw [at1];split
     ·exact e2 _
     ·exact hw i)
    have hs:=SameL.set m (5 - r) l
    have sl:=zaH m (5 - r) l (by omega) e1 hl
    have key:∀ j,j<6→j≠5 - r→zbk (zaU m (5 - r) l).lv j=zbk m.lv j:=fun j hj hne=>by
     rw [Bool.eq_iff_iff,zfG sl hj,zfG hl hj]
     constructor
     ·intro hh i hi
      have:=hh i hi
      rw [at1,if_neg (by omega)] at this
      exact this
     ·intro hh i hi
      rw [at1,if_neg (by omega)]
      exact hh i hi
    have key0:zbk (zaU m (5 - r) l).lv (5 - r)=false:=by
     rw [Bool.eq_false_iff]
     intro hh
     apply hz'
     intro i hi
     have:=(zfG sl (by omega)).1 hh i hi
     rw [at1,if_pos (by omega),Nat.add_sub_cancel_left] at this
     exact this
    refine ⟨hs.trans g1,g2,g3,fun hk2 hzj j hj=> ?_⟩
    have:=g4 (hs.cdl.2.trans hk2) (fun j hj1 hj2=>by rw [key j hj2 (by omega)];exact hzj j (by omega) hj2) j hj
    rw [this,hs.cdl.1]
    by_cases hjr:6 - r≤j
    ·rw [if_pos hjr,if_pos (by omega)]
    ·rw [if_neg hjr]
     by_cases h5:j=5 - r
     ·subst h5
      rw [key0,if_pos (by omega),hfl];rfl
     ·rw [key j hj h5,if_neg (by omega)]
   ·rename_i hk
    obtain ⟨d,a2,h1,h⟩:=Rr.bind_okE h
    obtain ⟨l,a3,h2,h⟩:=Rr.bind_okE h
    obtain ⟨e1,e2⟩:=zn4 h2
    have hd:win d 4095=true:=znZ h1
    have at1:=zjn m (5 - r) (l.set 0 d) (by omega) (by simpa using e1) hl
    obtain ⟨g1,g2,g3,_⟩:=zpF r _ _ _ h (by omega) (zaH m (5 - r) _ (by omega) (by simpa using e1) hl) (fun i=>by
     rw [at1];split
     ·rw [zhH];split
      ·exact hd
      ·exact e2 _
     ·exact hw i)
    exact ⟨(SameL.set m (5 - r) _).trans g1,g2,g3,fun hk2=>absurd hk2 hk⟩
  ·rename_i hfl
   obtain ⟨g1,g2,g3,g4⟩:=zpF r _ _ _ h (by omega) hl hw
   refine ⟨g1,g2,g3,fun hk2 hzj j hj=> ?_⟩
   rw [g4 hk2 (fun j h1 h2=>hzj j (by omega) h2) j hj]
   by_cases hjr:6 - r≤j
   ·rw [if_pos hjr,if_pos (by omega)]
   ·rw [if_neg hjr]
    by_cases h5:j=5 - r
    ·subst h5
     rw [if_pos (by omega),hzj _ (by omega) hj]
     simp at hfl;rw [hfl];rfl
    ·rw [if_neg (by omega)]
theorem ztd {q:List UInt8} {n:Nat} {m:Mb} (hf:∀ j,zaz (cdl m) j=false):∀ (r:Nat) (s:St) (a:Nat),zbR q n r m s a= .ok (m,s) a
 | 0,s,a=>by rw [zbR]
 | r+1,s,a=>by rw [zbR,hf,if_neg (by simp),ztd hf r]
def SameC (m m':Mb):Prop:=∃ c0 c1 c2 c3 c4 c5:Bool,m'={ m with ca:=c0,cb:=c1,cc:=c2,cd:=c3,ce:=c4,cf:=c5 }
theorem SameC.refl (m:Mb):SameC m m:=⟨m.ca,m.cb,m.cc,m.cd,m.ce,m.cf,rfl⟩
theorem SameC.set (m:Mb) (n:Nat) (b:Bool):SameC m (zc4 m n b):=by
 unfold zc4
 split
 ·exact ⟨b,m.cb,m.cc,m.cd,m.ce,m.cf,rfl⟩
 split
 ·exact ⟨m.ca,b,m.cc,m.cd,m.ce,m.cf,rfl⟩
 split
 ·exact ⟨m.ca,m.cb,b,m.cd,m.ce,m.cf,rfl⟩
 split
 ·exact ⟨m.ca,m.cb,m.cc,b,m.ce,m.cf,rfl⟩
 split
 ·exact ⟨m.ca,m.cb,m.cc,m.cd,b,m.cf,rfl⟩
 ·exact ⟨m.ca,m.cb,m.cc,m.cd,m.ce,b,rfl⟩
theorem SameC.trans {a b c:Mb} (h:SameC a b) (k:SameC b c):SameC a c:=by
 obtain ⟨c0,c1,c2,c3,c4,c5,rfl⟩:=h
 obtain ⟨d0,d1,d2,d3,d4,d5,rfl⟩:=k
 exact ⟨d0,d1,d2,d3,d4,d5,rfl⟩
theorem zwN {q:List UInt8} {n:Nat}:∀ (r:Nat) (m:Mb) (a:Nat) {y:Mb} {a1:Nat},zee q n r m a= .ok y a1→SameC m y∧zi0 y=true
 | 0,m,a,y,a1,h=>by
  rw [zee] at h
  split at h
  ·rename_i hc
   injection h with h _
   rw [←h];exact ⟨.refl _,hc⟩
  ·cases h
 | r+1,m,a,y,a1,h=>by
  rw [zee] at h
  obtain ⟨b,a2,_,h⟩:=Rr.bind_okE h
  obtain ⟨h1,h2⟩:=zwN r _ _ h
  exact ⟨(SameC.set m (5 - r) b).trans h1,h2⟩
theorem zu3 {c:Cx} {q:List UInt8} {n:Nat} {hl:Bool} {m:Mb} {s:St} {a:Nat} {y:Mb×St} {a1:Nat} (h:zfA c q n hl m s a= .ok y a1) (hs:1≤s.q∧s.q≤31) (hfd:m.fd=false) (hdl:m.dl=0):
  ∃ (fd:Bool) (dl:Int),y.1={ m with fd:=fd,dl:=dl }∧(hl=true→(fd=true→bcx c=true)∧win dl 30=true)∧(hl=false→fd=false∧dl=0):=by
 unfold zfA at h
 cases hl with
 | false=>
  rw [if_neg (by simp)] at h
  injection h with h _
  refine ⟨false,0,?_,(fun e=>by cases e),fun _=>⟨rfl,rfl⟩⟩
  rw [←h]
  obtain ⟨k,ua,ub,fp,fd,va,vb,vc,vd,ve,vf,vg,vh,sa,sb,sc,sd,dl,ca,cb,cc,cd,ce,cf,lv⟩:=m
  simp only at hfd hdl
  subst hfd hdl;rfl
 | true=>
  rw [if_pos rfl] at h
  obtain ⟨m',a2,h1,h⟩:=Rr.bind_okE h
  obtain ⟨d,a3,_,h⟩:=Rr.bind_okE h
  split at h
  ·rename_i hq
   injection h with h _
   have hd:win d 30=true:=by
    unfold vqB at hq
    unfold win
    simp only [Bool.and_eq_true,decide_eq_true_eq] at hq ⊢
    omega
   obtain ⟨fd,hm,hb⟩:∃ fd,m'={ m with fd:=fd }∧(fd=true→bcx c=true):=by
    split at h1
    ·rename_i hc
     obtain ⟨b,a4,_,h1⟩:=Rr.bind_okE h1
     injection h1 with h1 _
     exact ⟨b,h1.symm,fun _=>hc⟩
    ·injection h1 with h1 _
     refine ⟨false,?_,fun e=>by cases e⟩
     rw [←h1,←hfd]
   subst hm
   exact ⟨fd,d,by rw [←h],fun _=>⟨hb,hd⟩,fun e=>by cases e⟩
  ·cases h
theorem zuZ {q:List UInt8} {n:Nat} {hl:Bool} {m:Mb} {a:Nat} {y:Mb} {a1:Nat} (h:zed q n hl m a= .ok y a1):(m.k=2→hl=true→SameC m y∧zi0 y=true)∧(m.k≠2→y=m)∧(hl=false→y=m):=by
 unfold zed at h
 split at h
 ·rename_i hc
  rw [Bool.and_eq_true,decide_eq_true_eq] at hc
  exact ⟨fun _ _=>zwN 6 _ _ h,fun e=>absurd hc.1 e,fun e=>by rw [hc.2] at e;cases e⟩
 ·rename_i hc
  injection h with h _
  exact ⟨fun e1 e2=>absurd (by rw [decide_eq_true e1,e2];rfl) hc,fun _=>h.symm,fun _=>h.symm⟩
theorem kd_f {c:Cx} {q:List UInt8} {n a:Nat} {x:Mb×Bool} {a1:Nat} (ht:1≤c.t∧c.t≤3) (h:zde c q n a= .ok x a1):
  x=(zfE,true)∨(x=(zMb,false)∧c.t≠1)∨∃ ua ub,x.1=bmP ua ub false 0 0 0 0 0 0 0 0 0 0 0 0∧c.t≠1∧(c.t=2→ua=true∧ub=false)∧(ua=true∨ub=true):=by
 unfold zde at h
 split at h
 ·injection h with h _;exact .inl h.symm
 rename_i h1
 obtain ⟨v,a2,_,h⟩:=Rr.bind_okE h
 obtain ⟨L,hL⟩:∃ L,(if c.t=2 then 3 else 7)=L:=⟨_,rfl⟩
 rw [hL] at h
 split at h
 ·cases h
 rename_i h2
 split at h
 ·injection h with h _;exact .inl h.symm
 rename_i h3
 subst hL
 split at h
 ·injection h with h _;exact .inr (.inl ⟨h.symm,h1⟩)
 rename_i h4
 injection h with h _
 refine .inr (.inr ⟨decide (v≤2)||decide (5≤v),decide (3≤v),by rw [←h];rfl,h1,fun h5=> ?_,?_⟩)
 ·rw [if_pos h5] at h2 h3
  constructor
  ·simp;omega
  ·simp;omega
 ·by_cases h6:v≤2
  ·left;simp [h6]
  ·right;simp;omega
theorem zvn (i:Nat):win (zh zl384 i) 4095=true:=by
 unfold zl384 zh
 rw [List.getD_eq_getElem?_getD,List.getElem?_replicate]
 split<;>decide
theorem zl_z (j:Nat) (hj:j<6):zbk zl384 j=true:=(zfG zaG hj).2 fun i hi=>by
 unfold zl384 zh
 rw [List.getD_eq_getElem?_getD,List.getElem?_replicate]
 split<;>rfl
theorem zvr {c:Cx} (h:vcx c=true):1≤c.t∧c.t≤3:=by
 unfold vcx at h
 simp only [Bool.and_eq_true,decide_eq_true_eq] at h
 exact ⟨h.1,h.2.1⟩
theorem zuc {c:Cx} {q:List UInt8} {n a:Nat} {s:St} {y:Mb×St} {a1:Nat} (hv:vcx c=true) (hs:1≤s.q∧s.q≤31) (h:mtk c s q n a= .ok y a1):fmS c y.1=true:=by
 unfold mtk at h
 obtain ⟨x,a2,hk,h⟩:=Rr.bind_okE h
 unfold zko at h
 obtain ⟨y1,a3,hp,h⟩:=Rr.bind_okE h
 obtain ⟨y2,a4,hc,h⟩:=Rr.bind_okE h
 obtain ⟨m3,a5,ho,h⟩:=Rr.bind_okE h
 obtain ⟨y4,a6,hl,h⟩:=Rr.bind_okE h
 injection h with h _
 have hy:y.1=y4.1:=by rw [←h]
 rw [hy]
 clear h hy
 have hs2:1≤y1.2.q∧y1.2.q≤31:=by rw [(zlF hp).2];exact hs
 unfold fmS
 rw [hv,Bool.true_and]
 rcases kd_f (zvr hv) hk with rfl|⟨rfl,h1⟩|⟨ua,ub,e1,h1,h2,h3⟩
 ·have hp':y1.1=zfE:=by
   unfold zeM at hp
   rw [if_neg (by decide)] at hp
   injection hp with hp _
   rw [←hp]
  rw [hp'] at hc
  obtain ⟨fd,dl,e2,g1,_⟩:=zu3 hc hs2 rfl rfl
  obtain ⟨g2,g3⟩:=g1 rfl
  have e3:m3=y2.1:=(zuZ ho).2.1 (by rw [e2];show (1:Int)≠2;decide)
  rw [e3,e2] at hl
  obtain ⟨⟨l,e4⟩,w1,w2,_⟩:=zpF 6 _ _ _ hl (by omega) zaG zvn
  have hw:lvr l=true:=ziu fun i _=>by have:=w2 i;rw [e4] at this;exact this
  rw [e4]
  have z1:zI { zfE with fd:=fd,dl:=dl,lv:=l }=true:=rfl
  have z2:aC { zfE with fd:=fd,dl:=dl,lv:=l }=true:=rfl
  have z3:fch c { zfE with fd:=fd,dl:=dl,lv:=l }=true:=by
   unfold fch
   rw [if_pos (by rfl)]
   show ((bcx c|| !fd)&&win dl 30)=true
   rw [g3]
   cases fd with
   | false=>simp
   | true=>rw [g2 rfl];rfl
  show (zI { zfE with fd:=fd,dl:=dl,lv:=l }&&(aC { zfE with fd:=fd,dl:=dl,lv:=l }&&(fch c { zfE with fd:=fd,dl:=dl,lv:=l }&&lvr l)))=true
  rw [z1,z2,z3,hw];rfl
 ·have hp':y1.1=zMb:=by
   unfold zeM at hp
   rw [if_neg (by decide)] at hp
   injection hp with hp _
   rw [←hp]
  rw [hp'] at hc
  obtain ⟨fd,dl,e2,_,g1⟩:=zu3 hc hs2 rfl rfl
  obtain ⟨rfl,rfl⟩:=g1 rfl
  have e2':y2.1=zMb:=e2
  have e3:m3=y2.1:=(zuZ ho).2.2 rfl
  rw [e3,e2'] at hl
  have hz:∀ j,zaz (cdl zMb) j=false:=fun j=>by
   unfold zaz cdl zMb
   match j with
   | 0=>rfl
   | 1=>rfl
   | 2=>rfl
   | 3=>rfl
   | 4=>rfl
   | 5=>rfl
   | j+6=>rfl
  rw [ztd hz] at hl
  injection hl with hl _
  rw [←hl,if_pos (show zMb.k=0 from rfl),decide_eq_false h1]
  show (!false&&(zA zMb&&(zlv zl384&&true)))=true
  rw [znF];rfl
 ·rw [e1] at hp
  obtain ⟨fp,va,vb,vc,vd,ve,vf,vg,vh,sa,sb,sc,sd,e2,g1,g2,g3⟩:=pr_f hp
  rw [e2] at hc
  obtain ⟨fd,dl,e3,g4,g5⟩:=zu3 hc hs2 rfl rfl
  have hu:zgc c (bmP ua ub fp va vb vc vd ve vf vg vh sa sb sc sd)=false:=by
   show ((decide (c.t=2)&& !(ua&& !ub))||(!ua&& !ub))=false
   by_cases h5:c.t=2
   ·obtain ⟨rfl,rfl⟩:=h2 h5;simp
   ·rw [decide_eq_false h5]
    rcases h3 with rfl|rfl<;>simp
  obtain ⟨c0,c1,c2,c3,c4,c5,e4,hany⟩:∃ c0 c1 c2 c3 c4 c5:Bool,m3={ y2.1 with ca:=c0,cb:=c1,cc:=c2,cd:=c3,ce:=c4,cf:=c5 }∧zi0 m3=x.2:=by
   obtain ⟨q1,q2,q3⟩:=zuZ ho
   have hk2:y2.1.k=2:=by rw [e3];rfl
   cases hx:x.2 with
   | true=>
    obtain ⟨⟨c0,c1,c2,c3,c4,c5,e⟩,q5⟩:=q1 hk2 hx
    exact ⟨c0,c1,c2,c3,c4,c5,e,q5⟩
   | false=>
    have e:=q3 hx
    refine ⟨false,false,false,false,false,false,?_,?_⟩
    ·rw [e,e3];rfl
    ·rw [e,e3];rfl
  rw [e3] at e4
  rw [e4] at hl hany
  obtain ⟨⟨l,e5⟩,w1,w2,w3⟩:=zpF 6 _ _ _ hl (by omega) zaG zvn
  have w4:=w3 rfl (fun j _ hj=>zl_z j hj)
  have hw:lvr l=true:=ziu fun i _=>by have:=w2 i;rw [e5] at this;exact this
  have hf:fbl [c0,c1,c2,c3,c4,c5] l=true:=zmu fun j hj=>by
   have:=w4 j hj
   rw [if_pos (by omega),e5] at this
   have t2:zbk l j= !zaz [c0,c1,c2,c3,c4,c5] j:=this
   rw [t2];cases zaz [c0,c1,c2,c3,c4,c5] j<;>simp
  rw [e5]
  have hany':(c0||(c1||(c2||(c3||(c4||c5)))))=x.2:=hany
  show (!(decide (c.t=1)||zgc c (bmP ua ub fp va vb vc vd ve vf vg vh sa sb sc sd))&&(!((fp&& !(bcx c))||(fd&& !(bcx c)))&&(zch c fp ua va vb vc vd sa sb&&(zch c fp ub ve vf vg vh sc sd&&(lvr l&&(fbl [c0,c1,c2,c3,c4,c5] l&&(if (false||(c0||(c1||(c2||(c3||(c4||c5))))))=true then win dl 30 else !fd&&decide (dl=0))))))))=true
  rw [hu,decide_eq_false h1,g2,g3,hw,hf,Bool.false_or,hany']
  have hfp:(fp&& !(bcx c))=false:=by
   cases fp with
   | false=>rfl
   | true=>rw [g1 rfl];rfl
  rw [hfp]
  cases hx:x.2 with
  | true=>
   obtain ⟨k1,k2⟩:=g4 hx
   have hfd:(fd&& !(bcx c))=false:=by
    cases fd with
    | false=>rfl
    | true=>rw [k1 rfl];rfl
   simp [hfd,k2]
  | false=>
   obtain ⟨rfl,rfl⟩:=g5 hx
   simp
structure Fm where
 w:Int
 h:Int
 y:List UInt8
 u:List UInt8
 v:List UInt8
def fmc (f:Fm):List PV:=[.int .i64 f.w,.int .i64 f.h,.slice (bs f.y) f.y.length false,.slice (bs f.u) f.u.length false,.slice (bs f.v) f.v.length false]
def fsz (w h:Int):Bool:=decide (2≤w)&&(decide (w≤64)&&(decide (w%2=0)&&(decide (2≤h)&&(decide (h≤64)&&decide (h%2=0)))))
def fmd (f:Fm):Bool:=fsz f.w f.h&&(decide ((f.y.length:Int)=f.w * f.h)&&(decide ((f.u.length:Int)=f.w / 2 * (f.h / 2))&&decide ((f.v.length:Int)=f.w / 2 * (f.h / 2))))
def fvd (f:Fm):Bool:=fmd f&&(decide (f.w%16=0)&&decide (f.h%16=0))
theorem zcW {w h:Int} (e:fsz w h=true):2≤w∧w≤64∧w%2=0∧2≤h∧h≤64∧h%2=0:=by simpa [fsz] using e
theorem zta {a b:Int} (h:0≤a∧a≤64∧0≤b∧b≤64):0≤a * b∧a * b≤4096:=by
 refine ⟨Int.mul_nonneg (by omega) (by omega),?_⟩
 calc a * b≤64 * 64:=Int.mul_le_mul (by omega) (by omega) (by omega) (by omega)
  _=4096:=by decide
theorem ziD (w ht:Int) (H:za):CallOk Tryz.prog 141 [.int .i64 w,.int .i64 ht] H (.bool (fsz w ht)) H:=by
 refine CallOk.body (F0:=[(0,.int .i64 w),(1,.int .i64 ht)]) Tryz.func141 rfl Tryz.ntmps141 Tryz.results141 rfl (by kernel_rfl) rfl ?_
 (repeat' (first|refine PW.seq ?_|refine PW.skip ?_|refine PW.block ?_|((first|refine PW.rg rfl fun K hK=> ?_|refine PW.draw mix (by kernel_rfl) fun K hK=> ?_);simp (disch:=omega) only [go_sem,↓reduceIte,reduceCtorEq,zV])|((first|refine zj ?_ ?_|refine zn ?_ ?_|refine And.intro ?_ ?_)<;>intro h<;>(try simp only [nqb] at h)<;>simp (disch:=omega) only [go_sem,↓reduceIte,reduceCtorEq,zV,h])|(refine hK _ _ ?_;clear hK K)|(refine PW.cond (t:=_) rfl (fun h=> ?_) (fun h=> ?_)<;>(try (cases h;done))<;>(try simp only [nqb] at h))))
 all_goals ((refine PW.ret ⟨_,rfl,?_⟩;first|refine .inl ⟨?_,rfl⟩|refine Fin.base (.id' ?_ (.bool _))|refine Fin.base (.id' ?_ (.int _ _)));(simp_all [fsz,slot,Nat.beq]<;>first|rfl|omega|(rw [Bool.eq_iff_iff];simp;done)|(rw [Bool.eq_iff_iff];simp;omega)))
theorem zaR (f:Fm) (H:za):CallOk Tryz.prog 77 [.agg (fmc f)] H (.bool (fmd f)) H:=by
 obtain ⟨w,ht,y,u,v⟩:=f
 refine CallOk.body (F0:=[(0,.agg [.int .i64 w,.int .i64 ht,.slice (bs y) y.length false,.slice (bs u) u.length false,.slice (bs v) v.length false])]) Tryz.func77 rfl Tryz.ntmps77 Tryz.results77 rfl (by kernel_rfl) rfl ?_
 refine PW.e ?_
 cases hs:fsz w ht
 ·have hc:=fun H=>ziD w ht H
  simp only [hs] at hc
  (repeat refine PW.seq ?_);refine PW.rg rfl fun K hK=> ?_;simp (disch:=omega) only [go_sem,↓reduceIte,reduceCtorEq];(repeat' (first|((first|refine zj ?_ ?_|refine And.intro ?_ ?_)<;>intro h<;>(try simp only [nqb] at h)<;>simp (disch:=omega) only [go_sem,↓reduceIte,reduceCtorEq,h])|((first|refine VCx.call (hc _) rfl ?_);simp (disch:=omega) only [go_sem,↓reduceIte,reduceCtorEq])))
  all_goals (refine hK _ _ ?_;(refine PW.ret ⟨_,rfl,?_⟩;first|refine .inl ⟨?_,rfl⟩|refine Fin.base (.id' ?_ (.bool _))|refine Fin.base (.id' ?_ (.int _ _)));simp [fmd,hs,slot,Nat.beq])
 ·have hc:=fun H=>ziD w ht H
  simp only [hs] at hc
  obtain ⟨g1,g2,g3,g4,g5,g6⟩:=zcW hs
  have m1:=zta (a:=w) (b:=ht) (by omega)
  have m2:=zta (a:=w / 2) (b:=ht / 2) (by omega)
  (repeat refine PW.seq ?_);refine PW.rg rfl fun K hK=> ?_;simp (disch:=omega) only [go_sem,↓reduceIte,reduceCtorEq];(repeat' (first|((first|refine zj ?_ ?_|refine And.intro ?_ ?_)<;>intro h<;>(try simp only [nqb] at h)<;>simp (disch:=omega) only [go_sem,↓reduceIte,reduceCtorEq,zx,h])|((first|refine VCx.call (hc _) rfl ?_);simp (disch:=omega) only [go_sem,↓reduceIte,reduceCtorEq,zx])))
  all_goals (refine hK _ _ ?_;clear hK hc;(refine PW.ret ⟨_,rfl,?_⟩;first|refine .inl ⟨?_,rfl⟩|refine Fin.base (.id' ?_ (.bool _))|refine Fin.base (.id' ?_ (.int _ _)));(simp_all [fmd,slot,Nat.beq]<;>first|rfl|omega|(rw [Bool.eq_iff_iff];simp;done)|(rw [Bool.eq_iff_iff];simp;omega)))
theorem zgb (f:Fm) (H:za):CallOk Tryz.prog 222 [.agg (fmc f)] H (.bool (fvd f)) H:=by
 have hc:=fun H=>zaR f H
 generalize hfv:fvd f=r
 obtain ⟨w,ht,y,u,v⟩:=f
 refine CallOk.body (F0:=[(0,.agg [.int .i64 w,.int .i64 ht,.slice (bs y) y.length false,.slice (bs u) u.length false,.slice (bs v) v.length false])]) Tryz.func222 rfl Tryz.ntmps222 Tryz.results222 rfl (by kernel_rfl) rfl ?_
 refine PW.e ?_
 cases hs:fmd ⟨w,ht,y,u,v⟩
 ·simp only [hs] at hc
  (repeat refine PW.seq ?_);refine PW.rg rfl fun K hK=> ?_;simp (disch:=omega) only [go_sem,↓reduceIte,reduceCtorEq];(repeat' (first|((first|refine zj ?_ ?_|refine And.intro ?_ ?_)<;>intro h<;>(try simp only [nqb] at h)<;>simp (disch:=omega) only [go_sem,↓reduceIte,reduceCtorEq,h])|((first|refine VCx.call (hc _) rfl ?_);simp (disch:=omega) only [go_sem,↓reduceIte,reduceCtorEq])))
  all_goals (refine hK _ _ ?_;clear hK hc;(refine PW.ret ⟨_,rfl,?_⟩;first|refine .inl ⟨?_,rfl⟩|refine Fin.base (.id' ?_ (.bool _))|refine Fin.base (.id' ?_ (.int _ _)));simp [←hfv,fvd,hs,slot,Nat.beq])
 ·simp only [hs] at hc
  have hz:fsz w ht=true:=by simp [fmd] at hs;exact hs.1
  obtain ⟨g1,g2,g3,g4,g5,g6⟩:=zcW hz
  (repeat refine PW.seq ?_);refine PW.rg rfl fun K hK=> ?_;simp (disch:=omega) only [go_sem,↓reduceIte,reduceCtorEq];(repeat' (first|((first|refine zj ?_ ?_|refine And.intro ?_ ?_)<;>intro h<;>(try simp only [nqb] at h)<;>simp (disch:=omega) only [go_sem,↓reduceIte,reduceCtorEq,zV,h])|((first|refine VCx.call (hc _) rfl ?_);simp (disch:=omega) only [go_sem,↓reduceIte,reduceCtorEq,zV])))
  all_goals (refine hK _ _ ?_;clear hK hc;(refine PW.ret ⟨_,rfl,?_⟩;first|refine .inl ⟨?_,rfl⟩|refine Fin.base (.id' ?_ (.bool _))|refine Fin.base (.id' ?_ (.int _ _)));subst hfv;(simp_all [fvd,slot,Nat.beq]<;>first|rfl|omega|(rw [Bool.eq_iff_iff];simp;done)|(rw [Bool.eq_iff_iff];simp;omega)))
def ctl (p:List UInt8) (a s w:Nat) (r:Nat):List UInt8:=((List.range r).map fun k=>(p.drop (a+k * s)).take w).flatten
theorem zg4 (p:List UInt8) (a s w r:Nat):ctl p a s w (r+1)=ctl p a s w r++(p.drop (a+r * s)).take w:=by simp [ctl,List.range_succ]
theorem zaS (p:List UInt8) (a s w:Nat):∀ r,(∀ k,k<r→a+k * s+w≤p.length)→(ctl p a s w r).length=r * w
 | 0,_=>by simp [ctl]
 | r+1,h=>by
  have:=h r (by omega)
  rw [zg4,List.length_append,zaS p a s w r (fun k hk=>h k (by omega)),List.length_take,List.length_drop,Nat.succ_mul]
  omega
theorem zc2 (n:Nat):zbE n [PV.int .u8 0]=bs (List.replicate n 0):=by
 rw [zu6]
 induction n with
 | zero=>rfl
 | succ n ih=>rw [List.replicate_succ,←ih];simp [zbE,List.replicate_succ]
theorem ziN (p:List UInt8) (a s w n:Nat) (f:Bool) (H:za) (hw:w≤64) (hn:n≤64) (hp:p.length≤8192) (hfit:∀ k,k<n→a+k * s+w≤p.length) (hs:s≤200∧a≤200):
  CallOk Tryz.prog 204 [.slice (bs p) p.length f,.agg [.int .i64 (a:Int),.int .i64 (s:Int),.int .i64 (w:Int),.int .i64 (n:Int)]] H (.slice (bs (ctl p a s w n)) (n * w) false) H:=by
 have e0:(w:Int) * (n:Int)=((n * w:Nat):Int):=by rw [Nat.mul_comm];simp
 have hbig:n * w≤4096:=Nat.mul_le_mul hn hw
 refine CallOk.body (F0:=[(0,.slice (bs p) p.length f),(1,.agg [.int .i64 (a:Int),.int .i64 (s:Int),.int .i64 (w:Int),.int .i64 (n:Int)])]) Tryz.func204 rfl Tryz.ntmps204 Tryz.results204 rfl (by kernel_rfl) rfl ?_
 refine PW.e ?_
 refine PW.f (fun K k=>by simp (disch:=omega) only [go_sem,↓reduceIte,reduceCtorEq,e0];exact k) ?_
 refine PW.e ?_
 (repeat refine PW.seq ?_);refine PW.block (PW.loop ?_)
 suffices hloop:∀ (r:Nat),r≤n→PL Tryz.prog _ _ [(0,.slice (bs p) p.length f),(3,.ptr H.length 0 0),(5,.msl (H.length+1) 0 0 (n * w) 1 true),(14,.int .i64 (n:Int)),(15,.int .i64 (r:Int))] (H++[⟨164,0,[.int .i64 (a:Int),.int .i64 (s:Int),.int .i64 (w:Int),.int .i64 (n:Int)]⟩,⟨5,0,bs (ctl p a s w r++List.replicate ((n - r) * w) 0)⟩]) _ by
  exact PL.at [0,3,5,14,15] (hloop 0 (Nat.zero_le _)) rfl (by rw [show ctl p a s w 0=[] from rfl,List.nil_append,Nat.sub_zero,←zc2];rfl)
 intro r hr
 induction hm:n - r using Nat.strongRecOn generalizing r with
 | _ m ih=>
  have hcl:=zaS p a s w r (fun k hk=>hfit k (by omega))
  refine PL.round ?_;refine PW.e ?_
  (repeat refine PW.seq ?_);refine PW.cond (t:=_) rfl (fun h=> ?_) (fun h=> ?_)
  ·have h4:r<n:=by have:=of_decide_eq_true h;omega
   have hnext:=ih (n - (r+1)) (by omega) (r+1) (by omega) rfl
   have h6:=hfit r h4
   have eR:(r:Int) * (w:Int)=((r * w:Nat):Int):=by simp
   have eR1:((r:Int)+1) * (w:Int)=(((r+1) * w:Nat):Int):=by simp
   have eS:(r:Int) * (s:Int)=((r * s:Nat):Int):=by simp
   have eA:(a:Int)+((r * s:Nat):Int)=((a+r * s:Nat):Int):=by simp
   have b2:(r+1) * w≤n * w:=Nat.mul_le_mul_right _ (by omega)
   have b1:(r+1) * w=r * w+w:=by rw [Nat.add_mul];omega
   have e3:r * w+w - r * w=w:=by omega
   have hbl:(ctl p a s w r++List.replicate (m * w) 0).length=n * w:=by
    rw [List.length_append,hcl,List.length_replicate,←Nat.add_mul,show r+m=n by omega]
   have htk:List.take (p.length - (a+r * s)) (List.drop (a+r * s) p)=List.drop (a+r * s) p:=List.take_of_length_le (by simp)
   have hdl:(List.drop (a+r * s) p).length=p.length - (a+r * s):=List.length_drop
   have hmin:min (p.length - (a+r * s)) w=w:=by omega
   have hzl:(List.take w (List.drop (a+r * s) p)).length=w:=by simp;omega
   have htk1:List.take (r * w) (ctl p a s w r++List.replicate (m * w) 0)=ctl p a s w r:=by rw [←hcl];exact List.take_left
   have htk2:List.drop (r * w+w) (ctl p a s w r++List.replicate (m * w) 0)=List.replicate ((n - (r+1)) * w) 0:=by
    rw [←hcl,List.drop_append,hcl,List.drop_of_length_le (by omega),List.nil_append,List.drop_replicate]
    congr 1
    have:m * w=(n - (r+1)) * w+w:=by rw [←Nat.succ_mul];congr 1;omega
    omega
   refine PW.skip ?_;(repeat refine PW.seq ?_);refine PW.block ?_
   refine PW.e ?_
   rw [b1] at eR1 b2
   (repeat refine PW.seq ?_);refine PW.draw mix (by kernel_rfl) fun K hK=> ?_;simp (disch:=omega) only [go_sem,↓reduceIte,reduceCtorEq,eR,eR1,eS,eA,e3,ze,hbl,zco,zbz,htk,hdl,hmin,hzl,htk1,htk2];refine hK _ _ ?_;clear hK K
   refine PW.e ?_
   rw [zg4,List.append_assoc,zat,zat] at hnext
   exact PL.at [0,3,5,14,15] hnext rfl rfl
  ·have h4:r=n:=by have:=of_decide_eq_false h;omega
   subst h4
   refine PW.exit ?_
   refine PW.e ?_
   refine PW.ret ⟨_,rfl,?_⟩
   rw [show r - r=0 from Nat.sub_self r] at hm
   subst hm
   rw [Nat.zero_mul,List.replicate_zero,List.append_nil]
   exact Fin.base (Fz.mslC (e:=5) (xs:=bs (ctl p a s w r)) (by omega) (hp1 _ _ _ _) (by rw [ze,hcl];omega) (FzC.refl (zq _ _)))
end Go.Proofs.YtjgmdlcjbgiekaaGreatDoor.Sc
