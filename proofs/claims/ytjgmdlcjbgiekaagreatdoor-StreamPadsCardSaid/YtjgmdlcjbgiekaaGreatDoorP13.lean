/-
  Parts of the proof, put together in one text. No condition.
-/
import Derived.Test.YtjgmdlcjbgiekaaGreatDoorP12
namespace Go.Proofs.YtjgmdlcjbgiekaaGreatDoor.Sc
set_option linter.all false
open Pm Ty Go.RowKit
def zhm (c:Cx) (s:St) (q:List UInt8) (n a:Nat):Rr (Mb×St):=if vcx c&&zi6 s then mtk c s q n a else .er 0 a
def rvM:Rr (Mb×St)→PV
 | .ok y _=>.tup [.agg (mbc y.1),.agg (stc y.2),.int .i64 0]
 | .er e _=>.tup [.agg zmv,.agg (stc zSt),ecd e]
def zwq (H:za) (i:Nat) (p:List UInt8) (n:Nat) (x:Rr (Mb×St)):PV→za→Prop:=fun v H'=>v=rvM x∧
 match x with
 | .ok _ a=>H'=H.set i (rA p n a)
 | .er _ _=>∃ a,a≤n∧H'=H.set i (rA p n a)
theorem zl3 (k:Nat) (m:Mb):∀ x∈mbc m,Scoped k x:=fun x hx=>mbl_sc0 k m x hx
where
 mbl_sc0 (n:Nat) (m:Mb):∀ x∈mbc m,Scoped n x:=fun x hx=>by
  simp only [mbc,List.mem_cons] at hx
  rcases hx with rfl|rfl|rfl|rfl|rfl|rfl|rfl|rfl|rfl|rfl|rfl|rfl|rfl|rfl|rfl|rfl|rfl|rfl|rfl|rfl|rfl|rfl|rfl|rfl|hx
  all_goals first|exact .int _ _|exact .bool _|exact zat _ _ _ hx
theorem zt3 (k:Nat) (x:Rr (Mb×St)):Scoped k (rvM x):=by
 cases x with
 | ok y a=>
  refine .tup (zay fun x hx=> ?_)
  simp only [List.mem_cons,List.not_mem_nil,or_false] at hx
  rcases hx with rfl|rfl|rfl
  ·exact zB (zl3 _ _)
  ·exact zcL _ _
  ·exact .int _ _
 | er e a=>
  refine .tup (zay fun x hx=> ?_)
  simp only [List.mem_cons,List.not_mem_nil,or_false] at hx
  rcases hx with rfl|rfl|rfl
  ·exact zB (zl3 _ _)
  ·exact zcL _ _
  ·exact .int _ _
theorem znI:zj Tryz.prog 154=some zmv:=by kernel_rfl
theorem zd6:zmv.length=408:=zV zMb zaI
theorem zi2:zmv.all PV.cell=true:=zeo zMb
theorem zn1 {c:Cx} {p:List UInt8} {n:Nat} {hl:Bool} {m:Mb} {s:St} {a:Nat} {y:Mb×St} {a1:Nat} (h:zfB c p n hl m s a= .ok y a1) (ha:a≤n):a1≤n∧y.1.lv=m.lv∧(s.da=y.2.da∧s.db=y.2.db∧s.dc=y.2.dc):=by
 unfold zfB at h
 split at h
 ·suffices hr:∀ (m':Mb) (a':Nat),m'.lv=m.lv→a'≤n→((tkS p n a').bind fun d a2=>if vqB (s.q+d) then .ok ({ m' with dl:=d },{ s with q:=s.q+d }) a2 else .er 2 a2)= .ok y a1→a1≤n∧y.1.lv=m.lv∧(s.da=y.2.da∧s.db=y.2.db∧s.dc=y.2.dc) by
   split at h
   ·cases hf:tkF p n a with
    | er e a2=>rw [hf] at h;cases h
    | ok b a2=>
     have:=zfo hf
     rw [hf,Rr.bind_ok,Rr.bind_ok] at h
     exact hr { m with fd:=b } a2 rfl (by omega) h
   ·rw [Rr.bind_ok] at h
    exact hr m a rfl ha h
  intro m' a' hm' ha' h
  cases h1:tkS p n a' with
  | er e a2=>rw [h1] at h;cases h
  | ok d a2=>
   have b1:=zd9 h1 ha'
   rw [h1,Rr.bind_ok] at h
   split at h
   ·injection h with e1 e2
    subst e1 e2
    exact ⟨b1.2.2,hm',rfl,rfl,rfl⟩
   ·cases h
 ·injection h with e1 e2
  subst e1 e2
  exact ⟨ha,rfl,rfl,rfl,rfl⟩
theorem zri (m:Mb) (n:Nat) (b:Bool):(zc1 m n b).k=m.k:=by
 unfold zc1
 repeat' split
 all_goals rfl
theorem zn2 {p:List UInt8} {n:Nat}:∀ (r:Nat) (m:Mb) (a:Nat) {m':Mb} {a1:Nat},zeb p n r m a= .ok m' a1→a≤n→a1≤n∧m'.lv=m.lv∧m'.k=m.k
 | 0,m,a,m',a1,h,ha=>by
  simp only [zeb] at h
  split at h
  ·injection h with e1 e2
   subst e1 e2
   exact ⟨ha,rfl,rfl⟩
  ·cases h
 | r+1,m,a,m',a1,h,ha=>by
  simp only [zeb] at h
  cases hf:tkF p n a with
  | er e a2=>rw [hf] at h;cases h
  | ok b a2=>
   have hb:=zfo hf
   rw [hf,Rr.bind_ok] at h
   obtain ⟨c1,c2,c3⟩:=zn2 r _ _ h (by omega)
   exact ⟨c1,by rw [c2,zgp],by rw [c3,zri]⟩
theorem zn0 {p:List UInt8} {n:Nat} {hl:Bool} {m:Mb} {a:Nat} {m':Mb} {a1:Nat} (h:zea p n hl m a= .ok m' a1) (ha:a≤n):a1≤n∧m'.lv=m.lv∧m'.k=m.k:=by
 unfold zea at h
 split at h
 ·exact zn2 _ _ _ h ha
 ·injection h with e1 e2
  subst e1 e2
  exact ⟨ha,rfl,rfl⟩
theorem zkq {c:Cx} {p:List UInt8} {n:Nat}:∀ (r d:Nat) (m:Mb) (s:St) (a:Nat) {y:Mb×St} {a1:Nat},zc8 c p n r d m s a= .ok y a1→a≤n→vrS s→a1≤n∧SameU m y.1∧vrS y.2
 | 0,d,m,s,a,y,a1,h,ha,hs=>by
  simp only [zc8] at h
  injection h with e1 e2
  subst e1 e2
  exact ⟨ha,.refl m,hs⟩
 | r+1,d,m,s,a,y,a1,h,ha,hs=>by
  simp only [zc8] at h
  cases h1:zeO c p n m s d a with
  | er e a2=>rw [h1] at h;cases h
  | ok x a2=>
   obtain ⟨b1,b2,b3⟩:=ztM h1 ha hs
   rw [h1,Rr.bind_ok] at h
   obtain ⟨c1,c2,c3⟩:=zkq r (d+1) x.1 x.2 a2 h b1 b3
   exact ⟨c1,b2.trans c2,c3⟩
theorem ztK {c:Cx} {p:List UInt8} {n:Nat} {m:Mb} {s:St} {d k a:Nat} {y:Mb×St} {a1:Nat} (h:zdQ c p n m s d k a= .ok y a1):SameQ s y.2:=by
 unfold zdQ at h
 suffices hr:∀ (m':Mb) (a':Nat),((tkD p n (sXs s d) 63 a').bind fun x a2=>(tkD p n (sYs s d) 63 a2).bind fun y a3=>.ok (zdJ m' d k x y,zbP s d x y) a3)= .ok y a1→SameQ s y.2 by
  split at h
  ·cases hf:tkF p n a with
   | er e a2=>rw [hf] at h;cases h
   | ok b a2=>rw [hf,Rr.bind_ok,Rr.bind_ok] at h;exact hr _ _ h
  ·rw [Rr.bind_ok] at h;exact hr _ _ h
 intro m' a' h
 cases h1:tkD p n (sXs s d) 63 a' with
 | er e a2=>rw [h1] at h;cases h
 | ok x a2=>
  rw [h1,Rr.bind_ok] at h
  cases h2:tkD p n (sYs s d) 63 a2 with
  | er e a3=>rw [h2] at h;cases h
  | ok z a3=>
   rw [h2,Rr.bind_ok] at h
   injection h with e1 e2
   subst e1
   show SameQ s (zbP s d x z)
   unfold zbP
   split<;>exact ⟨rfl,rfl,rfl,rfl⟩
theorem znT {c:Cx} {p:List UInt8} {n d:Nat}:∀ (r k:Nat) (m:Mb) (s:St) (a:Nat) {y:Mb×St} {a1:Nat},zbM c p n d r k m s a= .ok y a1→SameQ s y.2
 | 0,k,m,s,a,y,a1,h=>by
  simp only [zbM] at h
  injection h with e1 e2
  subst e1
  exact ⟨rfl,rfl,rfl,rfl⟩
 | r+1,k,m,s,a,y,a1,h=>by
  simp only [zbM] at h
  cases h1:zdQ c p n m s d k a with
  | er e a2=>rw [h1] at h;cases h
  | ok x a2=>
   rw [h1,Rr.bind_ok] at h
   exact (ztK h1).trans (znT r (k+1) x.1 x.2 a2 h)
theorem zkp {c:Cx} {p:List UInt8} {n:Nat}:∀ (r d:Nat) (m:Mb) (s:St) (a:Nat) {y:Mb×St} {a1:Nat},zc8 c p n r d m s a= .ok y a1→SameQ s y.2
 | 0,d,m,s,a,y,a1,h=>by
  simp only [zc8] at h
  injection h with e1 e2
  subst e1
  exact ⟨rfl,rfl,rfl,rfl⟩
 | r+1,d,m,s,a,y,a1,h=>by
  simp only [zc8] at h
  cases h1:zeO c p n m s d a with
  | er e a2=>rw [h1] at h;cases h
  | ok x a2=>
   rw [h1,Rr.bind_ok] at h
   refine SameQ.trans ?_ (zkp r (d+1) x.1 x.2 a2 h)
   unfold zeO at h1
   split at h1
   ·exact znT _ _ _ _ _ h1
   ·injection h1 with e1 e2
    subst e1
    exact ⟨rfl,rfl,rfl,rfl⟩
theorem znW {c:Cx} {p:List UInt8} {n:Nat} {m:Mb} {s:St} {a:Nat} {y:Mb×St} {a1:Nat} (h:zeN c p n m s a= .ok y a1) (ha:a≤n) (hs:vrS s):a1≤n∧y.1.lv=m.lv∧y.1.k=m.k∧SameQ s y.2:=by
 unfold zeN at h
 split at h
 ·split at h
  ·cases hf:tkF p n a with
   | er e a2=>rw [hf] at h;cases h
   | ok b a2=>
    have:=zfo hf
    rw [hf,Rr.bind_ok,Rr.bind_ok] at h
    obtain ⟨c1,c2,c3⟩:=zkq _ _ _ _ _ h (by omega) hs
    exact ⟨c1,c2.1,c2.2.2.2.2,zkp _ _ _ _ _ h⟩
  ·rw [Rr.bind_ok] at h
   obtain ⟨c1,c2,c3⟩:=zkq _ _ _ _ _ h ha hs
   exact ⟨c1,c2.1,c2.2.2.2.2,zkp _ _ _ _ _ h⟩
 ·injection h with e1 e2
  subst e1 e2
  exact ⟨ha,rfl,rfl,rfl,rfl,rfl,rfl⟩
theorem znX {c:Cx} {p:List UInt8} {n a:Nat} {x:Mb×Bool} {a1:Nat} (h:zdb c p n a= .ok x a1) (ha:a≤n):a1≤n∧x.1.lv=zl384:=by
 unfold zdb at h
 split at h
 ·injection h with e1 e2
  subst e1 e2
  exact ⟨ha,rfl⟩
 ·cases hu:tkU p n a with
  | er e a2=>rw [hu] at h;cases h
  | ok v a2=>
   have hb:=zd8 hu ha
   rw [hu,Rr.bind_ok] at h
   generalize (if c.t=2 then 3 else 7:Nat)=last at h
   split at h
   ·cases h
   ·split at h
    ·injection h with e1 e2;subst e1 e2;exact ⟨hb.2.2,rfl⟩
    ·split at h
     ·injection h with e1 e2;subst e1 e2;exact ⟨hb.2.2,rfl⟩
     ·injection h with e1 e2;subst e1 e2;exact ⟨hb.2.2,rfl⟩
theorem zgd {p:List UInt8} {n:Nat}:∀ (r:Nat) (m:Mb) (s:St) (a:Nat) {y:Mb×St} {a1:Nat},zbN p n r m s a= .ok y a1→a≤n→r≤6→m.lv.length=384→a1≤n∧y.1.lv.length=384∧y.1.k=m.k
 | 0,m,s,a,y,a1,h,ha,hr,hm=>by
  simp only [zbN] at h
  injection h with e1 e2
  subst e1 e2
  exact ⟨ha,hm,rfl⟩
 | r+1,m,s,a,y,a1,h,ha,hr,hm=>by
  have hzl:z64.length=64:=by simp [z64]
  simp only [zbN] at h
  split at h
  ·split at h
   ·cases h1:zeP p n 0 a with
    | er e a2=>rw [h1] at h;cases h
    | ok l a2=>
     have hb:=zhu _ _ _ _ h1 ha
     rw [h1,Rr.bind_ok] at h
     split at h
     ·cases h
     ·exact zgd r (zaV m (5 - r) l) s a2 h hb.2.1 (by omega) (zaJ _ _ _ (by omega) (by rw [hb.2.2,hzl]) hm)
   ·cases h1:tkD p n (dcS s (5 - r - 3)) 4095 a with
    | er e a2=>rw [h1] at h;cases h
    | ok d a2=>
     have hb:=zht h1 ha
     rw [h1,Rr.bind_ok] at h
     cases h2:zeP p n 1 a2 with
     | er e a3=>rw [h2] at h;cases h
     | ok l a3=>
      have hb2:=zhu _ _ _ _ h2 hb.2.2
      rw [h2,Rr.bind_ok] at h
      exact zgd r (zaV m (5 - r) (l.set 0 d)) _ a3 h hb2.2.1 (by omega) (zaJ _ _ _ (by omega) (by rw [List.length_set,hb2.2.2,hzl]) hm)
  ·exact zgd r m s a h ha (by omega) hm
theorem zkn (H:za) (i:Nat) (p:List UInt8) (n a:Nat) (K:za) (x:Rr (Mb×St)) (hx:match x with| .ok _ a'=>a=a'| .er _ _=>a≤n):zqL H (zwq H i p n x) (rvM x) (H.set i (rA p n a)++K):=
 .inr (.inr fun hs=>⟨rvM x,H.set i (rA p n a),by
  cases x with
  | ok y a'=>exact ⟨rfl,by rw [show a=a' from hx]⟩
  | er e a'=>exact ⟨rfl,a,hx,rfl⟩,by simp,CutH.base (zdn _ _ _ _ _ hs),.id (zt3 _ _)⟩)
theorem ztL {c:Cx} {p:List UInt8} {n a e a1:Nat} (h:zdb c p n a= .er e a1) (ha:a≤n):a1≤n:=by
 unfold zdb at h
 split at h
 ·cases h
 ·cases hu:tkU p n a with
  | er e2 a2=>rw [hu] at h;have:=zjb hu;injection h with h1 h2;omega
  | ok v a2=>
   have hb:=zd8 hu ha
   rw [hu,Rr.bind_ok] at h
   generalize (if c.t=2 then 3 else 7:Nat)=last at h
   split at h
   ·injection h with h1 h2;omega
   ·split at h
    ·cases h
    ·split at h<;>cases h
theorem zn7 (H:za) (i:Nat) (p:List UInt8) (n a:Nat) (X:za) (B4 B5:Blk) (j:Nat) (hX:X.length=4) (hj:j<4):(tG H i p n a X B4 B5)[H.length+j]? =X[j]? :=by
 unfold tG
 rw [List.getElem?_append_right (by simp),List.length_set,show H.length+j - H.length=j by omega,List.getElem?_append_left (by omega)]
theorem zs6 (H:za) (i:Nat) (p:List UInt8) (n a:Nat) (X:za) (B4 B5 B:Blk) (j:Nat) (hX:X.length=4) (hj:j<4):(tG H i p n a X B4 B5).set (H.length+j) B=tG H i p n a (X.set j B) B4 B5:=by
 unfold tG
 rw [List.set_append_right _ _ (by simp),List.length_set,show H.length+j - H.length=j by omega,List.set_append_left _ _ (by omega)]
def Rk (c:Cx) (q:List UInt8) (n:Nat):Nat→Mb→St→Bool→Nat→Rr (Mb×St)
 | 0,_,s,_,a=>mtk c s q n a
 | 1,m,s,hl,a=>zko c q n hl m s a
 | 2,m,s,hl,a=>(zfB c q n hl m s a).bind fun z a3=>(zea q n hl z.1 a3).bind fun m a4=>(zbN q n 6 m z.2 a4).bind fun w a5=>.ok (w.1,aft w.2 w.1.k) a5
 | 3,m,s,hl,a=>(zea q n hl m a).bind fun m a4=>(zbN q n 6 m s a4).bind fun w a5=>.ok (w.1,aft w.2 w.1.k) a5
 | 4,m,s,_,a=>(zbN q n 6 m s a).bind fun w a5=>.ok (w.1,aft w.2 w.1.k) a5
 | _,m,s,_,a=>.ok (m,aft s m.k) a
structure Sd (n k:Nat) (m:Mb) (s:St) (hl:Bool) (a:Nat):Prop where
 l:m.lv.length=384
 a:a≤n
 z:k=0→m=zMb∧hl=false
 v:k≤1→vrS s
 q:k≤2→1≤s.q∧s.q≤31
 d:k≤4→dcR s
def prts:List PV:=[.func 184 [] [],.func 185 [] [],.func 186 [] [],.func 187 [] [],.func 188 [] []]
def zwb (H:za) (i:Nat) (p:List UInt8) (n:Nat) (X:za) (c:Cx) (k:Nat) (res:Rr (Mb×St)):PV→za→Prop:=fun v H'=>
 (∃ m s hl a,v= .int .i64 0∧Sd n (k+1) m s hl a∧Rk c p n (k+1) m s hl a=res∧H'=tG H i p n a X (mB m) (tB s i c (H.length+4) hl))∨
 (∃ e a0,res= .er e a0∧v=ecd e∧∃ a m s hl,a≤n∧m.lv.length=384∧H'=tG H i p n a X (mB m) (tB s i c (H.length+4) hl))
theorem zid {H:za} {i:Nat} {p:List UInt8} {n:Nat} {X:za} {c:Cx} {k:Nat} {res:Rr (Mb×St)} {hl:Bool} {x:Rr (Mb×St)} (hok:∀ y a,x= .ok y a→Sd n (k+1) y.1 y.2 hl a∧Rk c p n (k+1) y.1 y.2 hl a=res) (her:∀ e a,x= .er e a→∃ a0,res= .er e a0) (v:PV) (H':za) (h:zm0 H i p n X c hl x v H'):zwb H i p n X c k res v H':=by
 cases x with
 | ok y a=>
  obtain ⟨h1,h2⟩:=hok y a rfl
  exact .inl ⟨y.1,y.2,hl,a,h.1,h1,h2,h.2⟩
 | er e a=>
  obtain ⟨a0,h0⟩:=her e a rfl
  obtain ⟨h1,a1,m,s,h2,h3,h4⟩:=h
  exact .inr ⟨e,a0,h0,h1,a1,m,s,hl,h2,h3,h4⟩
theorem disp (H:za) (i:Nat) (p:List UInt8) (n:Nat) (X:za) (c:Cx) (hi:i<H.length) (hX:X.length=4) (hn:n≤8 * p.length) (hp:p.length≤100000000) (k:Nat) (hk:k<5) (m:Mb) (s:St) (hl:Bool) (a:Nat) (res:Rr (Mb×St)) (hS:Sd n k m s hl a) (hR:Rk c p n k m s hl a=res):
  ∃ f,prts[k]? =some (.func f [] [])∧CallEx Tryz.prog f [.ptr (H.length+5) 0 0] (tG H i p n a X (mB m) (tB s i c (H.length+4) hl)) (zwb H i p n X c k res):=by
 obtain ⟨hl384,ha,hz,hv,hq,hd⟩:=hS
 have h5:k=0∨k=1∨k=2∨k=3∨k=4:=by omega
 rcases h5 with rfl|rfl|rfl|rfl|rfl
 ·obtain ⟨rfl,rfl⟩:=hz rfl
  refine ⟨_,rfl,(znS H i p n a X c s hi hX ha hn hp).toEx.mono fun v H' h=> ?_⟩
  obtain ⟨rfl,rfl⟩:=h
  simp only [Rk,mtk] at hR
  cases hk:zdb c p n a with
  | ok x a1=>
   rw [hk,Rr.bind_ok] at hR
   obtain ⟨b1,b2⟩:=znX hk ha
   exact .inl ⟨x.1,s,x.2,a1,rfl,⟨by rw [b2];exact zaI,b1,fun e=>by omega,fun _=>hv (by omega),fun _=>hq (by omega),fun _=>hd (by omega)⟩,hR,rfl⟩
  | er e a1=>
   rw [hk,Rr.bind_er] at hR
   refine .inr ⟨e,a1,hR.symm,rfl,a1,zMb,s,false,?_,hl384,rfl⟩
   exact ztL hk ha
 ·refine ⟨_,rfl,(znP H i p n X c hl hi hX hn hp m s a hl384 (hv (by omega)) ha).mono (zid ?_ ?_)⟩
  ·intro y a1 h
   obtain ⟨b1,b2,b3,b4⟩:=znW h ha (hv (by omega))
   simp only [Rk,zko,h,Rr.bind_ok] at hR
   exact ⟨⟨by rw [b2];exact hl384,b1,fun e=>by omega,fun e=>by omega,fun _=>by rw [b4.1];exact hq (by omega),fun _=>zqj b4 (hd (by omega))⟩,hR⟩
  ·intro e a1 h
   simp only [Rk,zko,h,Rr.bind_er] at hR
   exact ⟨a1,hR.symm⟩
 ·refine ⟨_,rfl,(zq5 H i p n X c hl hi hX hn hp m s a hl384 (hq (by omega)) ha).mono (zid ?_ ?_)⟩
  ·intro y a1 h
   obtain ⟨b1,b2,b3⟩:=zn1 h ha
   simp only [Rk,h,Rr.bind_ok] at hR
   refine ⟨⟨by rw [b2];exact hl384,b1,fun e=>by omega,fun e=>by omega,fun e=>by omega,fun _ j=> ?_⟩,hR⟩
   have:=hd (by omega) j
   unfold dcS at this ⊢
   rw [←b3.1,←b3.2.1,←b3.2.2]
   exact this
  ·intro e a1 h
   simp only [Rk,h,Rr.bind_er] at hR
   exact ⟨a1,hR.symm⟩
 ·refine ⟨_,rfl,(zq4 H i p n X c hl hi hX hn hp m s a hl384 ha).mono (zid ?_ ?_)⟩
  ·intro y a1 h
   cases hc:zea p n hl m a with
   | er e a2=>rw [hc] at h;cases h
   | ok m' a2=>
    obtain ⟨b1,b2,b3⟩:=zn0 hc ha
    rw [hc,Rr.bind_ok] at h
    injection h with e1 e2
    subst e1 e2
    simp only [Rk,hc,Rr.bind_ok] at hR
    exact ⟨⟨by rw [b2];exact hl384,b1,fun e=>by omega,fun e=>by omega,fun e=>by omega,fun _=>hd (by omega)⟩,hR⟩
  ·intro e a1 h
   cases hc:zea p n hl m a with
   | ok m' a2=>rw [hc] at h;cases h
   | er e2 a2=>
    rw [hc] at h
    simp only [Rk,hc,Rr.bind_er] at hR
    injection h with e1 e2
    subst e1
    exact ⟨a2,hR.symm⟩
 ·refine ⟨_,rfl,(zqY H i p n X c hl hi hX hn hp m s a hl384 (hd (by omega)) ha).mono (zid ?_ ?_)⟩
  ·intro y a1 h
   obtain ⟨b1,b2,b3⟩:=zgd 6 m s a h ha (by omega) hl384
   simp only [Rk,h,Rr.bind_ok] at hR
   exact ⟨⟨b2,b1,fun e=>by omega,fun e=>by omega,fun e=>by omega,fun e=>by omega⟩,hR⟩
  ·intro e a1 h
   simp only [Rk,h,Rr.bind_er] at hR
   exact ⟨a1,hR.symm⟩
set_option maxHeartbeats 8000000 in
set_option maxRecDepth 100000 in
theorem zpq (i:Nat) (p:List UInt8) (n a:Nat) (c:Cx) (s:St) (H:za) (hA:H[i]? =some (rA p n a)) (ha:a≤n) (hn:n≤8 * p.length) (hp:p.length≤100000000):
  CallEx Tryz.prog 117 [.ptr i 0 0,.agg (cxc c),.agg (stc s)] H (zwq H i p n (zhm c s p n a)):=by
 have hi:=(List.getElem?_eq_some_iff.1 hA).1
 have hself:=za8 hA
 have c1:=zqk c
 have c2:=zoe s
 have vo:=fun K=>zkm c K
 have so:=fun K=>zqS s K
 have tk1:List.take 4 (cxc c)=cxc c:=rfl
 have tk2:List.take 8 (stc s)=stc s:=rfl
 have l1:(cxc c).length=4:=rfl
 have l2:(stc s).length=8:=rfl
 have hx:=fun K=>zZ (K:=K) hA
 have hzl:=zd6
 have hzc:=zi2
 have tz:List.take 408 zmv=zmv:=List.take_of_length_le (by omega)
 have dz:List.drop 408 zmv=[]:=List.drop_of_length_le (by omega)
 have hrv:rA p n a=rA p n a:=rfl
 have rv0:∀ a,(rA p n a).ver=0:=fun _=>rfl
 generalize hres:zhm c s p n a=res
 refine CallEx.body (F0:=[(0,.ptr i 0 0),(1,.agg (cxc c)),(2,.agg (stc s))]) Tryz.func117 rfl Tryz.ntmps117 Tryz.results117 rfl (by kernel_rfl) rfl ?_
 refine PW.f (fun K k=>by simp (disch:=omega) only [go_sem,↓reduceIte,reduceCtorEq,c1,c2,↓znI,Nat.reduceAdd];exact k) ?_
 unfold zhm at hres
 suffices hrest:PW Tryz.prog _ _ [(0,.ptr i 0 0),(4,.ptr H.length 0 0),(5,.ptr (H.length+1) 0 0),(6,.ptr (H.length+2) 0 0),(7,.ptr (H.length+3) 0 0),(25,.bool (!(vcx c&&zi6 s)))] (H++[⟨157,0,cxc c⟩,⟨213,0,stc s⟩,⟨154,0,zmv⟩,⟨213,0,stc zSt⟩]) _ by
  cases hv:vcx c with
  | false=>
   rw [hv] at vo hrest
   (repeat refine PW.seq ?_);refine PW.rg rfl fun K hK=> ?_;simp (disch:=omega) only [go_sem,↓reduceIte,reduceCtorEq,hx,rv0,tk1,l1]
   refine VCx.call (vo _) rfl ?_;simp (disch:=omega) only [go_sem,↓reduceIte,reduceCtorEq];refine hK _ _ ?_;clear hK K
   exact PW.at [0,4,5,6,7,25] hrest rfl rfl
  | true=>
   rw [hv] at vo hrest
   (repeat refine PW.seq ?_);refine PW.rg rfl fun K hK=> ?_;simp (disch:=omega) only [go_sem,↓reduceIte,reduceCtorEq,hx,rv0,tk1,l1]
   refine VCx.call (vo _) rfl ?_;simp (disch:=omega) only [go_sem,↓reduceIte,reduceCtorEq,tk2,l2]
   refine VCx.call (so _) rfl ?_;simp (disch:=omega) only [go_sem,↓reduceIte,reduceCtorEq];refine hK _ _ ?_;clear hK K
   exact PW.at [0,4,5,6,7,25] hrest rfl rfl
 cases hval:(vcx c&&zi6 s) with
 | false=>
  rw [hval,if_neg (by decide)] at hres
  (repeat refine PW.seq ?_);refine PW.cond (t:=_) rfl (fun h=> ?_) (fun h=> ?_)
  rotate_left
  ·cases h
  refine PW.f (fun K k=>by simp (disch:=omega) only [go_sem,↓reduceIte,reduceCtorEq,↓znI,hzl,hzc,tz,dz,stc];exact k) ?_
  refine PW.ret ⟨.tup [.agg zmv,.agg (stc zSt),.int .i64 1],by simp (disch:=omega) only [go_sem,↓reduceIte,reduceCtorEq,zd,zg,List.mapM_cons,List.mapM_nil,Option.pure_def,Option.bind_eq_bind,Option.bind_some,Array.toList,hzl,tz,stc,zSt],?_⟩
  rw [←hres]
  have:=zkn H i p n a [⟨157,0,cxc c⟩,⟨213,0,stc s⟩,⟨154,0,zmv⟩,⟨213,0,stc zSt⟩] (.er 0 a) ha
  rw [hself] at this
  exact this
 | true=>
  rw [hval,if_pos rfl] at hres
  rw [Bool.and_eq_true] at hval
  obtain ⟨hq,hv,hd⟩:=zlt hval.2
  (repeat refine PW.seq ?_);refine PW.cond (t:=_) rfl (fun h=> ?_) (fun h=> ?_)
  ·cases h
  refine PW.skip ?_
  refine PW.f (fun K k=>by simp (disch:=omega) only [go_sem,↓reduceIte,reduceCtorEq,↓znI];exact k) ?_
  refine PW.f (fun K k=>by simp (disch:=omega) only [go_sem,↓reduceIte,reduceCtorEq,tk1,tk2,l1,l2,cxc,stc];exact k) ?_
  obtain ⟨X,hXe⟩:∃ X:za,X=[⟨157,0,cxc c⟩,⟨213,0,stc s⟩,⟨154,0,zmv⟩,⟨213,0,stc zSt⟩]:=⟨_,rfl⟩
  have hX:X.length=4:=by rw [hXe];rfl
  refine PW.at [0,4,5,6,7,9,10] (F1:=[(0,.ptr i 0 0),(4,.ptr H.length 0 0),(5,.ptr (H.length+1) 0 0),(6,.ptr (H.length+2) 0 0),(7,.ptr (H.length+3) 0 0),(9,.ptr (H.length+4) 0 0),(10,.ptr (H.length+5) 0 0)]) (H1:=tG H i p n a X (mB zMb) (tB s i c (H.length+4) false)) ?_ rfl (by unfold tG;rw [hself,hXe];rfl)
  have nf:(pvc Value.nilFunc).cells=[.nl 0]:=rfl
  have hS:Sd n 0 zMb s false a:=⟨zaI,ha,fun _=>⟨rfl,rfl⟩,fun _=>hv,fun _=>hq,fun _=>hd⟩
  refine PW.f (fun K k=>by simp (disch:=omega) only [go_sem,↓reduceIte,reduceCtorEq,nf];exact k) ?_
  (repeat refine PW.seq ?_);refine PW.block (PW.loop ?_)
  suffices hl1:∀ (k:Nat) (m:Mb) (s:St) (hl:Bool) (a:Nat),k≤5→Sd n k m s hl a→Rk c p n k m s hl a=res→PL Tryz.prog _ _ [(6,.ptr (H.length+2) 0 0),(7,.ptr (H.length+3) 0 0),(9,.ptr (H.length+4) 0 0),(10,.ptr (H.length+5) 0 0),(32,.slice prts 5 true),(33,.int .i64 5),(34,.int .i64 (k:Int))] (tG H i p n a X (mB m) (tB s i c (H.length+4) hl)) _ by
   exact PL.at [6,7,9,10,32,33,34] (hl1 0 zMb s false a (by omega) hS hres) rfl rfl
  clear hres hS hv hq hd
  have hpl:prts.length=5:=rfl
  have gE:∀ m s hl a,(tG H i p n a X (mB m) (tB s i c (H.length+4) hl))[H.length+2]? =some ⟨154,0,zmv⟩∧(tG H i p n a X (mB m) (tB s i c (H.length+4) hl))[H.length+3]? =some ⟨213,0,stc zSt⟩:=fun m s hl a=>by
   unfold tG
   rw [hXe]
   exact ⟨by rw [List.getElem?_append_right (by simp),List.length_set,show H.length+2 - H.length=2 by omega];rfl,by rw [List.getElem?_append_right (by simp),List.length_set,show H.length+3 - H.length=3 by omega];rfl⟩
  have ao:=fun s k K=>zve s k K
  intro k m s hl a hk hS hR
  induction hd:5 - k using Nat.strongRecOn generalizing k m s hl a with
  | _ d ih=>
   refine PL.round ?_;refine PW.e ?_
   (repeat refine PW.seq ?_);refine PW.cond (t:=_) rfl (fun h=> ?_) (fun h=> ?_)
   ·have h5:k<5:=by have:=of_decide_eq_true h;omega
    obtain ⟨f,hf,hc⟩:=disp H i p n X c hi hX hn hp k h5 m s hl a res hS hR
    refine PW.skip ?_;(repeat refine PW.seq ?_);refine PW.block ?_
    refine PW.f (fun K k=>by simp (disch:=omega) only [go_sem,↓reduceIte,reduceCtorEq,hf,hpl];exact k) ?_
    (repeat refine PW.seq ?_);refine PW.rg rfl fun K hK=> ?_;simp (disch:=omega) only [go_sem,↓reduceIte,reduceCtorEq]
    refine VCx.callR hc rfl fun v H' hQ=> ?_
    rcases hQ with ⟨m',s',hl',a',rfl,hS',hR',rfl⟩|⟨e,a0,hre,rfl,a',m',s',hl',ha',hml',rfl⟩
    ·simp (disch:=omega) only [go_sem,↓reduceIte,reduceCtorEq];refine hK _ _ ?_;clear hK K
     refine PW.e ?_
     (repeat refine PW.seq ?_);refine PW.cond (t:=_) rfl (fun h=> ?_) (fun h=> ?_)
     ·cases h
     refine PW.skip ?_
     refine PW.e ?_
     exact PL.at [6,7,9,10,32,33,34] (ih (5 - (k+1)) (by omega) (k+1) m' s' hl' a' (by omega) hS' hR' rfl) rfl rfl
    ·have d0:((e:Int)+1 !=0)=true:=by simp;omega
     obtain ⟨ge1,ge2⟩:=gE m' s' hl' a'
     have se1:=za8 ge1
     have se2:=za8 ge2
     have lst:(stc zSt).length=8:=rfl
     simp (disch:=omega) only [go_sem,↓reduceIte,reduceCtorEq,ecd];refine hK _ _ ?_;clear hK K
     refine PW.f (fun K k=>by simp (disch:=omega) only [go_sem,↓reduceIte,reduceCtorEq,d0];exact k) ?_
     (repeat refine PW.seq ?_);refine PW.cond (t:=_) rfl (fun h=> ?_) (fun h=> ?_)
     rotate_left
     ·cases h
     refine PW.f (fun K k=>by simp (disch:=omega) only [go_sem,↓reduceIte,reduceCtorEq,↓znI,ge1,ge2,hzl,hzc,dz,lst,se1];exact k) ?_
     refine PW.at [6,7,8] (F1:=[(6,.ptr (H.length+2) 0 0),(7,.ptr (H.length+3) 0 0),(8,.int .i64 ((e:Int)+1))]) (H1:=tG H i p n a' X (mB m') (tB s' i c (H.length+4) hl')) ?_ rfl se2
     have tst:List.take 8 (stc zSt)=stc zSt:=rfl
     refine PW.ret ⟨.tup [.agg zmv,.agg (stc zSt),.int .i64 ((e:Int)+1)],by simp (disch:=omega) only [go_sem,↓reduceIte,reduceCtorEq,zd,zg,List.mapM_cons,List.mapM_nil,Option.pure_def,Option.bind_eq_bind,Option.bind_some,Array.toList,ge1,ge2,hzl,tz,lst,tst],?_⟩
     rw [hre]
     exact zkn H i p n a' (X++[mB m',tB s' i c (H.length+4) hl']) (.er e a0) ha'
   ·have h5:k=5:=by have:=of_decide_eq_false h;omega
    subst h5
    refine PW.exit ?_
    simp only [Rk] at hR
    have ml:=hS.l
    have hlm:=zV m ml
    have htm:List.take 408 (mbc m)=mbc m:=List.take_of_length_le (by omega)
    have hcm:=zeo m
    have g5:=fun B4 B5=>zhX H i p n a X B4 B5 hX
    have g4:=fun B4 B5=>zjd H i p n a X B4 B5 hX
    obtain ⟨ge1,ge2⟩:=gE m s hl a
    have gX2:=fun Y B4 B5 B hY=>zs6 H i p n a Y B4 B5 B 2 hY (by omega)
    have gX3:=fun Y B4 B5 B hY=>zs6 H i p n a Y B4 B5 B 3 hY (by omega)
    have tcs:List.take 8 (tC s i c (H.length+4) hl)=stc s:=rfl
    have lst:∀ t,(stc t).length=8:=fun _=>rfl
    have cst:∀ t,(stc t).all PV.cell=true:=fun _=>rfl
    have ao1:=fun K=>ao s m.k K
    have e3:(tG H i p n a (X.set 2 (mB m)) (mB m) (tB s i c (H.length+4) hl))[H.length+3]? =some ⟨213,0,stc zSt⟩:=by
     rw [zn7 _ _ _ _ _ _ _ _ _ (by rw [List.length_set];exact hX) (by omega),hXe];rfl
    have hw2:=gX2 X (mB m) (tB s i c (H.length+4) hl) (mB m) hX
    have hw3:=gX3 (X.set 2 (mB m)) (mB m) (tB s i c (H.length+4) hl) ⟨213,0,stc (aft s m.k)⟩ (by rw [List.length_set];exact hX)
    have dst:List.drop 8 (stc zSt)=[]:=rfl
    (repeat refine PW.seq ?_);refine PW.draw mix (by kernel_rfl) fun K hK=> ?_;simp (disch:=omega) only [go_sem,↓reduceIte,reduceCtorEq,g5,g4,zG,zH,zav,zaA,zgO,hlm,htm,tcs,zae]
    refine VCy.call (ao1 _) rfl ?_;simp (disch:=omega) only [go_sem,↓reduceIte,reduceCtorEq,ge1,ge2,hzl,dz,hlm,hcm,zaY,hw2,e3,lst,cst,dst,hw3]
    refine hK _ _ ?_;clear hK K
    have hX2:((X.set 2 (mB m)).set 3 ⟨213,0,stc (aft s m.k)⟩).length=4:=by rw [List.length_set,List.length_set];exact hX
    have f2:(tG H i p n a ((X.set 2 (mB m)).set 3 ⟨213,0,stc (aft s m.k)⟩) (mB m) (tB s i c (H.length+4) hl))[H.length+2]? =some (mB m):=by
     rw [zn7 _ _ _ _ _ _ _ _ _ hX2 (by omega),hXe];rfl
    have f3:(tG H i p n a ((X.set 2 (mB m)).set 3 ⟨213,0,stc (aft s m.k)⟩) (mB m) (tB s i c (H.length+4) hl))[H.length+3]? =some ⟨213,0,stc (aft s m.k)⟩:=by
     rw [zn7 _ _ _ _ _ _ _ _ _ hX2 (by omega),hXe];rfl
    have tst:∀ t,List.take 8 (stc t)=stc t:=fun _=>rfl
    refine PW.ret ⟨.tup [.agg (mbc m),.agg (stc (aft s m.k)),.int .i64 0],by simp (disch:=omega) only [go_sem,↓reduceIte,reduceCtorEq,zd,zg,List.mapM_cons,List.mapM_nil,Option.pure_def,Option.bind_eq_bind,Option.bind_some,Array.toList,f2,f3,zav,zaA,hlm,htm,lst,tst],?_⟩
    rw [←hR]
    exact zkn H i p n a (((X.set 2 (mB m)).set 3 ⟨213,0,stc (aft s m.k)⟩)++[mB m,tB s i c (H.length+4) hl]) (.ok (m,aft s m.k) a) rfl
def tz8 (b:Nat):Nat:=if b%2≠0 then 0 else if b%4≠0 then 1 else if b%8≠0 then 2 else if b%16≠0 then 3 else if b%32≠0 then 4 else if b%64≠0 then 5 else if b%128≠0 then 6 else if b%256≠0 then 7 else 8
theorem zja:∀ b<256,b=0∨(tz8 b<8∧b / 2^tz8 b%2=1∧∀ j<8,tz8 b≤j∨b / 2^j%2=0):=by decide+kernel
def ztl (r:Option Res) (v:Nat):Bool:=match r with
 | some (.val (.int .i64 n) [])=>n==(v:Int)
 | _=>false
theorem ztG:∀ b:Nat,b<256→ztl (zg0 Tryz.prog 100 (.call 181 [.int .u8 (b:Int)] [])) (tz8 b)=true:=by decide+kernel
theorem zvv (b:Nat) (hb:b<256) (H:za):CallOk Tryz.prog 181 [.int .u8 (b:Int)] H (.int .i64 (tz8 b:Int)) H:=by
 refine CallOk.eval 100 ?_ ?_
 ·have h:=ztG b hb
  unfold ztl at h
  split at h
  ·rename_i he;rw [he,eq_of_beq h]
  ·cases h
 ·intro x hx
  simp only [List.mem_cons,List.not_mem_nil,or_false] at hx
  rw [hx];exact .int _ _
def zcf (q:List UInt8):Nat:=(q.getD (q.length - 1) 0).toNat
def nb (q:List UInt8):Nat:=8 * q.length - 1 - tz8 (zcf q)
theorem zpo (q:List UInt8) (f:Bool) (H:za) (hl:q.length≤100000000) (hb:q.length=0∨zcf q=0):
  CallOk Tryz.prog 114 [.slice (bs q) q.length f] H (.tup [.nilp,.int .i64 3]) H:=by
 refine CallOk.body (F0:=[(0,.slice (bs q) q.length f)]) Tryz.func114 rfl Tryz.ntmps114 Tryz.results114 rfl (by kernel_rfl) rfl ?_
 by_cases h0:q.length=0
 ·refine PW.e ?_
  (repeat refine PW.seq ?_);refine PW.rg rfl fun K hK=> ?_;simp (disch:=omega) only [go_sem,↓reduceIte,reduceCtorEq,h0]
  refine hK _ _ ?_;clear hK K
  (repeat refine PW.seq ?_);refine PW.cond (t:=_) rfl (fun h=> ?_) (fun h=> ?_)
  ·refine PW.e ?_
   exact PW.ret ⟨_,rfl,Fin.now⟩
  ·cases h
 ·have e1:(q.length:Int) - 1=((q.length - 1:Nat):Int):=by omega
  have hby:byt q (q.length - 1)=0:=by
   have:byt q (q.length - 1)=(zcf q:Int):=rfl
   omega
  refine PW.e ?_
  (repeat refine PW.seq ?_);refine PW.rg rfl fun K hK=> ?_;simp (disch:=omega) only [go_sem,↓reduceIte,reduceCtorEq,e1,zbK,ze,hby]
  refine hK _ _ ?_;clear hK K
  (repeat refine PW.seq ?_);refine PW.cond (t:=_) rfl (fun h=> ?_) (fun h=> ?_)
  ·refine PW.e ?_
   exact PW.ret ⟨_,rfl,Fin.now⟩
  ·cases h
theorem zrM (q:List UInt8) (f:Bool) (H:za) (hl:q.length≤100000000) (hq:q.length≠0) (hb:zcf q≠0):
  CallOk Tryz.prog 114 [.slice (bs q) q.length f] H (.tup [.ptr (H.length+1) 0 0,.int .i64 0]) (H++[⟨5,1,[]⟩,rA q (nb q) 0]):=by
 have e1:(q.length:Int) - 1=((q.length - 1:Nat):Int):=by omega
 have hby:byt q (q.length - 1)=(zcf q:Int):=rfl
 have hlt:zcf q<256:=UInt8.toNat_lt _
 have htz:tz8 (zcf q)<8:=((zja _ hlt).resolve_left hb).1
 refine CallOk.body (F0:=[(0,.slice (bs q) q.length f)]) Tryz.func114 rfl Tryz.ntmps114 Tryz.results114 rfl (by kernel_rfl) rfl ?_
 refine PW.e ?_
 refine PW.f (fun K k=>by simp (disch:=omega) only [go_sem,↓reduceIte,reduceCtorEq,e1,zbK,ze,hby];exact k) ?_
 (repeat refine PW.seq ?_);refine PW.cond (t:=_) rfl (fun h=> ?_) (fun h=> ?_)
 ·cases h
 refine PW.skip ?_
 refine PW.e ?_
 have hcl:(List.replicate q.length [PV.int .u8 0]).flatten.length=q.length:=by simp
 refine PW.to [0,4] [(0,.slice (bs q) q.length f),(4,.ptr (H.length+1) 0 0)] (H++[⟨5,0,bs q⟩,⟨276,0,[.msl H.length 0 0 q.length 1 true,.int .i64 0,.int .i64 0]⟩]) ?_ ?_
 ·refine PW.f (fun K k=>by simp (disch:=omega) only [go_sem,↓reduceIte,reduceCtorEq,ze,hcl];exact k) ?_
  refine ⟨rfl,?_⟩
  have htk:List.take q.length (bs q)=bs q:=List.take_of_length_le (by rw [ze];exact Nat.le_refl _)
  simp [zN,zbD,ze,htk]
 refine PW.view (Vs.frzCell (id:=H.length) (id':=H.length+1) (j:=0) (hp0 _ _ _) (hp1 _ _ _ _) (by omega) rfl (by simp [ze])) ?_
 simp only [hs0,hs1,List.set_cons_zero]
 refine PW.f (fun K k=>by simp (disch:=omega) only [go_sem,↓reduceIte,reduceCtorEq,ze,e1,zbK,hby];refine VCx.call (zvv _ hlt _) rfl ?_;simp (disch:=omega) only [go_sem,↓reduceIte,reduceCtorEq,ze,e1,zbK,hby];exact k) ?_
 refine PW.e ?_
 have e2:8 * (q.length:Int) - 1 - (tz8 (zcf q):Int)=(nb q:Int):=by unfold nb;omega
 refine PW.ret ⟨_,rfl,?_⟩
 refine .inl ⟨?_,?_⟩
 ·simp [slot,Nat.beq]
 ·rw [e2];rfl
def bl (q:List UInt8):List Bool:=(List.range (8 * q.length)).map fun k=>decide (zbz q k=1)
theorem zhs (q:List UInt8) (r:Nat) (hq:q.length≠0) (hr:r<8):zbz q (8 * q.length - 1 - r)=zcf q / 2^r%2:=by
 unfold zbz zcf
 rw [show (8 * q.length - 1 - r) / 8=q.length - 1 by omega,show 7 - (8 * q.length - 1 - r)%8=r by omega]
theorem zud (q:List UInt8) (hq:q.length≠0) (hb:zcf q≠0):zbz q (nb q)=1∧nb q<8 * q.length∧∀ j,nb q<j→j<8 * q.length→zbz q j=0:=by
 have hlt:zcf q<256:=UInt8.toNat_lt _
 obtain ⟨h1,h2,h3⟩:=(zja _ hlt).resolve_left hb
 refine ⟨?_,by unfold nb;omega,fun j hj hj2=> ?_⟩
 ·rw [nb,zhs q _ hq h1,h2]
 ·unfold nb at hj
  have:=zhs q (8 * q.length - 1 - j) hq (by omega)
  rw [show 8 * q.length - 1 - (8 * q.length - 1 - j)=j by omega] at this
  rw [this]
  exact (h3 _ (by omega)).resolve_left (by omega)
theorem zpt (l:List Mb) (n:Nat):∀ x∈l.flatMap mbc,Scoped n x:=fun x hx=>by
 obtain ⟨m,_,hx⟩:=List.mem_flatMap.1 hx
 simp only [mbc,List.mem_cons] at hx
 rcases hx with rfl|rfl|rfl|rfl|rfl|rfl|rfl|rfl|rfl|rfl|rfl|rfl|rfl|rfl|rfl|rfl|rfl|rfl|rfl|rfl|rfl|rfl|rfl|rfl|hx
 all_goals first|exact .int _ _|exact .bool _|exact zat _ _ _ hx
theorem zwp {c:Cx} {q:List UInt8} {n a:Nat} {s:St} {y:Mb×St} {a1:Nat} (h:mtk c s q n a= .ok y a1) (ha:a≤n) (hs:vrS s):a1≤n∧y.1.lv.length=384:=by
 unfold mtk at h
 cases h1:zdb c q n a with
 | er e a2=>rw [h1] at h;cases h
 | ok x a2=>
  obtain ⟨b1,b2⟩:=znX h1 ha
  rw [h1,Rr.bind_ok] at h
  unfold zko at h
  cases h2:zeN c q n x.1 s a2 with
  | er e a3=>rw [h2] at h;cases h
  | ok y2 a3=>
   obtain ⟨c1,c2,_⟩:=znW h2 b1 hs
   rw [h2,Rr.bind_ok] at h
   cases h3:zfB c q n x.2 y2.1 y2.2 a3 with
   | er e a4=>rw [h3] at h;cases h
   | ok y3 a4=>
    obtain ⟨d1,d2,_⟩:=zn1 h3 c1
    rw [h3,Rr.bind_ok] at h
    cases h4:zea q n x.2 y3.1 a4 with
    | er e a5=>rw [h4] at h;cases h
    | ok y4 a5=>
     obtain ⟨e1,e2,_⟩:=zn0 h4 d1
     rw [h4,Rr.bind_ok] at h
     cases h5:zbN q n 6 y4 y3.2 a5 with
     | er e a6=>rw [h5] at h;cases h
     | ok y5 a6=>
      obtain ⟨f1,f2,_⟩:=zgd 6 y4 y3.2 a5 h5 e1 (by omega) (by rw [e2,d2,c2,b2];exact zaI)
      rw [h5,Rr.bind_ok] at h
      injection h with g1 g2
      subst g1 g2
      exact ⟨f1,f2⟩
theorem zpp {c:Cx} {q:List UInt8} {n a:Nat} {s:St} {y:Mb×St} {a1:Nat} (h:zhm c s q n a= .ok y a1) (ha:a≤n):a1≤n∧y.1.lv.length=384:=by
 unfold zhm at h
 split at h
 ·rename_i hv
  rw [Bool.and_eq_true] at hv
  exact zwp h ha (zlt hv.2).2.1
 ·cases h
def slL (c:Cx) (q:List UInt8) (n:Nat):Nat→St→Nat→Rr (List Mb×St)
 | 0,s,a=>.ok ([],s) a
 | r+1,s,a=>(zhm c s q n a).bind fun y a1=>(slL c q n r y.2 a1).bind fun z a2=>.ok (y.1::z.1,z.2) a2
def wmb (s:Sq):Nat:=(s.w.tdiv 16).toNat
def slT (s:Sq) (p:Pi) (b:Bool) (t:Int) (q:List UInt8):Rr (Nat×List Mb):=
 if zfc s p b&&(decide (1≤t)&&decide (t<1+za4 s p)) then
  (if q.length=0∨zcf q=0 then .er 2 0 else if nb q<5 then .er 3 0 else if vl q 0 5=0 then .er 2 0 else
   (slL (cxP s p b) q (nb q) (wmb s) (st0 (vl q 0 5:Int)) 5).bind fun z a=>if a=nb q then .ok (vl q 0 5,z.1) a else .er 2 a) else .er 0 0
def rvT:Rr (Nat×List Mb)→PV
 | .ok x _=>.tup [.int .i64 (x.1:Int),.slice (x.2.flatMap mbc) x.2.length false,.int .i64 0]
 | .er e _=>.tup [.int .i64 0,.slice [] 0 true,ecd e]
def zrp (r:Nat):List PV:=(List.replicate r zmv).flatten
theorem zi1 (r:Nat):zrp (r+1)=zmv++zrp r:=by simp [zrp,List.replicate_succ]
theorem zlr:∀ r,(zrp r).length=r * 408
 | 0=>by simp [zrp]
 | r+1=>by rw [zi1,List.length_append,zlr r,zd6];omega
theorem zqZ {D:List Mb} {m:Mb} (hD:∀ x∈D,x.lv.length=384) (k r:Nat) (hk:D.length=k):List.take (k * 408) (D.flatMap mbc++zrp (r+1))++(mbc m++List.drop (k * 408+408) (D.flatMap mbc++zrp (r+1)))=(D++[m]).flatMap mbc++zrp r:=by
 have hl:=zaF mbc 408 D (fun x hx=>zV x (hD x hx))
 rw [hk] at hl
 rw [List.take_left' hl,List.drop_append,List.drop_of_length_le (by omega),hl,show k * 408+408 - k * 408=408 by omega,zi1,List.nil_append,List.drop_left' zd6,List.flatMap_append]
 simp
theorem zqr {D:List Mb} (hD:∀ x∈D,x.lv.length=384) (k r:Nat) (hk:D.length=k):(D.flatMap mbc++zrp r).length=(k+r) * 408:=by
 rw [List.length_append,zaF mbc 408 D (fun x hx=>zV x (hD x hx)),hk,zlr,Nat.add_mul]
def sH (H:za) (s:Sq) (p:Pi) (t:Int) (q:List UInt8) (f:Bool) (n a:Nat) (c:Cx) (st:St) (B:List PV):za:=H++[⟨29,0,sqc s⟩,⟨35,0,pic p⟩,⟨61,0,[.int .i64 t,.slice (bs q) q.length f]⟩,⟨5,1,[]⟩,rA q n a,⟨157,0,cxc c⟩,⟨213,0,stc st⟩,⟨154,0,B⟩]
theorem znz (n:Nat) (v e:Int):Scoped n (.tup [.int .i64 v,.slice [] 0 true,.int .i64 e]):=.tup (zay fun x hx=>by
 simp only [List.mem_cons,List.not_mem_nil,or_false] at hx
 rcases hx with rfl|rfl|rfl
 ·exact .int _ _
 ·exact zr (fun x hx=>by cases hx)
 ·exact .int _ _)
set_option maxHeartbeats 8000000 in
set_option maxRecDepth 100000 in
theorem zon (s:Sq) (p:Pi) (b:Bool) (t:Int) (q:List UInt8) (f:Bool) (H:za) (hs:SqOk s) (ht:zgS t) (hq:q.length≤100000000):
  CallOk Tryz.prog 59 [.agg (sqc s),.agg (pic p),.bool b,.agg [.int .i64 t,.slice (bs q) q.length f]] H (rvT (slT s p b t q)) H:=by
 have fo:=fun K=>zmj s p b K hs
 have ro:=fun K=>zjs s p K hs
 have co:=fun K=>zqn s p b K hs
 have so:=fun v K=>zof v K
 have h1:=zbB s
 have h2:=zbO s hs
 have h3:=zdS s hs
 have h4:=zoi s
 have p6:(pic p).length=6:=rfl
 have t6:List.take 6 (pic p)=pic p:=rfl
 have l8:∀ t,(stc t).length=8:=fun _=>rfl
 have c8:∀ t,(stc t).all PV.cell=true:=fun _=>rfl
 have tk8:∀ t,List.take 8 (stc t)=stc t:=fun _=>rfl
 have dk8:∀ t,List.drop 8 (stc t)=[]:=fun _=>rfl
 have c4:∀ c,(cxc c).all PV.cell=true:=fun _=>rfl
 have l4:∀ c,(cxc c).length=4:=fun _=>rfl
 have tk4:∀ c,List.take 4 (cxc c)=cxc c:=fun _=>rfl
 have dk4:∀ c,List.drop 4 (cxc c)=[]:=fun _=>rfl
 generalize hres:slT s p b t q=res
 unfold slT at hres
 refine CallOk.body (F0:=[(0,.agg (sqc s)),(1,.agg (pic p)),(2,.bool b),(3,.agg [.int .i64 t,.slice (bs q) q.length f])]) Tryz.func59 rfl Tryz.ntmps59 Tryz.results59 rfl (by kernel_rfl) rfl ?_
 refine PW.f (fun K k=>by simp (disch:=omega) only [go_sem,↓reduceIte,reduceCtorEq,h1,pic];exact k) ?_
 suffices hrest:PW Tryz.prog _ _ [(0,.agg (sqc s)),(1,.agg (pic p)),(2,.bool b),(4,.ptr H.length 0 0),(5,.ptr (H.length+1) 0 0),(7,.ptr (H.length+2) 0 0),(36,.bool (!(zfc s p b&&(decide (1≤t)&&decide (t<1+za4 s p)))))] (H++[⟨29,0,sqc s⟩,⟨35,0,pic p⟩,⟨61,0,[.int .i64 t,.slice (bs q) q.length f]⟩]) _ by
  cases hf:zfc s p b with
  | false=>
   rw [hf] at fo hrest
   (repeat refine PW.seq ?_);refine PW.draw mix (by kernel_rfl) fun K hK=> ?_;simp (disch:=omega) only [go_sem,↓reduceIte,reduceCtorEq,h2,h3]
   refine VCy.call (fo _) rfl ?_;simp (disch:=omega) only [go_sem,↓reduceIte,reduceCtorEq];refine hK _ _ ?_;clear hK K
   exact PW.at [0,1,2,4,5,7,36] hrest rfl rfl
  | true=>
   rw [hf] at fo hrest
   rw [Bool.true_and] at hrest
   by_cases ht1:1≤t
   ·have d1:decide (t<1)=false:=decide_eq_false (by omega)
    have hpr:0≤za4 s p∧za4 s p≤4:=by
     unfold za4
     split
     ·rename_i hv
      have:=za9 hv
      split
      ·have:=Int.tdiv_eq_ediv_of_nonneg (a:=s.h) (b:=16) (by omega)
       omega
      ·have:=Int.tdiv_eq_ediv_of_nonneg (a:=s.h) (b:=32) (by omega)
       omega
     ·omega
    have d2:decide (1+za4 s p≤t)= !decide (t<1+za4 s p):=by
     by_cases h:t<1+za4 s p
     ·rw [decide_eq_true h,decide_eq_false (by omega)];rfl
     ·rw [decide_eq_false h,decide_eq_true (by omega)];rfl
    rw [decide_eq_true ht1,Bool.true_and,←d2] at hrest
    (repeat refine PW.seq ?_);refine PW.draw mix (by kernel_rfl) fun K hK=> ?_;simp (disch:=omega) only [go_sem,↓reduceIte,reduceCtorEq,h2,h3]
    refine VCy.call (fo _) rfl ?_;simp (disch:=omega) only [go_sem,↓reduceIte,reduceCtorEq,d1,h2,h3]
    refine VCy.call (ro _) rfl ?_;simp (disch:=omega) only [go_sem,↓reduceIte,reduceCtorEq];refine hK _ _ ?_;clear hK K
    exact PW.at [0,1,2,4,5,7,36] hrest rfl rfl
   ·have d1:decide (t<1)=true:=decide_eq_true (by omega)
    rw [decide_eq_false ht1,Bool.false_and] at hrest
    (repeat refine PW.seq ?_);refine PW.draw mix (by kernel_rfl) fun K hK=> ?_;simp (disch:=omega) only [go_sem,↓reduceIte,reduceCtorEq,h2,h3]
    refine VCy.call (fo _) rfl ?_;simp (disch:=omega) only [go_sem,↓reduceIte,reduceCtorEq,d1];refine hK _ _ ?_;clear hK K
    exact PW.at [0,1,2,4,5,7,36] hrest rfl rfl
 cases hc:(zfc s p b&&(decide (1≤t)&&decide (t<1+za4 s p))) with
 | false=>
  rw [hc,if_neg (by decide)] at hres
  (repeat refine PW.seq ?_);refine PW.cond (t:=_) rfl (fun h=> ?_) (fun h=> ?_)
  rotate_left
  ·cases h
  refine PW.e ?_
  refine PW.ret ⟨.tup [.int .i64 0,.slice [] 0 true,.int .i64 1],by simp (disch:=omega) only [go_sem,↓reduceIte,reduceCtorEq,zd,zg,List.mapM_cons,List.mapM_nil,Option.pure_def,Option.bind_eq_bind,Option.bind_some,Array.toList],?_⟩
  rw [←hres]
  exact Fin.base (.id (znz _ _ _))
 | true=>
  rw [hc,if_pos rfl] at hres
  rw [Bool.and_eq_true] at hc
  have hw:1≤wmb s∧wmb s≤4∧s.w.tdiv 16=((wmb s:Nat):Int):=by
   have hv:zM s p=true:=by
    have:=hc.1
    unfold zfc at this
    rw [Bool.and_eq_true] at this
    exact this.1
   have:=za9 hv
   have e:=Int.tdiv_eq_ediv_of_nonneg (a:=s.w) (b:=16) (by omega)
   unfold wmb
   omega
  clear fo ro hc
  (repeat refine PW.seq ?_);refine PW.cond (t:=_) rfl (fun h=> ?_) (fun h=> ?_)
  ·cases h
  refine PW.skip ?_
  by_cases hb:q.length=0∨zcf q=0
  ·rw [if_pos hb] at hres
   have nr:=fun K=>zpo q f K hq hb
   refine PW.f (fun K k=>by simp (disch:=omega) only [go_sem,↓reduceIte,reduceCtorEq];refine VCx.call (nr _) rfl ?_;simp (disch:=omega) only [go_sem,↓reduceIte,reduceCtorEq];exact k) ?_
   refine PW.e ?_
   (repeat refine PW.seq ?_);refine PW.cond (t:=_) rfl (fun h=> ?_) (fun h=> ?_)
   rotate_left
   ·cases h
   refine PW.e ?_
   refine PW.ret ⟨.tup [.int .i64 0,.slice [] 0 true,.int .i64 3],by simp (disch:=omega) only [go_sem,↓reduceIte,reduceCtorEq,zd,zg,List.mapM_cons,List.mapM_nil,Option.pure_def,Option.bind_eq_bind,Option.bind_some,Array.toList],?_⟩
   rw [←hres]
   exact Fin.base (.id (znz _ _ _))
  rw [if_neg hb] at hres
  obtain ⟨hb1,hb2⟩:=not_or.1 hb
  have nr:=fun K=>zrM q f K hq hb1 hb2
  obtain ⟨_,n2,_⟩:=zud q hb1 hb2
  generalize nb q=n at *
  refine PW.f (fun K k=>by simp (disch:=omega) only [go_sem,↓reduceIte,reduceCtorEq];refine VCx.call (nr _) rfl ?_;simp (disch:=omega) only [go_sem,↓reduceIte,reduceCtorEq];exact k) ?_
  refine PW.e ?_
  (repeat refine PW.seq ?_);refine PW.cond (t:=_) rfl (fun h=> ?_) (fun h=> ?_)
  ·cases h
  refine PW.skip ?_
  have gr:=fun a X=>(apn H ([⟨29,0,sqc s⟩,⟨35,0,pic p⟩,⟨61,0,[.int .i64 t,.slice (bs q) q.length f]⟩,⟨5,1,[]⟩,rA q n a]++X) 4)
  by_cases h5:n<5
  ·rw [if_pos h5] at hres
   have tk:=zbC (H.length+4) q n 0 5 _ (gr 0 []) (by omega) (by omega) (by omega) (by omega)
   refine PW.f (fun K k=>by simp (disch:=omega) only [go_sem,↓reduceIte,reduceCtorEq];refine VCx.call (tk) rfl ?_;simp (disch:=omega) only [go_sem,↓reduceIte,reduceCtorEq];exact k) ?_
   refine PW.e ?_
   (repeat refine PW.seq ?_);refine PW.cond (t:=_) rfl (fun h=> ?_) (fun h=> ?_)
   rotate_left
   ·cases h
   refine PW.e ?_
   refine PW.ret ⟨.tup [.int .i64 0,.slice [] 0 true,.int .i64 4],by simp (disch:=omega) only [go_sem,↓reduceIte,reduceCtorEq,zd,zg,List.mapM_cons,List.mapM_nil,Option.pure_def,Option.bind_eq_bind,Option.bind_some,Array.toList],?_⟩
   rw [←hres]
   exact Fin.base (.id (znz _ _ _))
  rw [if_neg h5] at hres
  have tk:=zdc (H.length+4) q n 0 5 _ (gr 0 []) (by omega) (by omega) (by omega) (by omega)
  rw [aps] at tk
  simp only [List.append_nil,List.cons_append,List.nil_append,List.set_cons_succ,List.set_cons_zero,Nat.zero_add] at tk
  have hvl:=zi8 q 0 5
  generalize vl q 0 5=v at *
  refine PW.f (fun K k=>by simp (disch:=omega) only [go_sem,↓reduceIte,reduceCtorEq];refine VCx.call (tk) rfl ?_;simp (disch:=omega) only [go_sem,↓reduceIte,reduceCtorEq];exact k) ?_
  refine PW.e ?_
  (repeat refine PW.seq ?_);refine PW.cond (t:=_) rfl (fun h=> ?_) (fun h=> ?_)
  ·cases h
  refine PW.skip ?_
  by_cases hv0:v=0
  ·rw [if_pos hv0] at hres
   have d1:((v:Int)==0)=true:=by simp [hv0]
   refine PW.f (fun K k=>by simp (disch:=omega) only [go_sem,↓reduceIte,reduceCtorEq,d1];exact k) ?_
   (repeat refine PW.seq ?_);refine PW.cond (t:=_) rfl (fun h=> ?_) (fun h=> ?_)
   rotate_left
   ·cases h
   refine PW.e ?_
   refine PW.ret ⟨.tup [.int .i64 0,.slice [] 0 true,.int .i64 3],by simp (disch:=omega) only [go_sem,↓reduceIte,reduceCtorEq,zd,zg,List.mapM_cons,List.mapM_nil,Option.pure_def,Option.bind_eq_bind,Option.bind_some,Array.toList],?_⟩
   rw [←hres]
   exact Fin.base (.id (znz _ _ _))
  rw [if_neg hv0] at hres
  have d1:((v:Int)==0)=false:=by rw [beq_eq_false_iff_ne];omega
  refine PW.f (fun K k=>by simp (disch:=omega) only [go_sem,↓reduceIte,reduceCtorEq,d1];exact k) ?_
  (repeat refine PW.seq ?_);refine PW.cond (t:=_) rfl (fun h=> ?_) (fun h=> ?_)
  ·cases h
  refine PW.skip ?_
  have co1:=fun K=>co K
  have so1:=fun K=>so (v:Int) K
  generalize cxP s p b=c at *
  (repeat refine PW.seq ?_);refine PW.rg rfl fun K hK=> ?_;simp (disch:=omega) only [go_sem,↓reduceIte,reduceCtorEq,h2,h3,p6,t6]
  refine VCx.call (co1 _) rfl ?_;simp (disch:=omega) only [go_sem,↓reduceIte,reduceCtorEq]
  refine VCx.call (so1 _) rfl ?_;simp (disch:=omega) only [go_sem,↓reduceIte,reduceCtorEq,l8,c8,dk8,l4,c4,dk4,Nat.reduceAdd];refine hK _ _ ?_;clear hK K
  obtain ⟨w1,w2,w3⟩:=hw
  generalize wmb s=w at *
  refine PW.f (fun K k=>by simp (disch:=omega) only [go_sem,↓reduceIte,reduceCtorEq,h4,h2,w3,↓znI,zd6];exact k) ?_
  refine PW.at [11,13,14,15,16] (F1:=[(11,.ptr (H.length+4) 0 0),(13,.int .u32 (v:Int)),(14,.ptr (H.length+5) 0 0),(15,.ptr (H.length+6) 0 0),(16,.msl (H.length+7) 0 0 w 408 true)]) (H1:=sH H s p t q f n 5 c (st0 v) (zrp w)) ?_ (by simp [kp,slot,Nat.beq]) rfl
  have gq:=apn H [⟨29,0,sqc s⟩,⟨35,0,pic p⟩,⟨61,0,[.int .i64 t,.slice (bs q) q.length f]⟩,⟨5,1,[]⟩,rA q n 5,⟨157,0,cxc c⟩,⟨213,0,stc (st0 v)⟩,⟨154,0,zrp w⟩] 7
  refine PW.f (fun K k=>by simp (disch:=omega) only [go_sem,↓reduceIte,reduceCtorEq,sH,apn];exact k) ?_
  (repeat refine PW.seq ?_);refine PW.block (PW.loop ?_)
  suffices hl1:∀ (k:Nat) (D:List Mb) (st:St) (a:Nat),k≤w→D.length=k→(∀ x∈D,x.lv.length=384)→a≤n→((slL c q n (w - k) st a).bind fun z a=>if a=n then Rr.ok (v,D++z.1) a else .er 2 a)=res→
    PL Tryz.prog _ _ [(11,.ptr (H.length+4) 0 0),(13,.int .u32 (v:Int)),(14,.ptr (H.length+5) 0 0),(15,.ptr (H.length+6) 0 0),(16,.msl (H.length+7) 0 0 w 408 true),(68,.int .i64 (w:Int)),(69,.int .i64 (k:Int))] (sH H s p t q f n a c st (D.flatMap mbc++zrp (w - k))) _ by
   exact PL.at [11,13,14,15,16,68,69] (hl1 0 [] (st0 v) 5 (by omega) rfl (fun x hx=>by cases hx) (by omega) hres) (by simp [kp,slot,Nat.beq]) rfl
  clear hres gr tk nr co1 so1 co so
  intro k D st a hk hD hDl ha hres
  induction hd:w - k using Nat.strongRecOn generalizing k D st a with
  | _ d ih=>
   refine PL.round ?_;refine PW.e ?_
   (repeat refine PW.seq ?_);refine PW.cond (t:=_) rfl (fun h=> ?_) (fun h=> ?_)
   ·have h5k:k<w:=by have:=of_decide_eq_true h;omega
    obtain ⟨r,hr⟩:∃ r,d=r+1:=⟨d - 1,by omega⟩
    subst hr
    have hr2:w - (k+1)=r:=by omega
    have hcl:=zqr hDl k (r+1) hD
    have tkc:=fun m=>zqZ (m:=m) hDl k r hD
    rw [hd,slL,Rr.bind_bind] at hres
    have mt:=zpq (H.length+4) q n a c st (sH H s p t q f n a c st (D.flatMap mbc++zrp (r+1))) (apn _ _ 4) ha (by omega) hq
    refine PW.skip ?_;(repeat refine PW.seq ?_);refine PW.block ?_
    refine PW.e ?_
    (repeat refine PW.seq ?_);refine PW.rg rfl fun K hK=> ?_;simp (disch:=omega) only [go_sem,↓reduceIte,reduceCtorEq,sH,apn,tk4,l4,tk8,l8]
    unfold sH at mt
    refine VCx.callR mt rfl fun v' H' hR=> ?_
    obtain ⟨rfl,hH⟩:=hR
    cases hm:zhm c st q n a with
    | er e a1=>
     rw [hm] at hH hres
     obtain ⟨a2,_,rfl⟩:=hH
     rw [Rr.bind_er] at hres
     have d0:((e:Int)+1 !=0)=true:=by simp;omega
     have hzl:=zd6
     have hzc:=zi2
     simp (disch:=omega) only [go_sem,↓reduceIte,reduceCtorEq,rvM,ecd,apn,aps,hcl,hzl,hzc,l8,c8,dk8]
     refine hK _ _ ?_;clear hK K
     refine PW.f (fun K k=>by simp (disch:=omega) only [go_sem,↓reduceIte,reduceCtorEq,d0];exact k) ?_
     (repeat refine PW.seq ?_);refine PW.cond (t:=_) rfl (fun h=> ?_) (fun h=> ?_)
     rotate_left
     ·cases h
     refine PW.e ?_
     refine PW.ret ⟨.tup [.int .i64 0,.slice [] 0 true,.int .i64 ((e:Int)+1)],by simp (disch:=omega) only [go_sem,↓reduceIte,reduceCtorEq,zd,zg,List.mapM_cons,List.mapM_nil,Option.pure_def,Option.bind_eq_bind,Option.bind_some,Array.toList],?_⟩
     rw [←hres]
     exact Fin.base (.id (znz _ _ _))
    | ok y a1=>
     rw [hm] at hH hres
     subst hH
     obtain ⟨b1,b2⟩:=zpp hm ha
     rw [Rr.bind_ok,Rr.bind_bind] at hres
     have m408:=zV y.1 b2
     have mcl:=zeo y.1
     have htk1:=tkc y.1
     simp (disch:=omega) only [go_sem,↓reduceIte,reduceCtorEq,rvM,apn,aps,hcl,m408,mcl,htk1,l8,c8,dk8]
     refine hK _ _ ?_;clear hK K
     refine PW.e ?_
     (repeat refine PW.seq ?_);refine PW.cond (t:=_) rfl (fun h=> ?_) (fun h=> ?_)
     ·cases h
     refine PW.skip ?_
     refine PW.e ?_
     refine PL.at [11,13,14,15,16,68,69] (ih r (by omega) (k+1) (D++[y.1]) y.2 a1 (by omega) (by simp [hD]) (fun x hx=> ?_) b1 ?_ hr2) rfl ?_
     ·rcases List.mem_append.1 hx with hx|hx
      ·exact hDl x hx
      ·rw [List.mem_singleton] at hx
       rw [hx];exact b2
     ·rw [hr2,←hres]
      congr 1
      funext z a'
      simp only [Rr.bind,List.append_assoc,List.cons_append,List.nil_append]
     ·rfl
   ·have h6:k=w:=by have:=of_decide_eq_false h;omega
    subst h6
    refine PW.exit ?_
    rw [Nat.sub_self] at hd
    subst hd
    rw [Nat.sub_self,slL,Rr.bind_ok] at hres
    have hcl:=zqr hDl k 0 hD
    have lf:=zoK (H.length+4) q n a (sH H s p t q f n a c st (D.flatMap mbc++zrp 0)) (apn _ _ 4) ha (by omega)
    unfold sH at lf
    by_cases han:a=n
    ·rw [if_pos han] at hres
     rw [han,Nat.sub_self] at lf
     subst han
     (repeat refine PW.seq ?_);refine PW.rg rfl fun K hK=> ?_;simp (disch:=omega) only [go_sem,↓reduceIte,reduceCtorEq,sH]
     refine VCx.call (lf) rfl ?_;simp (disch:=omega) only [go_sem,↓reduceIte,reduceCtorEq];refine hK _ _ ?_;clear hK K
     (repeat refine PW.seq ?_);refine PW.cond (t:=_) rfl (fun h=> ?_) (fun h=> ?_)
     ·cases h
     refine PW.skip ?_
     refine PW.e ?_
     refine PW.ret ⟨.tup [.int .i64 (v:Int),.msl (H.length+7) 0 0 k 408 true,.int .i64 0],by simp (disch:=omega) only [go_sem,↓reduceIte,reduceCtorEq,zd,zg,List.mapM_cons,List.mapM_nil,Option.pure_def,Option.bind_eq_bind,Option.bind_some,Array.toList],?_⟩
     rw [←hres]
     have hz0:zrp 0=[]:=by simp [zrp]
     refine Fin.base (Fz.tupC ⟨.id (.int _ _),?_,.id (.int _ _),trivial⟩)
     rw [List.append_nil,hD,hz0,List.append_nil]
     exact Fz.mslC (e:=154) (xs:=D.flatMap mbc) (by omega) (apn _ _ 7) (by rw [zaF mbc 408 D (fun x hx=>zV x (hDl x hx)),hD]) (FzC.refl (zpt D _))
    ·rw [if_neg han] at hres
     have d0:(((n - a:Nat):Int) !=0)=true:=by simp;omega
     (repeat refine PW.seq ?_);refine PW.rg rfl fun K hK=> ?_;simp (disch:=omega) only [go_sem,↓reduceIte,reduceCtorEq,sH]
     refine VCx.call (lf) rfl ?_;simp (disch:=omega) only [go_sem,↓reduceIte,reduceCtorEq,d0];refine hK _ _ ?_;clear hK K
     (repeat refine PW.seq ?_);refine PW.cond (t:=_) rfl (fun h=> ?_) (fun h=> ?_)
     rotate_left
     ·cases h
     refine PW.e ?_
     refine PW.ret ⟨.tup [.int .i64 0,.slice [] 0 true,.int .i64 3],by simp (disch:=omega) only [go_sem,↓reduceIte,reduceCtorEq,zd,zg,List.mapM_cons,List.mapM_nil,Option.pure_def,Option.bind_eq_bind,Option.bind_some,Array.toList],?_⟩
     rw [←hres]
     exact Fin.base (.id (znz _ _ _))
theorem Rr.bind_okE {α β:Type} {x:Rr α} {f:α→Nat→Rr β} {v:β} {a:Nat} (h:x.bind f= .ok v a):∃ y a1,x= .ok y a1∧f y a1= .ok v a:=by
 cases x with
 | ok y a1=>exact ⟨y,a1,rfl,h⟩
 | er e a1=>cases h
theorem ztY (s:St) (d:Nat) (x y:Int):(zbP s d x y).q=s.q:=by unfold zbP;split<;>rfl
theorem ztZ (s:St) (d:Nat) (x:Int):(zfE s d x).q=s.q:=by unfold zfE;split<;>(try split)<;>rfl
theorem zox (m:Mb) (d k:Nat) (x y:Int):(zdJ m d k x y).dl=m.dl:=by
 unfold zdJ
 repeat' split
 all_goals rfl
theorem zoB (m:Mb) (d k:Nat) (x:Int):(zef m d k x).dl=m.dl:=by
 unfold zef
 repeat' split
 all_goals rfl
theorem zoD (m:Mb) (d:Nat) (b:Bool):(zc1 m d b).dl=m.dl:=by
 unfold zc1
 repeat' split
 all_goals rfl
theorem zq0 {c:Cx} {q:List UInt8} {n:Nat} {m:Mb} {s:St} {d k a:Nat} {y:Mb×St} {a1:Nat} (h:zdQ c q n m s d k a= .ok y a1):y.1.dl=m.dl∧y.2.q=s.q:=by
 unfold zdQ at h
 obtain ⟨m',a2,h1,h⟩:=Rr.bind_okE h
 obtain ⟨x,a3,_,h⟩:=Rr.bind_okE h
 obtain ⟨z,a4,_,h⟩:=Rr.bind_okE h
 injection h with h _
 rw [←h]
 refine ⟨(zox _ _ _ _ _).trans ?_,ztY _ _ _ _⟩
 split at h1
 ·obtain ⟨b,a5,_,h1⟩:=Rr.bind_okE h1
  injection h1 with h1 _
  rw [←h1]
  exact zoB _ _ _ _
 ·injection h1 with h1 _
  rw [h1]
theorem zlw {c:Cx} {q:List UInt8} {n d:Nat}:∀ (r k:Nat) (m:Mb) (s:St) (a:Nat) {y:Mb×St} {a1:Nat},zbM c q n d r k m s a= .ok y a1→y.1.dl=m.dl∧y.2.q=s.q
 | 0,_,m,s,a,y,a1,h=>by injection h with h _;rw [←h];exact ⟨rfl,rfl⟩
 | r+1,k,m,s,a,y,a1,h=>by
  unfold zbM at h
  obtain ⟨x,a2,h1,h⟩:=Rr.bind_okE h
  obtain ⟨e1,e2⟩:=zq0 h1
  obtain ⟨e3,e4⟩:=zlw r (k+1) x.1 x.2 a2 h
  exact ⟨e3.trans e1,e4.trans e2⟩
theorem zq2 {c:Cx} {q:List UInt8} {n:Nat} {m:Mb} {s:St} {d a:Nat} {y:Mb×St} {a1:Nat} (h:zeO c q n m s d a= .ok y a1):y.1.dl=m.dl∧y.2.q=s.q:=by
 unfold zeO at h
 split at h
 ·exact zlw _ _ _ _ _ h
 ·injection h with h _;rw [←h];exact ⟨rfl,rfl⟩
theorem zlA {c:Cx} {q:List UInt8} {n:Nat}:∀ (r d:Nat) (m:Mb) (s:St) (a:Nat) {y:Mb×St} {a1:Nat},zc8 c q n r d m s a= .ok y a1→y.1.dl=m.dl∧y.2.q=s.q
 | 0,_,m,s,a,y,a1,h=>by injection h with h _;rw [←h];exact ⟨rfl,rfl⟩
 | r+1,d,m,s,a,y,a1,h=>by
  unfold zc8 at h
  obtain ⟨x,a2,h1,h⟩:=Rr.bind_okE h
  obtain ⟨e1,e2⟩:=zq2 h1
  obtain ⟨e3,e4⟩:=zlA r (d+1) x.1 x.2 a2 h
  exact ⟨e3.trans e1,e4.trans e2⟩
theorem zly {c:Cx} {q:List UInt8} {n:Nat} {m:Mb} {s:St} {a:Nat} {y:Mb×St} {a1:Nat} (h:zeN c q n m s a= .ok y a1):y.1.dl=m.dl∧y.2.q=s.q:=by
 unfold zeN at h
 split at h
 ·obtain ⟨m',a2,h1,h⟩:=Rr.bind_okE h
  obtain ⟨e1,e2⟩:=zlA _ _ _ _ _ h
  refine ⟨e1.trans ?_,e2⟩
  split at h1
  ·obtain ⟨b,a5,_,h1⟩:=Rr.bind_okE h1
   injection h1 with h1 _
   rw [←h1]
  ·injection h1 with h1 _
   rw [h1]
 ·injection h with h _;rw [←h];exact ⟨rfl,rfl⟩
theorem zq3 {c:Cx} {q:List UInt8} {n:Nat} {hl:Bool} {m:Mb} {s:St} {a:Nat} {y:Mb×St} {a1:Nat} (h:zfB c q n hl m s a= .ok y a1) (hm:m.dl=0) (hs:1≤s.q∧s.q≤31):y.2.q=s.q+y.1.dl∧1≤y.2.q∧y.2.q≤31:=by
 unfold zfB at h
 split at h
 ·obtain ⟨m',a2,h1,h⟩:=Rr.bind_okE h
  obtain ⟨d,a3,_,h⟩:=Rr.bind_okE h
  split at h
  ·rename_i hv
   injection h with e _
   rw [←e]
   simp [vqB] at hv
   exact ⟨rfl,hv⟩
  ·cases h
 ·injection h with e _
  rw [←e]
  refine ⟨?_,hs⟩
  show s.q=s.q+m.dl
  omega
theorem zlB {q:List UInt8} {n:Nat}:∀ (r:Nat) (m:Mb) (a:Nat) {y:Mb} {a1:Nat},zeb q n r m a= .ok y a1→y.dl=m.dl
 | 0,m,a,y,a1,h=>by
  unfold zeb at h
  split at h
  ·injection h with h _;rw [h]
  ·cases h
 | r+1,m,a,y,a1,h=>by
  unfold zeb at h
  obtain ⟨b,a2,_,h⟩:=Rr.bind_okE h
  exact (zlB r _ a2 h).trans (zoD _ _ _)
theorem zfL {q:List UInt8} {n:Nat}:∀ (r:Nat) (m:Mb) (s:St) (a:Nat) {y:Mb×St} {a1:Nat},zbN q n r m s a= .ok y a1→y.1.dl=m.dl∧y.2.q=s.q
 | 0,m,s,a,y,a1,h=>by injection h with h _;rw [←h];exact ⟨rfl,rfl⟩
 | r+1,m,s,a,y,a1,h=>by
  unfold zbN at h
  split at h
  ·split at h
   ·obtain ⟨l,a2,_,h⟩:=Rr.bind_okE h
    split at h
    ·cases h
    ·obtain ⟨e1,e2⟩:=zfL r _ s a2 h
     exact ⟨e1,e2⟩
   ·obtain ⟨d,a2,_,h⟩:=Rr.bind_okE h
    obtain ⟨l,a3,_,h⟩:=Rr.bind_okE h
    obtain ⟨e1,e2⟩:=zfL r _ _ a3 h
    exact ⟨e1,e2.trans (ztZ _ _ _)⟩
  ·exact zfL r m s a h
theorem zq1 {c:Cx} {q:List UInt8} {n a:Nat} {y:Mb×Bool} {a1:Nat} (h:zdb c q n a= .ok y a1):y.1.dl=0:=by
 unfold zdb at h
 split at h
 ·injection h with h _;rw [←h];rfl
 ·obtain ⟨v,a2,_,h⟩:=Rr.bind_okE h
  repeat' split at h
  all_goals first|(cases h;done)|(cases h;rfl)
theorem zug {c:Cx} {q:List UInt8} {n a:Nat} {s:St} {y:Mb×St} {a1:Nat} (h:zhm c s q n a= .ok y a1):y.2.q=s.q+y.1.dl∧1≤y.2.q∧y.2.q≤31:=by
 unfold zhm at h
 split at h
 ·rename_i hv
  rw [Bool.and_eq_true] at hv
  have hsq:=(zlt hv.2).1
  unfold mtk at h
  obtain ⟨x,a2,h1,h⟩:=Rr.bind_okE h
  have e0:=zq1 h1
  unfold zko at h
  obtain ⟨y2,a3,h2,h⟩:=Rr.bind_okE h
  obtain ⟨y3,a4,h3,h⟩:=Rr.bind_okE h
  obtain ⟨m4,a5,h4,h⟩:=Rr.bind_okE h
  obtain ⟨y5,a6,h5,h⟩:=Rr.bind_okE h
  obtain ⟨p1,p2⟩:=zly h2
  obtain ⟨c1,c2⟩:=zq3 h3 (p1.trans e0) (by rw [p2];exact hsq)
  obtain ⟨l1,l2⟩:=zfL _ _ _ _ h5
  have c3:m4.dl=y3.1.dl:=by
   unfold zea at h4
   split at h4
   ·exact zlB _ _ _ h4
   ·injection h4 with h4 _;rw [h4]
  injection h with h _
  rw [←h]
  have e1:(aft y5.2 y5.1.k).q=y3.2.q:=l2
  dsimp only
  rw [e1,l1,c3,c1,p2]
  rw [p2] at c1
  omega
 ·cases h
def zks:Int→List Mb→List Int
 | _,[]=>[]
 | q,m::r=>(q+m.dl)::zks (q+m.dl) r
theorem zgn {c:Cx} {q:List UInt8} {n:Nat}:∀ (r:Nat) (s:St) (a:Nat) {z:List Mb×St} {a1:Nat},slL c q n r s a= .ok z a1→z.1.length=r∧(∀ x∈zks s.q z.1,1≤x∧x≤31)
 | 0,s,a,z,a1,h=>by
  injection h with h _
  rw [←h]
  exact ⟨rfl,fun x hx=>by cases hx⟩
 | r+1,s,a,z,a1,h=>by
  unfold slL at h
  obtain ⟨y,a2,h1,h⟩:=Rr.bind_okE h
  obtain ⟨w,a3,h2,h⟩:=Rr.bind_okE h
  injection h with h _
  rw [←h]
  obtain ⟨e1,e2⟩:=zug h1
  obtain ⟨l1,l2⟩:=zgn r y.2 a2 h2
  refine ⟨by simp [l1],fun x hx=> ?_⟩
  simp only [zks] at hx
  rw [←e1] at hx
  rcases List.mem_cons.1 hx with rfl|hx
  ·exact e2
  ·exact l2 x hx
theorem zop {c:Cx} {q:List UInt8} {n:Nat}:∀ (r:Nat) (s:St) (a:Nat) {z:List Mb×St} {a1:Nat},slL c q n r s a= .ok z a1→a≤n→∀ x∈z.1,x.lv.length=384
 | 0,s,a,z,a1,h,_=>by
  injection h with h _
  rw [←h]
  exact fun x hx=>by cases hx
 | r+1,s,a,z,a1,h,ha=>by
  unfold slL at h
  obtain ⟨y,a2,h1,h⟩:=Rr.bind_okE h
  obtain ⟨w,a3,h2,h⟩:=Rr.bind_okE h
  injection h with h _
  rw [←h]
  obtain ⟨e1,e2⟩:=zpp h1 ha
  intro x hx
  rcases List.mem_cons.1 hx with rfl|hx
  ·exact e2
  ·exact zop r y.2 a2 h2 e1 x hx
end Go.Proofs.YtjgmdlcjbgiekaaGreatDoor.Sc
