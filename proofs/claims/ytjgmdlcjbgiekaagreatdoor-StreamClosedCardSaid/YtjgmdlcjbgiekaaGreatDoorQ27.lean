/-
  Parts of the proof, put together in one text. No condition.
-/
import Derived.Test.YtjgmdlcjbgiekaaGreatDoorQ26
namespace Go.Proofs.YtjgmdlcjbgiekaaGreatDoor.Sc
set_option linter.all false
open Pm Ty Go.RowKit
def zhj (c:Cx) (s:St) (q:List UInt8) (n a:Nat):Rr (Mb×St):=if vcx c&&zi9 s then mtk c s q n a else .er 0 a
def rvM:Rr (Mb×St)→PV
 | .ok y _=>.tup [.agg (mbc y.1),.agg (stc y.2),.int .i64 0]
 | .er e _=>.tup [.agg zmv,.agg (stc zSt),ecd e]
def zwn (H:za) (i:Nat) (p:List UInt8) (n:Nat) (x:Rr (Mb×St)):PV→za→Prop:=fun v H'=>v=rvM x∧
 match x with
 | .ok _ a=>H'=H.set i (rA p n a)
 | .er _ _=>∃ a,a≤n∧H'=H.set i (rA p n a)
theorem zma (k:Nat) (m:Mb):∀ x∈mbc m,Scoped k x:=fun x hx=>mbl_sc0 k m x hx
where
 mbl_sc0 (n:Nat) (m:Mb):∀ x∈mbc m,Scoped n x:=fun x hx=>by
  simp only [mbc,List.mem_cons] at hx
  rcases hx with rfl|rfl|rfl|rfl|rfl|rfl|rfl|rfl|rfl|rfl|rfl|rfl|rfl|rfl|rfl|rfl|rfl|rfl|rfl|rfl|rfl|rfl|rfl|rfl|hx
  all_goals first|exact .int _ _|exact .bool _|exact zar _ _ _ hx
theorem zt0 (k:Nat) (x:Rr (Mb×St)):Scoped k (rvM x):=by
 cases x with
 | ok y a=>
  refine .tup (zaw fun x hx=> ?_)
  simp only [List.mem_cons,List.not_mem_nil,or_false] at hx
  rcases hx with rfl|rfl|rfl
  ·exact zB (zma _ _)
  ·exact zcM _ _
  ·exact .int _ _
 | er e a=>
  refine .tup (zaw fun x hx=> ?_)
  simp only [List.mem_cons,List.not_mem_nil,or_false] at hx
  rcases hx with rfl|rfl|rfl
  ·exact zB (zma _ _)
  ·exact zcM _ _
  ·exact .int _ _
theorem znI:zk Tryz.prog 154=some zmv:=by kernel_rfl
theorem zea:zmv.length=408:=zT zMb zaG
theorem zi5:zmv.all PV.cell=true:=zer zMb
theorem zn2 {c:Cx} {p:List UInt8} {n:Nat} {hl:Bool} {m:Mb} {s:St} {a:Nat} {y:Mb×St} {a1:Nat} (h:zfA c p n hl m s a= .ok y a1) (ha:a≤n):a1≤n∧y.1.lv=m.lv∧(s.da=y.2.da∧s.db=y.2.db∧s.dc=y.2.dc):=by
 unfold zfA at h
 split at h
 ·suffices hr:∀ (m':Mb) (a':Nat),m'.lv=m.lv→a'≤n→((tkS p n a').bind fun d a2=>if vqB (s.q+d) then .ok ({ m' with dl:=d },{ s with q:=s.q+d }) a2 else .er 2 a2)= .ok y a1→a1≤n∧y.1.lv=m.lv∧(s.da=y.2.da∧s.db=y.2.db∧s.dc=y.2.dc) by
   split at h
   ·cases hf:tkF p n a with
    | er e a2=>rw [hf] at h;cases h
    | ok b a2=>
     have:=zfm hf
     rw [hf,Rr.bind_ok,Rr.bind_ok] at h
     exact hr { m with fd:=b } a2 rfl (by omega) h
   ·rw [Rr.bind_ok] at h
    exact hr m a rfl ha h
  intro m' a' hm' ha' h
  cases h1:tkS p n a' with
  | er e a2=>rw [h1] at h;cases h
  | ok d a2=>
   have b1:=zec h1 ha'
   rw [h1,Rr.bind_ok] at h
   split at h
   ·injection h with e1 e2
    subst e1 e2
    exact ⟨b1.2.2,hm',rfl,rfl,rfl⟩
   ·cases h
 ·injection h with e1 e2
  subst e1 e2
  exact ⟨ha,rfl,rfl,rfl,rfl⟩
theorem zri (m:Mb) (n:Nat) (b:Bool):(zc4 m n b).k=m.k:=by
 unfold zc4
 repeat' split
 all_goals rfl
theorem zn3 {p:List UInt8} {n:Nat}:∀ (r:Nat) (m:Mb) (a:Nat) {m':Mb} {a1:Nat},zee p n r m a= .ok m' a1→a≤n→a1≤n∧m'.lv=m.lv∧m'.k=m.k
 | 0,m,a,m',a1,h,ha=>by
  simp only [zee] at h
  split at h
  ·injection h with e1 e2
   subst e1 e2
   exact ⟨ha,rfl,rfl⟩
  ·cases h
 | r+1,m,a,m',a1,h,ha=>by
  simp only [zee] at h
  cases hf:tkF p n a with
  | er e a2=>rw [hf] at h;cases h
  | ok b a2=>
   have hb:=zfm hf
   rw [hf,Rr.bind_ok] at h
   obtain ⟨c1,c2,c3⟩:=zn3 r _ _ h (by omega)
   exact ⟨c1,by rw [c2,zgp],by rw [c3,zri]⟩
theorem zn1 {p:List UInt8} {n:Nat} {hl:Bool} {m:Mb} {a:Nat} {m':Mb} {a1:Nat} (h:zed p n hl m a= .ok m' a1) (ha:a≤n):a1≤n∧m'.lv=m.lv∧m'.k=m.k:=by
 unfold zed at h
 split at h
 ·exact zn3 _ _ _ h ha
 ·injection h with e1 e2
  subst e1 e2
  exact ⟨ha,rfl,rfl⟩
theorem zkq {c:Cx} {p:List UInt8} {n:Nat}:∀ (r d:Nat) (m:Mb) (s:St) (a:Nat) {y:Mb×St} {a1:Nat},zda c p n r d m s a= .ok y a1→a≤n→vrS s→a1≤n∧SameU m y.1∧vrS y.2
 | 0,d,m,s,a,y,a1,h,ha,hs=>by
  simp only [zda] at h
  injection h with e1 e2
  subst e1 e2
  exact ⟨ha,.refl m,hs⟩
 | r+1,d,m,s,a,y,a1,h,ha,hs=>by
  simp only [zda] at h
  cases h1:zeN c p n m s d a with
  | er e a2=>rw [h1] at h;cases h
  | ok x a2=>
   obtain ⟨b1,b2,b3⟩:=ztK h1 ha hs
   rw [h1,Rr.bind_ok] at h
   obtain ⟨c1,c2,c3⟩:=zkq r (d+1) x.1 x.2 a2 h b1 b3
   exact ⟨c1,b2.trans c2,c3⟩
theorem ztI {c:Cx} {p:List UInt8} {n:Nat} {m:Mb} {s:St} {d k a:Nat} {y:Mb×St} {a1:Nat} (h:zdY c p n m s d k a= .ok y a1):SameQ s y.2:=by
 unfold zdY at h
 suffices hr:∀ (m':Mb) (a':Nat),((tkD p n (sXs s d) 63 a').bind fun x a2=>(tkD p n (sYs s d) 63 a2).bind fun y a3=>.ok (zdR m' d k x y,zbS s d x y) a3)= .ok y a1→SameQ s y.2 by
  split at h
  ·cases hf:tkF p n a with
   | er e a2=>rw [hf] at h;cases h
   | ok b a2=>rw [hf,Rr.bind_ok,Rr.bind_ok] at h;exact hr _ _ h
  ·rw [Rr.bind_ok] at h;exact hr _ _ h
 intro m' a' h
 cases h1:tkD p n (sXs s d) 63 a' with
 | er e a2=>rw [h1] at h;cases h
 | ok x a2=>
  rw [h1,Rr.bind_ok] at h
  cases h2:tkD p n (sYs s d) 63 a2 with
  | er e a3=>rw [h2] at h;cases h
  | ok z a3=>
   rw [h2,Rr.bind_ok] at h
   injection h with e1 e2
   subst e1
   show SameQ s (zbS s d x z)
   unfold zbS
   split<;>exact ⟨rfl,rfl,rfl,rfl⟩
theorem znU {c:Cx} {p:List UInt8} {n d:Nat}:∀ (r k:Nat) (m:Mb) (s:St) (a:Nat) {y:Mb×St} {a1:Nat},zbQ c p n d r k m s a= .ok y a1→SameQ s y.2
 | 0,k,m,s,a,y,a1,h=>by
  simp only [zbQ] at h
  injection h with e1 e2
  subst e1
  exact ⟨rfl,rfl,rfl,rfl⟩
 | r+1,k,m,s,a,y,a1,h=>by
  simp only [zbQ] at h
  cases h1:zdY c p n m s d k a with
  | er e a2=>rw [h1] at h;cases h
  | ok x a2=>
   rw [h1,Rr.bind_ok] at h
   exact (ztI h1).trans (znU r (k+1) x.1 x.2 a2 h)
theorem zkp {c:Cx} {p:List UInt8} {n:Nat}:∀ (r d:Nat) (m:Mb) (s:St) (a:Nat) {y:Mb×St} {a1:Nat},zda c p n r d m s a= .ok y a1→SameQ s y.2
 | 0,d,m,s,a,y,a1,h=>by
  simp only [zda] at h
  injection h with e1 e2
  subst e1
  exact ⟨rfl,rfl,rfl,rfl⟩
 | r+1,d,m,s,a,y,a1,h=>by
  simp only [zda] at h
  cases h1:zeN c p n m s d a with
  | er e a2=>rw [h1] at h;cases h
  | ok x a2=>
   rw [h1,Rr.bind_ok] at h
   refine SameQ.trans ?_ (zkp r (d+1) x.1 x.2 a2 h)
   unfold zeN at h1
   split at h1
   ·exact znU _ _ _ _ _ h1
   ·injection h1 with e1 e2
    subst e1
    exact ⟨rfl,rfl,rfl,rfl⟩
theorem znX {c:Cx} {p:List UInt8} {n:Nat} {m:Mb} {s:St} {a:Nat} {y:Mb×St} {a1:Nat} (h:zeM c p n m s a= .ok y a1) (ha:a≤n) (hs:vrS s):a1≤n∧y.1.lv=m.lv∧y.1.k=m.k∧SameQ s y.2:=by
 unfold zeM at h
 split at h
 ·split at h
  ·cases hf:tkF p n a with
   | er e a2=>rw [hf] at h;cases h
   | ok b a2=>
    have:=zfm hf
    rw [hf,Rr.bind_ok,Rr.bind_ok] at h
    obtain ⟨c1,c2,c3⟩:=zkq _ _ _ _ _ h (by omega) hs
    exact ⟨c1,c2.1,c2.2.2.2.2,zkp _ _ _ _ _ h⟩
  ·rw [Rr.bind_ok] at h
   obtain ⟨c1,c2,c3⟩:=zkq _ _ _ _ _ h ha hs
   exact ⟨c1,c2.1,c2.2.2.2.2,zkp _ _ _ _ _ h⟩
 ·injection h with e1 e2
  subst e1 e2
  exact ⟨ha,rfl,rfl,rfl,rfl,rfl,rfl⟩
theorem znY {c:Cx} {p:List UInt8} {n a:Nat} {x:Mb×Bool} {a1:Nat} (h:zde c p n a= .ok x a1) (ha:a≤n):a1≤n∧x.1.lv=zl384:=by
 unfold zde at h
 split at h
 ·injection h with e1 e2
  subst e1 e2
  exact ⟨ha,rfl⟩
 ·cases hu:tkU p n a with
  | er e a2=>rw [hu] at h;cases h
  | ok v a2=>
   have hb:=zeb hu ha
   rw [hu,Rr.bind_ok] at h
   generalize (if c.t=2 then 3 else 7:Nat)=last at h
   split at h
   ·cases h
   ·split at h
    ·injection h with e1 e2;subst e1 e2;exact ⟨hb.2.2,rfl⟩
    ·split at h
     ·injection h with e1 e2;subst e1 e2;exact ⟨hb.2.2,rfl⟩
     ·injection h with e1 e2;subst e1 e2;exact ⟨hb.2.2,rfl⟩
theorem zge {p:List UInt8} {n:Nat}:∀ (r:Nat) (m:Mb) (s:St) (a:Nat) {y:Mb×St} {a1:Nat},zbR p n r m s a= .ok y a1→a≤n→r≤6→m.lv.length=384→a1≤n∧y.1.lv.length=384∧y.1.k=m.k
 | 0,m,s,a,y,a1,h,ha,hr,hm=>by
  simp only [zbR] at h
  injection h with e1 e2
  subst e1 e2
  exact ⟨ha,hm,rfl⟩
 | r+1,m,s,a,y,a1,h,ha,hr,hm=>by
  have hzl:z64.length=64:=by simp [z64]
  simp only [zbR] at h
  split at h
  ·split at h
   ·cases h1:zeO p n 0 a with
    | er e a2=>rw [h1] at h;cases h
    | ok l a2=>
     have hb:=zhr _ _ _ _ h1 ha
     rw [h1,Rr.bind_ok] at h
     split at h
     ·cases h
     ·exact zge r (zaU m (5 - r) l) s a2 h hb.2.1 (by omega) (zaH _ _ _ (by omega) (by rw [hb.2.2,hzl]) hm)
   ·cases h1:tkD p n (dcS s (5 - r - 3)) 4095 a with
    | er e a2=>rw [h1] at h;cases h
    | ok d a2=>
     have hb:=zhq h1 ha
     rw [h1,Rr.bind_ok] at h
     cases h2:zeO p n 1 a2 with
     | er e a3=>rw [h2] at h;cases h
     | ok l a3=>
      have hb2:=zhr _ _ _ _ h2 hb.2.2
      rw [h2,Rr.bind_ok] at h
      exact zge r (zaU m (5 - r) (l.set 0 d)) _ a3 h hb2.2.1 (by omega) (zaH _ _ _ (by omega) (by rw [List.length_set,hb2.2.2,hzl]) hm)
  ·exact zge r m s a h ha (by omega) hm
theorem zkn (H:za) (i:Nat) (p:List UInt8) (n a:Nat) (K:za) (x:Rr (Mb×St)) (hx:match x with| .ok _ a'=>a=a'| .er _ _=>a≤n):zqO H (zwn H i p n x) (rvM x) (H.set i (rA p n a)++K):=
 .inr (.inr fun hs=>⟨rvM x,H.set i (rA p n a),by
  cases x with
  | ok y a'=>exact ⟨rfl,by rw [show a=a' from hx]⟩
  | er e a'=>exact ⟨rfl,a,hx,rfl⟩,by simp,CutH.base (zds _ _ _ _ _ hs),.id (zt0 _ _)⟩)
theorem ztJ {c:Cx} {p:List UInt8} {n a e a1:Nat} (h:zde c p n a= .er e a1) (ha:a≤n):a1≤n:=by
 unfold zde at h
 split at h
 ·cases h
 ·cases hu:tkU p n a with
  | er e2 a2=>rw [hu] at h;have:=zjd hu;injection h with h1 h2;omega
  | ok v a2=>
   have hb:=zeb hu ha
   rw [hu,Rr.bind_ok] at h
   generalize (if c.t=2 then 3 else 7:Nat)=last at h
   split at h
   ·injection h with h1 h2;omega
   ·split at h
    ·cases h
    ·split at h<;>cases h
theorem zn8 (H:za) (i:Nat) (p:List UInt8) (n a:Nat) (X:za) (B4 B5:Blk) (j:Nat) (hX:X.length=4) (hj:j<4):(tG H i p n a X B4 B5)[H.length+j]? =X[j]? :=by
 unfold tG
 rw [List.getElem?_append_right (by simp),List.length_set,show H.length+j - H.length=j by omega,List.getElem?_append_left (by omega)]
theorem zs2 (H:za) (i:Nat) (p:List UInt8) (n a:Nat) (X:za) (B4 B5 B:Blk) (j:Nat) (hX:X.length=4) (hj:j<4):(tG H i p n a X B4 B5).set (H.length+j) B=tG H i p n a (X.set j B) B4 B5:=by
 unfold tG
 rw [List.set_append_right _ _ (by simp),List.length_set,show H.length+j - H.length=j by omega,List.set_append_left _ _ (by omega)]
def Rk (c:Cx) (q:List UInt8) (n:Nat):Nat→Mb→St→Bool→Nat→Rr (Mb×St)
 | 0,_,s,_,a=>mtk c s q n a
 | 1,m,s,hl,a=>zko c q n hl m s a
 | 2,m,s,hl,a=>(zfA c q n hl m s a).bind fun z a3=>(zed q n hl z.1 a3).bind fun m a4=>(zbR q n 6 m z.2 a4).bind fun w a5=>.ok (w.1,aft w.2 w.1.k) a5
 | 3,m,s,hl,a=>(zed q n hl m a).bind fun m a4=>(zbR q n 6 m s a4).bind fun w a5=>.ok (w.1,aft w.2 w.1.k) a5
 | 4,m,s,_,a=>(zbR q n 6 m s a).bind fun w a5=>.ok (w.1,aft w.2 w.1.k) a5
 | _,m,s,_,a=>.ok (m,aft s m.k) a
structure Sd (n k:Nat) (m:Mb) (s:St) (hl:Bool) (a:Nat):Prop where
 l:m.lv.length=384
 a:a≤n
 z:k=0→m=zMb∧hl=false
 v:k≤1→vrS s
 q:k≤2→1≤s.q∧s.q≤31
 d:k≤4→dcR s
def prts:List PV:=[.func 184 [] [],.func 185 [] [],.func 186 [] [],.func 187 [] [],.func 188 [] []]
def zv8 (H:za) (i:Nat) (p:List UInt8) (n:Nat) (X:za) (c:Cx) (k:Nat) (res:Rr (Mb×St)):PV→za→Prop:=fun v H'=>
 (∃ m s hl a,v= .int .i64 0∧Sd n (k+1) m s hl a∧Rk c p n (k+1) m s hl a=res∧H'=tG H i p n a X (mB m) (tB s i c (H.length+4) hl))∨
 (∃ e a0,res= .er e a0∧v=ecd e∧∃ a m s hl,a≤n∧m.lv.length=384∧H'=tG H i p n a X (mB m) (tB s i c (H.length+4) hl))
theorem zie {H:za} {i:Nat} {p:List UInt8} {n:Nat} {X:za} {c:Cx} {k:Nat} {res:Rr (Mb×St)} {hl:Bool} {x:Rr (Mb×St)} (hok:∀ y a,x= .ok y a→Sd n (k+1) y.1 y.2 hl a∧Rk c p n (k+1) y.1 y.2 hl a=res) (her:∀ e a,x= .er e a→∃ a0,res= .er e a0) (v:PV) (H':za) (h:zm4 H i p n X c hl x v H'):zv8 H i p n X c k res v H':=by
 cases x with
 | ok y a=>
  obtain ⟨h1,h2⟩:=hok y a rfl
  exact .inl ⟨y.1,y.2,hl,a,h.1,h1,h2,h.2⟩
 | er e a=>
  obtain ⟨a0,h0⟩:=her e a rfl
  obtain ⟨h1,a1,m,s,h2,h3,h4⟩:=h
  exact .inr ⟨e,a0,h0,h1,a1,m,s,hl,h2,h3,h4⟩
theorem disp (H:za) (i:Nat) (p:List UInt8) (n:Nat) (X:za) (c:Cx) (hi:i<H.length) (hX:X.length=4) (hn:n≤8 * p.length) (hp:p.length≤100000000) (k:Nat) (hk:k<5) (m:Mb) (s:St) (hl:Bool) (a:Nat) (res:Rr (Mb×St)) (hS:Sd n k m s hl a) (hR:Rk c p n k m s hl a=res):
  ∃ f,prts[k]? =some (.func f [] [])∧CallEx Tryz.prog f [.ptr (H.length+5) 0 0] (tG H i p n a X (mB m) (tB s i c (H.length+4) hl)) (zv8 H i p n X c k res):=by
 obtain ⟨hl384,ha,hz,hv,hq,hd⟩:=hS
 have h5:k=0∨k=1∨k=2∨k=3∨k=4:=by omega
 rcases h5 with rfl|rfl|rfl|rfl|rfl
 ·obtain ⟨rfl,rfl⟩:=hz rfl
  refine ⟨_,rfl,(znT H i p n a X c s hi hX ha hn hp).toEx.mono fun v H' h=> ?_⟩
  obtain ⟨rfl,rfl⟩:=h
  simp only [Rk,mtk] at hR
  cases hk:zde c p n a with
  | ok x a1=>
   rw [hk,Rr.bind_ok] at hR
   obtain ⟨b1,b2⟩:=znY hk ha
   exact .inl ⟨x.1,s,x.2,a1,rfl,⟨by rw [b2];exact zaG,b1,fun e=>by omega,fun _=>hv (by omega),fun _=>hq (by omega),fun _=>hd (by omega)⟩,hR,rfl⟩
  | er e a1=>
   rw [hk,Rr.bind_er] at hR
   refine .inr ⟨e,a1,hR.symm,rfl,a1,zMb,s,false,?_,hl384,rfl⟩
   exact ztJ hk ha
 ·refine ⟨_,rfl,(znR H i p n X c hl hi hX hn hp m s a hl384 (hv (by omega)) ha).mono (zie ?_ ?_)⟩
  ·intro y a1 h
   obtain ⟨b1,b2,b3,b4⟩:=znX h ha (hv (by omega))
   simp only [Rk,zko,h,Rr.bind_ok] at hR
   exact ⟨⟨by rw [b2];exact hl384,b1,fun e=>by omega,fun e=>by omega,fun _=>by rw [b4.1];exact hq (by omega),fun _=>zqn b4 (hd (by omega))⟩,hR⟩
  ·intro e a1 h
   simp only [Rk,zko,h,Rr.bind_er] at hR
   exact ⟨a1,hR.symm⟩
 ·refine ⟨_,rfl,(zq7 H i p n X c hl hi hX hn hp m s a hl384 (hq (by omega)) ha).mono (zie ?_ ?_)⟩
  ·intro y a1 h
   obtain ⟨b1,b2,b3⟩:=zn2 h ha
   simp only [Rk,h,Rr.bind_ok] at hR
   refine ⟨⟨by rw [b2];exact hl384,b1,fun e=>by omega,fun e=>by omega,fun e=>by omega,fun _ j=> ?_⟩,hR⟩
   have:=hd (by omega) j
   unfold dcS at this ⊢
   rw [←b3.1,←b3.2.1,←b3.2.2]
   exact this
  ·intro e a1 h
   simp only [Rk,h,Rr.bind_er] at hR
   exact ⟨a1,hR.symm⟩
 ·refine ⟨_,rfl,(zq6 H i p n X c hl hi hX hn hp m s a hl384 ha).mono (zie ?_ ?_)⟩
  ·intro y a1 h
   cases hc:zed p n hl m a with
   | er e a2=>rw [hc] at h;cases h
   | ok m' a2=>
    obtain ⟨b1,b2,b3⟩:=zn1 hc ha
    rw [hc,Rr.bind_ok] at h
    injection h with e1 e2
    subst e1 e2
    simp only [Rk,hc,Rr.bind_ok] at hR
    exact ⟨⟨by rw [b2];exact hl384,b1,fun e=>by omega,fun e=>by omega,fun e=>by omega,fun _=>hd (by omega)⟩,hR⟩
  ·intro e a1 h
   cases hc:zed p n hl m a with
   | ok m' a2=>rw [hc] at h;cases h
   | er e2 a2=>
    rw [hc] at h
    simp only [Rk,hc,Rr.bind_er] at hR
    injection h with e1 e2
    subst e1
    exact ⟨a2,hR.symm⟩
 ·refine ⟨_,rfl,(zq0 H i p n X c hl hi hX hn hp m s a hl384 (hd (by omega)) ha).mono (zie ?_ ?_)⟩
  ·intro y a1 h
   obtain ⟨b1,b2,b3⟩:=zge 6 m s a h ha (by omega) hl384
   simp only [Rk,h,Rr.bind_ok] at hR
   exact ⟨⟨b2,b1,fun e=>by omega,fun e=>by omega,fun e=>by omega,fun e=>by omega⟩,hR⟩
  ·intro e a1 h
   simp only [Rk,h,Rr.bind_er] at hR
   exact ⟨a1,hR.symm⟩
set_option maxHeartbeats 8000000 in
set_option maxRecDepth 100000 in
theorem zpr (i:Nat) (p:List UInt8) (n a:Nat) (c:Cx) (s:St) (H:za) (hA:H[i]? =some (rA p n a)) (ha:a≤n) (hn:n≤8 * p.length) (hp:p.length≤100000000):
  CallEx Tryz.prog 117 [.ptr i 0 0,.agg (cxc c),.agg (stc s)] H (zwn H i p n (zhj c s p n a)):=by
 have hi:=(List.getElem?_eq_some_iff.1 hA).1
 have hself:=za9 hA
 have c1:=zqo c
 have c2:=zoe s
 have vo:=fun K=>zkl c K
 have so:=fun K=>zqU s K
 have tk1:List.take 4 (cxc c)=cxc c:=rfl
 have tk2:List.take 8 (stc s)=stc s:=rfl
 have l1:(cxc c).length=4:=rfl
 have l2:(stc s).length=8:=rfl
 have hx:=fun K=>zY (K:=K) hA
 have hzl:=zea
 have hzc:=zi5
 have tz:List.take 408 zmv=zmv:=List.take_of_length_le (by omega)
 have dz:List.drop 408 zmv=[]:=List.drop_of_length_le (by omega)
 have hrv:rA p n a=rA p n a:=rfl
 have rv0:∀ a,(rA p n a).ver=0:=fun _=>rfl
 generalize hres:zhj c s p n a=res
 refine CallEx.body (F0:=[(0,.ptr i 0 0),(1,.agg (cxc c)),(2,.agg (stc s))]) Tryz.func117 rfl Tryz.ntmps117 Tryz.results117 rfl (by kernel_rfl) rfl ?_
 refine PW.f (fun K k=>by simp (disch:=omega) only [go_sem,↓reduceIte,reduceCtorEq,c1,c2,↓znI,Nat.reduceAdd];exact k) ?_
 unfold zhj at hres
 suffices hrest:PW Tryz.prog _ _ [(0,.ptr i 0 0),(4,.ptr H.length 0 0),(5,.ptr (H.length+1) 0 0),(6,.ptr (H.length+2) 0 0),(7,.ptr (H.length+3) 0 0),(25,.bool (!(vcx c&&zi9 s)))] (H++[⟨157,0,cxc c⟩,⟨213,0,stc s⟩,⟨154,0,zmv⟩,⟨213,0,stc zSt⟩]) _ by
  cases hv:vcx c with
  | false=>
   rw [hv] at vo hrest
   (repeat refine PW.seq ?_);refine PW.rg rfl fun K hK=> ?_;simp (disch:=omega) only [go_sem,↓reduceIte,reduceCtorEq,hx,rv0,tk1,l1]
   refine VCx.call (vo _) rfl ?_;simp (disch:=omega) only [go_sem,↓reduceIte,reduceCtorEq];refine hK _ _ ?_;clear hK K
   exact PW.at [0,4,5,6,7,25] hrest rfl rfl
  | true=>
   rw [hv] at vo hrest
   (repeat refine PW.seq ?_);refine PW.rg rfl fun K hK=> ?_;simp (disch:=omega) only [go_sem,↓reduceIte,reduceCtorEq,hx,rv0,tk1,l1]
   refine VCx.call (vo _) rfl ?_;simp (disch:=omega) only [go_sem,↓reduceIte,reduceCtorEq,tk2,l2]
   refine VCx.call (so _) rfl ?_;simp (disch:=omega) only [go_sem,↓reduceIte,reduceCtorEq];refine hK _ _ ?_;clear hK K
   exact PW.at [0,4,5,6,7,25] hrest rfl rfl
 cases hval:(vcx c&&zi9 s) with
 | false=>
  rw [hval,if_neg (by decide)] at hres
  refine PW.t ?_
  refine PW.f (fun K k=>by simp (disch:=omega) only [go_sem,↓reduceIte,reduceCtorEq,↓znI,hzl,hzc,tz,dz,stc];exact k) ?_
  refine PW.ret ⟨.tup [.agg zmv,.agg (stc zSt),.int .i64 1],by simp (disch:=omega) only [go_sem,↓reduceIte,reduceCtorEq,zd,zg,List.mapM_cons,List.mapM_nil,Option.pure_def,Option.bind_eq_bind,Option.bind_some,Array.toList,hzl,tz,stc,zSt],?_⟩
  rw [←hres]
  have:=zkn H i p n a [⟨157,0,cxc c⟩,⟨213,0,stc s⟩,⟨154,0,zmv⟩,⟨213,0,stc zSt⟩] (.er 0 a) ha
  rw [hself] at this
  exact this
 | true=>
  rw [hval,if_pos rfl] at hres
  rw [Bool.and_eq_true] at hval
  obtain ⟨hq,hv,hd⟩:=zlA hval.2
  refine PW.us ?_
  refine PW.f (fun K k=>by simp (disch:=omega) only [go_sem,↓reduceIte,reduceCtorEq,↓znI];exact k) ?_
  refine PW.f (fun K k=>by simp (disch:=omega) only [go_sem,↓reduceIte,reduceCtorEq,tk1,tk2,l1,l2,cxc,stc];exact k) ?_
  obtain ⟨X,hXe⟩:∃ X:za,X=[⟨157,0,cxc c⟩,⟨213,0,stc s⟩,⟨154,0,zmv⟩,⟨213,0,stc zSt⟩]:=⟨_,rfl⟩
  have hX:X.length=4:=by rw [hXe];rfl
  refine PW.at [0,4,5,6,7,9,10] (F1:=[(0,.ptr i 0 0),(4,.ptr H.length 0 0),(5,.ptr (H.length+1) 0 0),(6,.ptr (H.length+2) 0 0),(7,.ptr (H.length+3) 0 0),(9,.ptr (H.length+4) 0 0),(10,.ptr (H.length+5) 0 0)]) (H1:=tG H i p n a X (mB zMb) (tB s i c (H.length+4) false)) ?_ rfl (by unfold tG;rw [hself,hXe];rfl)
  have nf:(pvc Value.nilFunc).cells=[.nl 0]:=rfl
  have hS:Sd n 0 zMb s false a:=⟨zaG,ha,fun _=>⟨rfl,rfl⟩,fun _=>hv,fun _=>hq,fun _=>hd⟩
  refine PW.f (fun K k=>by simp (disch:=omega) only [go_sem,↓reduceIte,reduceCtorEq,nf];exact k) ?_
  (repeat refine PW.seq ?_);refine PW.block (PW.loop ?_)
  suffices hl1:∀ (k:Nat) (m:Mb) (s:St) (hl:Bool) (a:Nat),k≤5→Sd n k m s hl a→Rk c p n k m s hl a=res→PL Tryz.prog _ _ [(6,.ptr (H.length+2) 0 0),(7,.ptr (H.length+3) 0 0),(9,.ptr (H.length+4) 0 0),(10,.ptr (H.length+5) 0 0),(32,.slice prts 5 true),(33,.int .i64 5),(34,.int .i64 (k:Int))] (tG H i p n a X (mB m) (tB s i c (H.length+4) hl)) _ by
   exact PL.at [6,7,9,10,32,33,34] (hl1 0 zMb s false a (by omega) hS hres) rfl rfl
  clear hres hS hv hq hd
  have hpl:prts.length=5:=rfl
  have gE:∀ m s hl a,(tG H i p n a X (mB m) (tB s i c (H.length+4) hl))[H.length+2]? =some ⟨154,0,zmv⟩∧(tG H i p n a X (mB m) (tB s i c (H.length+4) hl))[H.length+3]? =some ⟨213,0,stc zSt⟩:=fun m s hl a=>by
   unfold tG
   rw [hXe]
   exact ⟨by rw [List.getElem?_append_right (by simp),List.length_set,show H.length+2 - H.length=2 by omega];rfl,by rw [List.getElem?_append_right (by simp),List.length_set,show H.length+3 - H.length=3 by omega];rfl⟩
  have ao:=fun s k K=>zve s k K
  intro k m s hl a hk hS hR
  induction hd:5 - k using Nat.strongRecOn generalizing k m s hl a with
  | _ d ih=>
   refine PL.round ?_;refine PW.e ?_
   (repeat refine PW.seq ?_);refine PW.cond (t:=_) rfl (fun h=> ?_) (fun h=> ?_)
   ·have h5:k<5:=by have:=of_decide_eq_true h;omega
    obtain ⟨f,hf,hc⟩:=disp H i p n X c hi hX hn hp k h5 m s hl a res hS hR
    refine PW.skip ?_;(repeat refine PW.seq ?_);refine PW.block ?_
    refine PW.f (fun K k=>by simp (disch:=omega) only [go_sem,↓reduceIte,reduceCtorEq,hf,hpl];exact k) ?_
    (repeat refine PW.seq ?_);refine PW.rg rfl fun K hK=> ?_;simp (disch:=omega) only [go_sem,↓reduceIte,reduceCtorEq]
    refine VCx.callR hc rfl fun v H' hQ=> ?_
    rcases hQ with ⟨m',s',hl',a',rfl,hS',hR',rfl⟩|⟨e,a0,hre,rfl,a',m',s',hl',ha',hml',rfl⟩
    ·simp (disch:=omega) only [go_sem,↓reduceIte,reduceCtorEq];refine hK _ _ ?_;clear hK K
     refine PW.e ?_
     refine PW.us ?_
     refine PW.e ?_
     exact PL.at [6,7,9,10,32,33,34] (ih (5 - (k+1)) (by omega) (k+1) m' s' hl' a' (by omega) hS' hR' rfl) rfl rfl
    ·have d0:((e:Int)+1 !=0)=true:=by simp;omega
     obtain ⟨ge1,ge2⟩:=gE m' s' hl' a'
     have se1:=za9 ge1
     have se2:=za9 ge2
     have lst:(stc zSt).length=8:=rfl
     simp (disch:=omega) only [go_sem,↓reduceIte,reduceCtorEq,ecd];refine hK _ _ ?_;clear hK K
     refine PW.f (fun K k=>by simp (disch:=omega) only [go_sem,↓reduceIte,reduceCtorEq,d0];exact k) ?_
     refine PW.t ?_
     refine PW.f (fun K k=>by simp (disch:=omega) only [go_sem,↓reduceIte,reduceCtorEq,↓znI,ge1,ge2,hzl,hzc,dz,lst,se1];exact k) ?_
     refine PW.at [6,7,8] (F1:=[(6,.ptr (H.length+2) 0 0),(7,.ptr (H.length+3) 0 0),(8,.int .i64 ((e:Int)+1))]) (H1:=tG H i p n a' X (mB m') (tB s' i c (H.length+4) hl')) ?_ rfl se2
     have tst:List.take 8 (stc zSt)=stc zSt:=rfl
     refine PW.ret ⟨.tup [.agg zmv,.agg (stc zSt),.int .i64 ((e:Int)+1)],by simp (disch:=omega) only [go_sem,↓reduceIte,reduceCtorEq,zd,zg,List.mapM_cons,List.mapM_nil,Option.pure_def,Option.bind_eq_bind,Option.bind_some,Array.toList,ge1,ge2,hzl,tz,lst,tst],?_⟩
     rw [hre]
     exact zkn H i p n a' (X++[mB m',tB s' i c (H.length+4) hl']) (.er e a0) ha'
   ·have h5:k=5:=by have:=of_decide_eq_false h;omega
    subst h5
    refine PW.exit ?_
    simp only [Rk] at hR
    have ml:=hS.l
    have hlm:=zT m ml
    have htm:List.take 408 (mbc m)=mbc m:=List.take_of_length_le (by omega)
    have hcm:=zer m
    have g5:=fun B4 B5=>zhY H i p n a X B4 B5 hX
    have g4:=fun B4 B5=>zjf H i p n a X B4 B5 hX
    obtain ⟨ge1,ge2⟩:=gE m s hl a
    have gX2:=fun Y B4 B5 B hY=>zs2 H i p n a Y B4 B5 B 2 hY (by omega)
    have gX3:=fun Y B4 B5 B hY=>zs2 H i p n a Y B4 B5 B 3 hY (by omega)
    have tcs:List.take 8 (tC s i c (H.length+4) hl)=stc s:=rfl
    have lst:∀ t,(stc t).length=8:=fun _=>rfl
    have cst:∀ t,(stc t).all PV.cell=true:=fun _=>rfl
    have ao1:=fun K=>ao s m.k K
    have e3:(tG H i p n a (X.set 2 (mB m)) (mB m) (tB s i c (H.length+4) hl))[H.length+3]? =some ⟨213,0,stc zSt⟩:=by
     rw [zn8 _ _ _ _ _ _ _ _ _ (by rw [List.length_set];exact hX) (by omega),hXe];rfl
    have hw2:=gX2 X (mB m) (tB s i c (H.length+4) hl) (mB m) hX
    have hw3:=gX3 (X.set 2 (mB m)) (mB m) (tB s i c (H.length+4) hl) ⟨213,0,stc (aft s m.k)⟩ (by rw [List.length_set];exact hX)
    have dst:List.drop 8 (stc zSt)=[]:=rfl
    (repeat refine PW.seq ?_);refine PW.draw mix (by kernel_rfl) fun K hK=> ?_;simp (disch:=omega) only [go_sem,↓reduceIte,reduceCtorEq,g5,g4,zF,zG,zau,zay,zgP,hlm,htm,tcs,zad]
    refine VCy.call (ao1 _) rfl ?_;simp (disch:=omega) only [go_sem,↓reduceIte,reduceCtorEq,ge1,ge2,hzl,dz,hlm,hcm,zaY,hw2,e3,lst,cst,dst,hw3]
    refine hK _ _ ?_;clear hK K
    have hX2:((X.set 2 (mB m)).set 3 ⟨213,0,stc (aft s m.k)⟩).length=4:=by rw [List.length_set,List.length_set];exact hX
    have f2:(tG H i p n a ((X.set 2 (mB m)).set 3 ⟨213,0,stc (aft s m.k)⟩) (mB m) (tB s i c (H.length+4) hl))[H.length+2]? =some (mB m):=by
     rw [zn8 _ _ _ _ _ _ _ _ _ hX2 (by omega),hXe];rfl
    have f3:(tG H i p n a ((X.set 2 (mB m)).set 3 ⟨213,0,stc (aft s m.k)⟩) (mB m) (tB s i c (H.length+4) hl))[H.length+3]? =some ⟨213,0,stc (aft s m.k)⟩:=by
     rw [zn8 _ _ _ _ _ _ _ _ _ hX2 (by omega),hXe];rfl
    have tst:∀ t,List.take 8 (stc t)=stc t:=fun _=>rfl
    refine PW.ret ⟨.tup [.agg (mbc m),.agg (stc (aft s m.k)),.int .i64 0],by simp (disch:=omega) only [go_sem,↓reduceIte,reduceCtorEq,zd,zg,List.mapM_cons,List.mapM_nil,Option.pure_def,Option.bind_eq_bind,Option.bind_some,Array.toList,f2,f3,zau,zay,hlm,htm,lst,tst],?_⟩
    rw [←hR]
    exact zkn H i p n a (((X.set 2 (mB m)).set 3 ⟨213,0,stc (aft s m.k)⟩)++[mB m,tB s i c (H.length+4) hl]) (.ok (m,aft s m.k) a) rfl
def tz8 (b:Nat):Nat:=if b%2≠0 then 0 else if b%4≠0 then 1 else if b%8≠0 then 2 else if b%16≠0 then 3 else if b%32≠0 then 4 else if b%64≠0 then 5 else if b%128≠0 then 6 else if b%256≠0 then 7 else 8
theorem zjc:∀ b<256,b=0∨(tz8 b<8∧b / 2^tz8 b%2=1∧∀ j<8,tz8 b≤j∨b / 2^j%2=0):=by decide+kernel
def zth (r:Option Res) (v:Nat):Bool:=match r with
 | some (.val (.int .i64 n) [])=>n==(v:Int)
 | _=>false
theorem ztE:∀ b:Nat,b<256→zth (zgZ Tryz.prog 100 (.call 181 [.int .u8 (b:Int)] [])) (tz8 b)=true:=by decide+kernel
theorem zvv (b:Nat) (hb:b<256) (H:za):CallOk Tryz.prog 181 [.int .u8 (b:Int)] H (.int .i64 (tz8 b:Int)) H:=by
 refine CallOk.eval 100 ?_ ?_
 ·have h:=ztE b hb
  unfold zth at h
  split at h
  ·rename_i he;rw [he,eq_of_beq h]
  ·cases h
 ·intro x hx
  simp only [List.mem_cons,List.not_mem_nil,or_false] at hx
  rw [hx];exact .int _ _
def zcm (q:List UInt8):Nat:=(q.getD (q.length - 1) 0).toNat
def nb (q:List UInt8):Nat:=8 * q.length - 1 - tz8 (zcm q)
theorem zpo (q:List UInt8) (f:Bool) (H:za) (hl:q.length≤100000000) (hb:q.length=0∨zcm q=0):
  CallOk Tryz.prog 114 [.slice (bs q) q.length f] H (.tup [.nilp,.int .i64 3]) H:=by
 refine CallOk.body (F0:=[(0,.slice (bs q) q.length f)]) Tryz.func114 rfl Tryz.ntmps114 Tryz.results114 rfl (by kernel_rfl) rfl ?_
 by_cases h0:q.length=0
 ·refine PW.e ?_
  (repeat refine PW.seq ?_);refine PW.rg rfl fun K hK=> ?_;simp (disch:=omega) only [go_sem,↓reduceIte,reduceCtorEq,h0]
  refine hK _ _ ?_;clear hK K
  (repeat refine PW.seq ?_);refine PW.cond (t:=_) rfl (fun h=> ?_) (fun h=> ?_)
  ·refine PW.e ?_
   exact PW.ret ⟨_,rfl,Fin.now⟩
  ·cases h
 ·have e1:(q.length:Int) - 1=((q.length - 1:Nat):Int):=by omega
  have hby:byt q (q.length - 1)=0:=by
   have:byt q (q.length - 1)=(zcm q:Int):=rfl
   omega
  refine PW.e ?_
  (repeat refine PW.seq ?_);refine PW.rg rfl fun K hK=> ?_;simp (disch:=omega) only [go_sem,↓reduceIte,reduceCtorEq,e1,zbr,ze,hby]
  refine hK _ _ ?_;clear hK K
  (repeat refine PW.seq ?_);refine PW.cond (t:=_) rfl (fun h=> ?_) (fun h=> ?_)
  ·refine PW.e ?_
   exact PW.ret ⟨_,rfl,Fin.now⟩
  ·cases h
theorem zrL (q:List UInt8) (f:Bool) (H:za) (hl:q.length≤100000000) (hq:q.length≠0) (hb:zcm q≠0):
  CallOk Tryz.prog 114 [.slice (bs q) q.length f] H (.tup [.ptr (H.length+1) 0 0,.int .i64 0]) (H++[⟨5,1,[]⟩,rA q (nb q) 0]):=by
 have e1:(q.length:Int) - 1=((q.length - 1:Nat):Int):=by omega
 have hby:byt q (q.length - 1)=(zcm q:Int):=rfl
 have hlt:zcm q<256:=UInt8.toNat_lt _
 have htz:tz8 (zcm q)<8:=((zjc _ hlt).resolve_left hb).1
 refine CallOk.body (F0:=[(0,.slice (bs q) q.length f)]) Tryz.func114 rfl Tryz.ntmps114 Tryz.results114 rfl (by kernel_rfl) rfl ?_
 refine PW.e ?_
 refine PW.f (fun K k=>by simp (disch:=omega) only [go_sem,↓reduceIte,reduceCtorEq,e1,zbr,ze,hby];exact k) ?_
 refine PW.us ?_
 refine PW.e ?_
 have hcl:(List.replicate q.length [PV.int .u8 0]).flatten.length=q.length:=by simp
 refine PW.to [0,4] [(0,.slice (bs q) q.length f),(4,.ptr (H.length+1) 0 0)] (H++[⟨5,0,bs q⟩,⟨276,0,[.msl H.length 0 0 q.length 1 true,.int .i64 0,.int .i64 0]⟩]) ?_ ?_
 ·refine PW.f (fun K k=>by simp (disch:=omega) only [go_sem,↓reduceIte,reduceCtorEq,ze,hcl];exact k) ?_
  refine ⟨rfl,?_⟩
  have htk:List.take q.length (bs q)=bs q:=List.take_of_length_le (by rw [ze];exact Nat.le_refl _)
  simp [zO,zbE,ze,htk]
 refine PW.view (Vs.frzCell (id:=H.length) (id':=H.length+1) (j:=0) (hp0 _ _ _) (hp1 _ _ _ _) (by omega) rfl (by simp [ze])) ?_
 simp only [hs0,hs1,List.set_cons_zero]
 refine PW.f (fun K k=>by simp (disch:=omega) only [go_sem,↓reduceIte,reduceCtorEq,ze,e1,zbr,hby];refine VCx.call (zvv _ hlt _) rfl ?_;simp (disch:=omega) only [go_sem,↓reduceIte,reduceCtorEq,ze,e1,zbr,hby];exact k) ?_
 refine PW.e ?_
 have e2:8 * (q.length:Int) - 1 - (tz8 (zcm q):Int)=(nb q:Int):=by unfold nb;omega
 refine PW.ret ⟨_,rfl,?_⟩
 refine .inl ⟨?_,?_⟩
 ·simp [slot,Nat.beq]
 ·rw [e2];rfl
def bl (q:List UInt8):List Bool:=(List.range (8 * q.length)).map fun k=>decide (zbA q k=1)
theorem zhp (q:List UInt8) (r:Nat) (hq:q.length≠0) (hr:r<8):zbA q (8 * q.length - 1 - r)=zcm q / 2^r%2:=by
 unfold zbA zcm
 rw [show (8 * q.length - 1 - r) / 8=q.length - 1 by omega,show 7 - (8 * q.length - 1 - r)%8=r by omega]
theorem zua (q:List UInt8) (hq:q.length≠0) (hb:zcm q≠0):zbA q (nb q)=1∧nb q<8 * q.length∧∀ j,nb q<j→j<8 * q.length→zbA q j=0:=by
 have hlt:zcm q<256:=UInt8.toNat_lt _
 obtain ⟨h1,h2,h3⟩:=(zjc _ hlt).resolve_left hb
 refine ⟨?_,by unfold nb;omega,fun j hj hj2=> ?_⟩
 ·rw [nb,zhp q _ hq h1,h2]
 ·unfold nb at hj
  have:=zhp q (8 * q.length - 1 - j) hq (by omega)
  rw [show 8 * q.length - 1 - (8 * q.length - 1 - j)=j by omega] at this
  rw [this]
  exact (h3 _ (by omega)).resolve_left (by omega)
theorem zpu (l:List Mb) (n:Nat):∀ x∈l.flatMap mbc,Scoped n x:=fun x hx=>by
 obtain ⟨m,_,hx⟩:=List.mem_flatMap.1 hx
 simp only [mbc,List.mem_cons] at hx
 rcases hx with rfl|rfl|rfl|rfl|rfl|rfl|rfl|rfl|rfl|rfl|rfl|rfl|rfl|rfl|rfl|rfl|rfl|rfl|rfl|rfl|rfl|rfl|rfl|rfl|hx
 all_goals first|exact .int _ _|exact .bool _|exact zar _ _ _ hx
end Go.Proofs.YtjgmdlcjbgiekaaGreatDoor.Sc
