/-
  Parts of the proof, put together in one text. No condition.
-/
import Derived.Test.YtjgmdlcjbgiekaaGreatDoorQ40
namespace Go.Proofs.YtjgmdlcjbgiekaaGreatDoor.Sc
set_option linter.all false
open Pm Ty Go.RowKit
def shN (n:Nat) (o:Int):Int:=if o<0 then o else o+n
def shF (n:Nat) (f:FmY):FmY:={ f with f:=f.f+n,l:=f.l+n }
def zdb (n m:Nat) (e:Ent):Ent:=({ e.1 with f:=e.1.f+n,l:=e.1.l+n,pa:=shN m e.1.pa,fu:=shN m e.1.fu,sh:=e.1.sh+m },e.2)
def shA (n:Nat) (a:As):As:={ a with op:=shN n a.op }
theorem zow {B T:List It} {a:As} {i:Nat} (ho:a.op= -1∨0≤a.op) (x:It):(shA B.length a).item (B++T) ((B.length+i:Nat):Int) x=(shA B.length (a.item T (i:Int) x).1,(a.item T (i:Int) x).2.map (shF B.length))∧((a.item T (i:Int) x).1.op= -1∨0≤(a.item T (i:Int) x).1.op):=by
 obtain ⟨sq,kn,op,rs,lk⟩:=a
 simp only at ho
 have hh:0≤op→hdA (B++T) (op+(B.length:Int))=hdA T op:=fun h=>by
  unfold hdA
  rw [show (op+(B.length:Int)).toNat=B.length+op.toNat by omega,List.getElem?_append_right (by omega),Nat.add_sub_cancel_left]
 have e1:shN B.length (-1)= -1:=rfl
 have e2:shN B.length (i:Int)=((B.length+i:Nat):Int):=by unfold shN;rw [if_neg (by omega)];omega
 unfold As.item
 by_cases k3:x.k=3
 ·rw [if_pos k3,if_pos k3]
  unfold As.pic shA
  dsimp only
  by_cases hv:(kn&&zL sq x.p)=false
  ·rw [if_pos hv,if_pos hv]
   exact ⟨rfl,.inl rfl⟩
  rw [if_neg hv,if_neg hv]
  by_cases h3:x.p.st=3
  ·rw [if_pos h3,if_pos h3]
   refine ⟨?_,.inl rfl⟩
   unfold As.cmp shF
   simp only [Option.map_some]
   rw [show (((B.length+i:Nat):Int))=(i:Int)+(B.length:Int) by omega]
   rfl
  rw [if_neg h3,if_neg h3]
  rcases ho with ho|ho
  ·subst ho
   have c1:¬(shN B.length (-1)≠-1∧zaW (hdA (B++T) (shN B.length (-1))) x.p=true):=fun h=>h.1 rfl
   have c2:¬((-1:Int)≠-1∧zaW (hdA T (-1)) x.p=true):=fun h=>h.1 rfl
   rw [if_neg c1,if_neg c2]
   by_cases hl:zca x.p=true
   ·rw [if_pos hl,if_pos hl]
    exact ⟨by rw [e2];rfl,.inr (by show (0:Int)≤(i:Int);omega)⟩
   ·rw [if_neg hl,if_neg hl]
    exact ⟨rfl,.inl rfl⟩
  ·have e3:shN B.length op=op+(B.length:Int):=by unfold shN;rw [if_neg (by omega)]
   rw [e3,hh ho]
   by_cases hp:zaW (hdA T op) x.p=true
   ·rw [if_pos ⟨by omega,hp⟩,if_pos ⟨by omega,hp⟩]
    refine ⟨?_,.inl rfl⟩
    unfold As.cmp shF
    simp only [Option.map_some]
    rw [show (((B.length+i:Nat):Int))=(i:Int)+(B.length:Int) by omega]
    rfl
   ·have c1:¬(op+(B.length:Int)≠-1∧zaW (hdA T op) x.p=true):=fun h=>hp h.2
    have c2:¬(op≠-1∧zaW (hdA T op) x.p=true):=fun h=>hp h.2
    rw [if_neg c1,if_neg c2]
    by_cases hl:zca x.p=true
    ·rw [if_pos hl,if_pos hl]
     exact ⟨by rw [e2];rfl,.inr (by show (0:Int)≤(i:Int);omega)⟩
    ·rw [if_neg hl,if_neg hl]
     exact ⟨rfl,.inl rfl⟩
 rw [if_neg k3,if_neg k3]
 by_cases k1:x.k=1
 ·rw [if_pos k1,if_pos k1]
  unfold As.seq shA
  dsimp only
  by_cases he:(kn&&sqE sq x.s)=true
  ·rw [if_pos he]
   exact ⟨rfl,.inl rfl⟩
  ·rw [if_neg he]
   exact ⟨rfl,.inl rfl⟩
 rw [if_neg k1,if_neg k1]
 by_cases k2:x.k=2
 ·rw [if_pos k2,if_pos k2]
  unfold As.grp shA
  cases x.gc with
  | true=>exact ⟨rfl,.inl rfl⟩
  | false=>
   cases x.gb with
   | true=>exact ⟨rfl,.inl rfl⟩
   | false=>exact ⟨rfl,.inl rfl⟩
 rw [if_neg k2,if_neg k2]
 by_cases k4:x.k=4
 ·rw [if_pos k4,if_pos k4]
  exact ⟨rfl,.inl rfl⟩
 ·rw [if_neg k4,if_neg k4]
  exact ⟨rfl,.inl rfl⟩
def dsE (n:Nat) (E ys:List Ent) (wt:Bool) (new:Int):List Ent:=if wt then (E++ys.map (zdb n E.length)).modify (new.toNat+E.length) (zS 0) else E++ys.map (zdb n E.length)
structure DSh (n:Nat) (E:List Ent) (x y:Dp):Prop where
 en:x.en=dsE n E y.en y.wt y.new
 old:x.old=shN E.length y.old
 new:x.new=shN E.length y.new
 wt:x.wt=y.wt
 lk:x.lk=y.lk
 sh:x.sh=y.sh+E.length
 ro: -1≤y.old
 rn: -1≤y.new∧y.new<y.en.length
 rw:y.wt=true→0≤y.new
theorem zrO (l:List Ent) (j:Nat) (u v:Int):(l.modify j (zS u)).modify j (zS v)=l.modify j (zS v):=by
 induction l generalizing j with
 | nil=>simp
 | cons a r ih=>cases j with
  | zero=>rfl
  | succ j=>simp only [List.modify_succ_cons,ih]
theorem zjP (l r:List Ent) (j:Nat) (v:Int) (h:j<l.length):(l++r).modify j (zS v)=l.modify j (zS v)++r:=by
 induction l generalizing j with
 | nil=>exact absurd h (Nat.not_lt_zero _)
 | cons a t ih=>cases j with
  | zero=>rfl
  | succ j=>
   simp only [List.cons_append,List.modify_succ_cons]
   rw [ih j (by simpa using h)]
theorem zcB (l r:List Ent) (j:Nat) (v:Int):(l++r).modify (j+l.length) (zS v)=l++r.modify j (zS v):=by
 induction l with
 | nil=>simp
 | cons a t ih=>
  rw [List.cons_append,List.length_cons,←Nat.add_assoc,List.modify_succ_cons,ih];rfl
theorem zrV (m n:Nat) (l:List Ent) (j:Nat) (v:Int):(l.map (zdb n m)).modify j (zS (v+m))=(l.modify j (zS v)).map (zdb n m):=by
 induction l generalizing j with
 | nil=>simp
 | cons a r ih=>cases j with
  | zero=>rfl
  | succ j=>simp only [List.map_cons,List.modify_succ_cons,ih]
theorem zgX (d:Dp):d.flush.en.length=d.en.length:=by
 unfold Dp.flush Dp.show
 cases d.wt<;>simp
theorem DSh.flush {n:Nat} {E:List Ent} {x y:Dp} (h:DSh n E x y):DSh n E x.flush y.flush∧x.flush.en=E++y.flush.en.map (zdb n E.length):=by
 have hw2:=(zbh y).2.2.1
 have key:x.flush.en=E++y.flush.en.map (zdb n E.length)∧x.flush.sh=y.flush.sh+E.length:=by
  have e:=h.en
  unfold dsE at e
  unfold Dp.flush
  rw [h.wt]
  cases hw:y.wt with
  | false=>
   rw [hw,if_neg (by simp)] at e
   rw [if_neg (by simp),if_neg (by simp)]
   exact ⟨e,h.sh⟩
  | true=>
   rw [hw,if_pos rfl] at e
   rw [if_pos rfl,if_pos rfl]
   have hn:=h.rw hw
   refine ⟨?_,?_⟩
   ·show (x.en.modify x.new.toNat (zS x.sh))=E++(y.en.modify y.new.toNat (zS y.sh)).map (zdb n E.length)
    have e2:x.new.toNat=y.new.toNat+E.length:=by rw [h.new];unfold shN;rw [if_neg (by omega)];omega
    rw [e,e2,zrO,zcB,h.sh,zrV]
   ·show x.sh+1=y.sh+1+E.length
    rw [h.sh];omega
 obtain ⟨x1,x2,x3,x4⟩:=zbh x
 obtain ⟨y1,y2,y3,y4⟩:=zbh y
 refine ⟨⟨?_,?_,?_,?_,?_,key.2,?_,?_,fun e=> ?_⟩,key.1⟩
 ·rw [key.1];unfold dsE;rw [y3];rfl
 ·rw [x1,y1];exact h.old
 ·rw [x2,y2];exact h.new
 ·rw [x3,y3]
 ·rw [x4,y4];exact h.lk
 ·rw [y1];exact h.ro
 ·rw [y2,zgX];exact h.rn
 ·rw [y3] at e;cases e
theorem DSh.res {n:Nat} {E:List Ent} {x y:Dp} (h:DSh n E x y) (b:Bool):DSh n E (x.res b) (y.res b):=by
 unfold Dp.res
 cases b with
 | false=>exact h
 | true=>
  obtain ⟨g,ge⟩:=h.flush
  have y3:=(zbh y).2.2.1
  refine ⟨?_,rfl,rfl,g.wt,rfl,g.sh,Int.le_refl _,⟨Int.le_refl _,by show (-1:Int)<_;omega⟩,fun e=> ?_⟩
  ·show x.flush.en=dsE n E y.flush.en y.flush.wt (-1)
   rw [ge,y3];rfl
  ·have e':y.flush.wt=true:=e
   rw [y3] at e';cases e'
theorem DSh.lnk {n:Nat} {E:List Ent} {x y:Dp} (h:DSh n E x y) (k:Int):DSh n E (x.lnk k) (y.lnk k):=by
 unfold Dp.lnk
 split
 ·exact ⟨h.en,h.old,h.new,h.wt,rfl,h.sh,h.ro,h.rn,h.rw⟩
 ·exact h
theorem zgV (d:Dp) (e:Ent) (h:d.wt=true→d.new.toNat<d.en.length):Dp.flush { d with en:=d.en++[e] }={ d.flush with en:=d.flush.en++[e] }:=by
 obtain ⟨en,old,new,wt,lk,sh⟩:=d
 cases wt with
 | false=>rfl
 | true=>
  have:=zjP en [e] new.toNat sh (h rfl)
  unfold Dp.flush Dp.show
  rw [if_pos rfl,if_pos rfl]
  simp only
  rw [this]
theorem DSh.frame {n:Nat} {E:List Ent} {x y:Dp} (h:DSh n E x y) (f:FmY):DSh n E (x.frame (shF n f)) (y.frame f):=by
 have ho:=h.ro
 have hn:=h.rn
 have hlx:x.en.length=E.length+y.en.length:=by
  rw [h.en];unfold dsE
  split<;>simp
 have o1:x.old= -1↔y.old= -1:=by rw [h.old];unfold shN;split<;>omega
 have n1:x.new= -1↔y.new= -1:=by rw [h.new];unfold shN;split<;>omega
 have hsh:∀ (p q v:Int),zS (v+E.length) (fmE (shF n f) (shN E.length p) (shN E.length q))=zdb n E.length (zS v (fmE f p q)):=fun _ _ _=>rfl
 unfold Dp.frame
 show DSh n E (if f.hd.ty=3 then _ else if f.hd.ty=2∧x.new= -1 then x else _) _
 by_cases h3:f.hd.ty=3
 ·rw [if_pos h3,if_pos h3]
  by_cases hc:y.lk≠0∨y.old= -1∨y.new= -1
  ·rw [if_pos hc,if_pos (by rw [h.lk,o1,n1];exact hc)];exact h
  rw [if_neg hc,if_neg (by rw [h.lk,o1,n1];exact hc)]
  refine ⟨?_,h.old,h.new,h.wt,h.lk,?_,h.ro,?_,h.rw⟩
  ·show (x.en++[fmE (shF n f) x.old x.new]).modify ((x.en.length:Nat):Int).toNat (zS x.sh)=dsE n E ((y.en++[fmE f y.old y.new]).modify ((y.en.length:Nat):Int).toNat (zS y.sh)) y.wt y.new
   have m1:=zcB x.en [fmE (shF n f) x.old x.new] 0 x.sh
   have m2:=zcB y.en [fmE f y.old y.new] 0 y.sh
   rw [Nat.zero_add] at m1 m2
   have e1:[fmE (shF n f) x.old x.new].modify 0 (zS x.sh)=[zS x.sh (fmE (shF n f) x.old x.new)]:=rfl
   have e2:[fmE f y.old y.new].modify 0 (zS y.sh)=[zS y.sh (fmE f y.old y.new)]:=rfl
   rw [Int.toNat_natCast,Int.toNat_natCast,m1,m2,e1,e2,h.sh,h.old,h.new,hsh,h.en]
   unfold dsE
   rw [List.map_append]
   cases hw:y.wt with
   | false=>rw [if_neg (by simp),if_neg (by simp),List.append_assoc];rfl
   | true=>
    have:=h.rw hw
    have m3:=zjP (E++y.en.map (zdb n E.length)) ([zS y.sh (fmE f y.old y.new)].map (zdb n E.length)) (y.new.toNat+E.length) 0 (by rw [List.length_append,List.length_map];omega)
    rw [if_pos rfl,if_pos rfl,←List.append_assoc E,m3]
    rfl
  ·show x.sh+1=y.sh+1+E.length
   rw [h.sh];omega
  ·show -1≤y.new∧y.new<(((y.en++[fmE f y.old y.new]).modify ((y.en.length:Nat):Int).toNat (zS y.sh)).length:Int)
   simp only [List.length_modify,List.length_append,List.length_singleton];omega
 rw [if_neg h3,if_neg h3]
 by_cases hc:f.hd.ty=2∧y.new= -1
 ·rw [if_pos hc,if_pos (by rw [n1];exact hc)];exact h
 rw [if_neg hc,if_neg (by rw [n1];exact hc)]
 dsimp only
 rw [zgV x _ (fun e=>by
   have e':=h.wt
   rw [e] at e'
   have:=h.rw e'.symm
   rw [h.new];unfold shN;rw [if_neg (by omega)];omega),zgV y _ (fun e=>by have:=h.rw e;omega)]
 obtain ⟨g,ge⟩:=h.flush
 obtain ⟨x1,x2,x3,x4⟩:=zbh x
 obtain ⟨y1,y2,y3,y4⟩:=zbh y
 refine ⟨?_,?_,?_,rfl,?_,g.sh,?_,?_,fun _=> ?_⟩
 ·show x.flush.en++[fmE (shF n f) x.new (-1)]=dsE n E (y.flush.en++[fmE f y.new (-1)]) true ((y.en.length:Nat):Int)
  unfold dsE
  rw [if_pos rfl,Int.toNat_natCast,zcB,List.map_append,ge,List.append_assoc]
  have m2:=zcB (y.flush.en.map (zdb n E.length)) ([fmE f y.new (-1)].map (zdb n E.length)) 0 0
  rw [Nat.zero_add,List.length_map,zgX] at m2
  rw [m2,h.new]
  rfl
 ·show x.flush.new=shN E.length y.flush.new
  exact g.new
 ·show ((x.en.length:Nat):Int)=shN E.length ((y.en.length:Nat):Int)
  unfold shN
  rw [if_neg (by omega),hlx];omega
 ·show max 0 (x.flush.lk - 1)=max 0 (y.flush.lk - 1)
  rw [g.lk]
 ·show -1≤y.flush.new
  rw [y2];exact h.rn.1
 ·show -1≤((y.en.length:Nat):Int)∧((y.en.length:Nat):Int)<((y.flush.en++[fmE f y.new (-1)]).length:Int)
  rw [List.length_append,zgX];simp only [List.length_singleton];omega
 ·show (0:Int)≤((y.en.length:Nat):Int)
  omega
def DSr (n:Nat) (E:List Ent) (rs:Bool) (x y:Dp):Prop:=DSh n E (x.res rs) (y.res rs)
theorem zh7 (d:Dp) (b:Bool):(d.res b).res true=d.res true:=by
 cases b with
 | false=>rfl
 | true=>
  have h:=(zbh d).2.2.1
  unfold Dp.res
  rw [if_pos rfl,if_pos rfl]
  have e:Dp.flush { d.flush with old:= -1,new:= -1,lk:=0 }={ d.flush with old:= -1,new:= -1,lk:=0 }:=by
   unfold Dp.flush
   show (if d.flush.wt=true then _ else _)=_
   rw [h,if_neg (by simp)]
  rw [e]
theorem DSr.up {n:Nat} {E:List Ent} {rs:Bool} {x y:Dp} (h:DSr n E rs x y):DSr n E true x y:=by
 unfold DSr at h ⊢
 have:=h.res true
 rwa [zh7,zh7] at this
theorem DSr.step {n:Nat} {E:List Ent} {x y:Dp} (f:FmY) (h:DSr n E f.rs x y):DSr n E false (x.step (shF n f)) (y.step f):=(DSh.lnk h f.lk).frame f
theorem zr0 (T:List It) (a:As) (i:Int) (x:It):((a.item T i x).2=none∧((a.item T i x).1.rs=a.rs∨(a.item T i x).1.rs=true))∨(∃ f,(a.item T i x).2=some f∧f.rs=a.rs∧(a.item T i x).1.rs=false):=by
 unfold As.item
 split
 ·unfold As.pic
  split
  ·exact .inl ⟨rfl,.inl rfl⟩
  ·split
   ·exact .inr ⟨_,rfl,rfl,rfl⟩
   ·split
    ·exact .inr ⟨_,rfl,rfl,rfl⟩
    ·split<;>exact .inl ⟨rfl,.inl rfl⟩
 ·split
  ·unfold As.seq
   split
   ·exact .inl ⟨rfl,.inl rfl⟩
   ·exact .inl ⟨rfl,.inr rfl⟩
  ·split
   ·unfold As.grp
    split
    ·exact .inl ⟨rfl,.inr rfl⟩
    ·split<;>exact .inl ⟨rfl,.inl rfl⟩
   ·split
    ·exact .inl ⟨rfl,.inr rfl⟩
    ·exact .inl ⟨rfl,.inl rfl⟩
theorem zqg {B T:List It} {E:List Ent}:∀ (r:List It) (i:Nat) (a:As) (x y:Dp),(a.op= -1∨0≤a.op)→DSr B.length E a.rs x y→∃ rs,DSr B.length E rs (dpN (B++T) (shA B.length a) x ((B.length+i:Nat):Int) r) (dpN T a y (i:Int) r)
 | [],_,a,x,y,_,h=>⟨a.rs,h⟩
 | t::r,i,a,x,y,ho,h=>by
  obtain ⟨e1,e2⟩:=zow (B:=B) (T:=T) (i:=i) ho t
  have ei:((B.length+i:Nat):Int)+1=((B.length+(i+1):Nat):Int):=by omega
  have ei2:(i:Int)+1=((i+1:Nat):Int):=by omega
  rw [dpN,dpN,e1,ei,ei2]
  refine zqg r (i+1) _ _ _ e2 ?_
  rcases zr0 T a (i:Int) t with ⟨h1,h2⟩|⟨f,h1,h2,h3⟩
  ·rw [h1]
   show DSr B.length E _ x y
   rcases h2 with h2|h2
   ·rw [h2];exact h
   ·rw [h2];exact h.up
  ·rw [h1,h3]
   exact DSr.step f (by rw [h2];exact h)
theorem zeW (d:Dp) (b:Bool):(d.res b).flush.en=d.flush.en:=by
 cases b with
 | false=>rfl
 | true=>
  have h:=(zbh d).2.2.1
  unfold Dp.res
  rw [if_pos rfl]
  unfold Dp.flush
  show (if d.flush.wt=true then _ else _:Dp).en=_
  rw [h,if_neg (by simp)]
theorem zmz (L:List It):∀ (r t:List It) (a:As) (d:Dp) (i:Int),dpN L a d i (r++t)=dpN L (asN L a i r) (dpN L a d i r) (i+r.length) t
 | [],t,a,d,i=>by simp [dpN,asN]
 | x::r,t,a,d,i=>by
  rw [List.cons_append,dpN,dpN,asN,zmz L r t]
  congr 1
  rw [List.length_cons];omega
theorem zqf {α:Type} {l:List α} {k:Nat} {x:α} {r:List α} (h:l.drop k=x::r):∃ hk:k<l.length,l[k]=x∧l.drop (k+1)=r:=by
 have hk:k<l.length:=by
  rcases Nat.lt_or_ge k l.length with h1|h1
  ·exact h1
  ·rw [List.drop_eq_nil_of_le h1] at h;cases h
 rw [List.drop_eq_getElem_cons hk] at h
 injection h with h1 h2
 exact ⟨hk,h1,h2⟩
theorem zoW {B T:List It} {a:As} {i:Nat} (hi:i<B.length) (ho:a.op= -1∨(0≤a.op∧a.op<i)) (x:It):a.item (B++T) (i:Int) x=a.item B (i:Int) x∧((a.item B (i:Int) x).1.op= -1∨(0≤(a.item B (i:Int) x).1.op∧(a.item B (i:Int) x).1.op<(i+1:Nat))):=by
 have hh:a.op≠-1→hdA (B++T) a.op=hdA B a.op:=fun h=>by
  unfold hdA
  rw [List.getElem?_append_left (by omega)]
 unfold As.item
 split
 ·unfold As.pic
  split
  ·exact ⟨rfl,.inl rfl⟩
  ·split
   ·exact ⟨rfl,.inl rfl⟩
   ·by_cases h1:a.op= -1
    ·have c1:¬(a.op≠-1∧zaW (hdA (B++T) a.op) x.p=true):=fun h=>h.1 h1
     have c2:¬(a.op≠-1∧zaW (hdA B a.op) x.p=true):=fun h=>h.1 h1
     rw [if_neg c1,if_neg c2]
     split
     ·exact ⟨rfl,.inr ⟨by show (0:Int)≤(i:Int);omega,by show (i:Int)<_;omega⟩⟩
     ·exact ⟨rfl,.inl rfl⟩
    ·rw [hh h1]
     refine ⟨rfl,?_⟩
     split
     ·exact .inl rfl
     ·split
      ·exact .inr ⟨by show (0:Int)≤(i:Int);omega,by show (i:Int)<_;omega⟩
      ·exact .inl rfl
 ·refine ⟨rfl,?_⟩
  split
  ·left
   unfold As.seq
   split<;>rfl
  ·split
   ·left
    unfold As.grp
    split
    ·rfl
    ·split<;>rfl
   ·split<;>exact .inl rfl
theorem zlZ {B T:List It}:∀ (r:List It) (i:Nat) (a:As) (d:Dp),B.drop i=r→(a.op= -1∨(0≤a.op∧a.op<i))→dpN (B++T) a d (i:Int) r=dpN B a d (i:Int) r∧asN (B++T) a (i:Int) r=asN B a (i:Int) r
 | [],_,_,_,_,_=>⟨rfl,rfl⟩
 | x::r,i,a,d,hr,ho=>by
  obtain ⟨hi,hx,hr2⟩:=zqf hr
  obtain ⟨e1,e2⟩:=zoW (T:=T) hi ho x
  have ei2:(i:Int)+1=((i+1:Nat):Int):=by omega
  rw [dpN,dpN,asN,asN,e1,ei2]
  exact zlZ r (i+1) _ _ hr2 e2
structure Hd2 (s:Sq) (x y:It):Prop where
 k1:x.k=1
 s1:x.s=s
 v:zbM s=true
 k2:y.k=2
 c:y.gc=true
theorem zmh {s:Sq} {x y:It} (h:Hd2 s x y) (L:List It) (a:As) (d:Dp) (i:Int) (r:List It):dpN L a d i (x::y::r)=dpN L ⟨s,true,-1,true,-1⟩ d (i+1+1) r:=by
 have e1:a.item L i x=(As.seq { a with op:= -1 } s,none):=by
  unfold As.item
  rw [if_neg (by rw [h.k1];decide),if_pos h.k1,h.s1]
 have e2:∀ b:As,b.item L (i+1) y=(As.clr { b with op:= -1 },none):=fun b=>by
  unfold As.item
  rw [if_neg (by rw [h.k2];decide),if_neg (by rw [h.k2];decide),if_pos h.k2,h.c]
  rfl
 rw [dpN,dpN,e1,e2]
 show dpN L _ d _ r=_
 congr 1
 unfold As.seq
 dsimp only
 by_cases he:(a.kn&&sqE a.sq s)=true
 ·rw [if_pos he]
  rw [Bool.and_eq_true] at he
  have e3:=zok he.2
  unfold As.clr
  simp only
  rw [e3,he.1]
 ·rw [if_neg he,h.v]
  rfl
theorem zjh {s:Sq} {x y:It} (h:Hd2 s x y) (B A:List It):zZ (B++x::y::A)=zZ B++(zZ (x::y::A)).map (zdb B.length (zZ B).length):=by
 have e0:dpN (B++x::y::A) (as0 sq0) dp0 0 B=dpN B (as0 sq0) dp0 0 B:=(zlZ (T:=x::y::A) B 0 (as0 sq0) dp0 rfl (.inl rfl)).1
 have e1:dpN (B++x::y::A) (as0 sq0) dp0 0 (B++x::y::A)=dpN (B++x::y::A) ⟨s,true,-1,true,-1⟩ (dpN B (as0 sq0) dp0 0 B) ((B.length+2:Nat):Int) A:=by
  rw [zmz,e0,zmh h]
  congr 1
  omega
 have e2:dpN (x::y::A) (as0 sq0) dp0 0 (x::y::A)=dpN (x::y::A) ⟨s,true,-1,true,-1⟩ dp0 ((2:Nat):Int) A:=zmh h _ _ _ _ _
 have hd:DSr B.length (zZ B) true (dpN B (as0 sq0) dp0 0 B) dp0:=by
  have g0:DInv B (dpN B (as0 sq0) dp0 0 B):=ziI (L:=B) B (as0 sq0) dp0 0 (by simp) (ztr B) (zto B)
  have g:=(zc1 g0).1
  have gw:=(zc1 g0).2
  have gs:=g.sh
  rw [gw,if_neg (by simp)] at gs
  refine ⟨?_,rfl,rfl,gw,rfl,?_,Int.le_refl _,⟨Int.le_refl _,by decide⟩,fun e=>by cases e⟩
  ·show (dpN B (as0 sq0) dp0 0 B).flush.en=dsE _ _ [] false (-1)
   unfold dsE zZ
   simp
  ·show (dpN B (as0 sq0) dp0 0 B).flush.sh=0+((zZ B).length:Int)
   rw [gs]
   unfold zZ
   omega
 obtain ⟨rs,hr⟩:=zqg (B:=B) (T:=x::y::A) A 2 ⟨s,true,-1,true,-1⟩ _ _ (.inl rfl) hd
 have e3:shA B.length ⟨s,true,-1,true,-1⟩=⟨s,true,-1,true,-1⟩:=rfl
 rw [e3,←e1,←e2] at hr
 have:=hr.flush.2
 rw [zeW,zeW] at this
 exact this
def shS (n:Nat) (x:Sho):Sho:={ x with f:=x.f+n,l:=x.l+n }
theorem znb {B T:List It} {e:Ent} {sq:Sq} {hd:Pi} (h:FOk B e.1.f e.1.l sq hd):zbF (B++T) e=zbF B e:=by
 obtain ⟨n,m,hn,hm,e1,e2,_⟩:=h
 unfold zbF
 rw [e1,e2,Int.toNat_natCast,Int.toNat_natCast,List.drop_append_of_le_length (by omega),List.take_append_of_le_length (by rw [List.length_drop];omega)]
theorem zkS {B T:List It} {e:Ent} {m:Nat} (hf:0≤e.1.f) (hl:0≤e.1.l):zbF (B++T) (zdb B.length m e)=zbF T e:=by
 unfold zbF
 show ((((B++T).drop (e.1.f+(B.length:Int)).toNat).take ((e.1.l+(B.length:Int)).toNat+1 - (e.1.f+(B.length:Int)).toNat)).map zdv)=_
 rw [show (e.1.f+(B.length:Int)).toNat=B.length+e.1.f.toNat by omega,List.drop_append,List.drop_of_length_le (by omega),List.nil_append,Nat.add_sub_cancel_left]
 congr 2
 omega
theorem zmx {B T:List It} {E E':List Ent} (h:∀ (j:Nat) (x:Ent),E[j]? =some x→EOk B j x):∀ k,k≤E.length→dvN (B++T) (E++E') k=dvN B E k
 | 0,_=>rfl
 | k+1,hk=>by
  have e:=List.getElem?_eq_getElem (show k<E.length by omega)
  rw [dvN,dvN,zmx h k (by omega),List.getElem?_append_left (by omega),e]
  dsimp only
  unfold shE
  rw [znb (h k _ e).1]
theorem zhz {X Y:List Sho} {n:Nat} {p:Int} (hp: -1≤p∧p<Y.length):(zcP (X++Y.map (shS n)) (shN X.length p)).fr=(zcP Y p).fr∧(zcP (X++Y.map (shS n)) (shN X.length p)).ok=(zcP Y p).ok:=by
 unfold zcP shN
 by_cases h:p<0
 ·rw [if_pos h,if_pos h,if_pos h];exact ⟨rfl,rfl⟩
 ·rw [if_neg h,if_neg h,if_neg (by omega),show (p+(X.length:Int)).toNat=X.length+p.toNat by omega,List.getElem?_append_right (by omega),Nat.add_sub_cancel_left,List.getElem?_map,List.getElem?_eq_getElem (show p.toNat<Y.length by omega)]
  exact ⟨rfl,rfl⟩
def shV (cs:List Cdd) (e:Ent) (a b:Sho):Sho:=
 ⟨(zlc e.2.1 cs a.fr b.fr).1,e.1.f,e.1.l,e.1.ty,((zlc e.2.1 cs a.fr b.fr).2.1&&(decide (e.1.ty=1)||a.ok))&&(!decide (e.1.ty=3)||b.ok),if e.2.2.rp then 3 else 2,e.2.2.tf⟩
theorem zvY (L:List It) (e:Ent) (l:List Sho):shE L e l=shV (zbF L e) e (zcP l e.1.pa) (zcP l e.1.fu):=rfl
theorem ztT {cs:List Cdd} {e:Ent} {a b a' b':Sho} {n m:Nat} (h1:a.fr=a'.fr) (h2:a.ok=a'.ok) (h3:b.fr=b'.fr) (h4:b.ok=b'.ok):shV cs (zdb n m e) a b=shS n (shV cs e a' b'):=by
 unfold shV
 rw [h1,h2,h3,h4]
 rfl
theorem zj5 {B T:List It} {E F:List Ent} (h:∀ (j:Nat) (x:Ent),E[j]? =some x→EOk B j x) (g:∀ (j:Nat) (x:Ent),F[j]? =some x→EOk T j x):∀ j,j≤F.length→dvN (B++T) (E++F.map (zdb B.length E.length)) (E.length+j)=dvN B E E.length++(dvN T F j).map (shS B.length)
 | 0,_=>by rw [Nat.add_zero,zmx h _ (Nat.le_refl _)];simp [dvN]
 | j+1,hj=>by
  have e:=List.getElem?_eq_getElem (show j<F.length by omega)
  have hE:=g j _ e
  have hlX:=zbY B E E.length (Nat.le_refl _)
  have hlY:=zbY T F j (by omega)
  rw [←Nat.add_assoc,dvN,zj5 h g j (by omega),List.getElem?_append_right (by omega),Nat.add_sub_cancel_left,List.getElem?_map,e,dvN,e]
  simp only [Option.map_some,List.map_append,List.map_cons,List.map_nil,List.append_assoc]
  congr 3
  have r1:=zhz (X:=dvN B E E.length) (n:=B.length) (Y:=dvN T F j) (p:=F[j].1.pa) (by rw [hlY];exact hE.2.2.1)
  have r2:=zhz (X:=dvN B E E.length) (n:=B.length) (Y:=dvN T F j) (p:=F[j].1.fu) (by rw [hlY];exact hE.2.2.2.1)
  rw [hlX] at r1 r2
  obtain ⟨n,m,_,_,e1,e2,_⟩:=hE.1
  have hp:=zkS (B:=B) (T:=T) (e:=F[j]) (m:=E.length) (by omega) (by omega)
  show shV (zbF (B++T) (zdb B.length E.length F[j])) (zdb B.length E.length F[j]) _ _=shS B.length (shV (zbF T F[j]) F[j] _ _)
  rw [hp]
  exact ztT r1.1 r1.2 r2.1 r2.2
theorem zmY {L:List It} {es:List Ent} (h:SInv L es):(es.map fun e=>e.1.sh.toNat).Perm (List.range es.length):=by
 refine zgM es.length _ ?_ (fun x hx=> ?_) (by simp)
 ·unfold List.Nodup
  rw [List.pairwise_iff_getElem]
  intro i j hi hj hij
  rw [List.length_map] at hi hj
  rw [List.getElem_map,List.getElem_map]
  intro e
  have h1:=h.s i _ (List.getElem?_eq_getElem hi)
  have h2:=h.s j _ (List.getElem?_eq_getElem hj)
  have:=h.i i j _ _ (List.getElem?_eq_getElem hi) (List.getElem?_eq_getElem hj) (by omega)
  omega
 ·obtain ⟨e,he,rfl⟩:=List.mem_map.1 hx
  obtain ⟨j,hj⟩:=List.getElem?_of_mem he
  have:=h.s j e hj
  omega
theorem zjl {L:List It} {es:List Ent} (h:SInv L es) {p:Nat} (hp:p<es.length):∃ (j:Nat) (e:Ent),es[j]? =some e∧e.1.sh=(p:Int):=by
 have h1:p∈es.map fun e=>e.1.sh.toNat:=(zmY h).mem_iff.2 (List.mem_range.2 hp)
 obtain ⟨e,he,h2⟩:=List.mem_map.1 h1
 obtain ⟨j,hj⟩:=List.getElem?_of_mem he
 have:=h.s j e hj
 exact ⟨j,e,hj,by omega⟩
theorem zcd (L:List It):(za5 L).length=(zZ L).length:=zcA _ _ _
theorem zfW (L:List It) {j:Nat} {e:Ent} (h:(zZ L)[j]? =some e):(za5 L)[e.1.sh.toNat]? =(dvN L (zZ L) (zZ L).length)[j]? :=
 zin (zbB L) _ (Nat.le_refl _) j e (List.getElem?_eq_some_iff.1 h).1 h
theorem zj6 {s:Sq} {x y:It} (h:Hd2 s x y) (B A:List It):za5 (B++x::y::A)=za5 B++(za5 (x::y::A)).map (shS B.length):=by
 have hs:=zjh h B A
 have hB:=zbB B
 have hT:=zbB (x::y::A)
 have hL:=zbB (B++x::y::A)
 generalize hTd:x::y::A=T at *
 have l1:=zcd B
 have l2:=zcd T
 have l3:=zcd (B++T)
 have hlen:(zZ (B++T)).length=(zZ B).length+(zZ T).length:=by rw [hs];simp
 have hd:=zj5 (B:=B) (T:=T) hB.e hT.e (zZ T).length (Nat.le_refl _)
 rw [←hs,←hlen] at hd
 have d1:=zbY B (zZ B) _ (Nat.le_refl _)
 refine List.ext_getElem? fun p=> ?_
 by_cases hp:p<(zZ (B++T)).length
 ·obtain ⟨j,e,he,hsh⟩:=zjl hL hp
  have a1:=zfW (B++T) he
  rw [hsh,Int.toNat_natCast] at a1
  rw [a1,hd]
  have hj:=(List.getElem?_eq_some_iff.1 he).1
  rw [hs] at he
  by_cases hjb:j<(zZ B).length
  ·rw [List.getElem?_append_left hjb] at he
   have a2:=zfW B he
   have:=hB.s j e he
   rw [hsh,Int.toNat_natCast] at a2
   rw [List.getElem?_append_left (by omega),List.getElem?_append_left (by omega),a2]
  ·rw [List.getElem?_append_right (by omega),List.getElem?_map] at he
   obtain ⟨t,ht,hte⟩:=Option.map_eq_some_iff.1 he
   have a2:=zfW T ht
   have b1:=hT.s _ t ht
   have b2:t.1.sh+((zZ B).length:Int)=(p:Int):=by rw [←hsh,←hte];rfl
   rw [List.getElem?_append_right (by omega),List.getElem?_append_right (by omega),d1,l1,List.getElem?_map,List.getElem?_map,←a2]
   congr 2
   omega
 ·rw [List.getElem?_eq_none (by omega),List.getElem?_eq_none (by rw [List.length_append,List.length_map];omega)]
def sqAt (es:List Ent) (n:Int) (s:Sq):Prop:=0≤n→∃ e,es[n.toNat]? =some e∧e.2.1=s
theorem sqAt.neg {es:List Ent} {s:Sq}:sqAt es (-1) s:=fun h=>by omega
theorem sqAt.snoc {es:List Ent} {n:Int} {s:Sq} (h:sqAt es n s) (x:Ent):sqAt (es++[x]) n s:=fun h0=>by
 obtain ⟨e,h1,h2⟩:=h h0
 exact ⟨e,by rw [List.getElem?_append_left (List.getElem?_eq_some_iff.1 h1).1];exact h1,h2⟩
theorem sqAt.mod {es:List Ent} {n:Int} {s:Sq} (h:sqAt es n s) (k:Nat) (v:Int):sqAt (es.modify k (zS v)) n s:=fun h0=>by
 obtain ⟨e,h1,h2⟩:=h h0
 rw [List.getElem?_modify,h1]
 show ∃ x,some (if k=n.toNat then zS v e else e)=some x∧_
 by_cases hk:k=n.toNat
 ·rw [if_pos hk];exact ⟨zS v e,rfl,h2⟩
 ·rw [if_neg hk];exact ⟨e,rfl,h2⟩
def aftE (es:List Ent) (n:Int):Prop:=∀ (j:Nat) (e:Ent),es[j]? =some e→e.1.l<n
theorem aftE.mono {es:List Ent} {n m:Int} (h:aftE es n) (hm:n≤m):aftE es m:=fun j e he=>by have:=h j e he;omega
theorem ziV {es:List Ent} {k:Nat} {v:Int} {j:Nat} {x:Ent} (h:(es.modify k (zS v))[j]? =some x):∃ y,es[j]? =some y∧(x=y∨x=zS v y):=by
 rw [List.getElem?_modify] at h
 cases hy:es[j]? with
 | none=>rw [hy] at h;cases h
 | some y=>
  rw [hy] at h
  refine ⟨y,rfl,?_⟩
  by_cases hk:k=j
  ·subst hk
   simp at h
   exact .inr h.symm
  ·simp [hk] at h
   exact .inl h.symm
theorem aftE.mod {es:List Ent} {n:Int} (h:aftE es n) (k:Nat) (v:Int):aftE (es.modify k (zS v)) n:=fun j e he=>by
 obtain ⟨y,hy,h1|h1⟩:=ziV he
 ·rw [h1];exact h j y hy
 ·rw [h1];exact h j y hy
structure XInv (d:Dp) (s:Sq) (n:Int):Prop where
 old:sqAt d.en d.old s
 new:sqAt d.en d.new s
 q:∀ (j:Nat) (e:Ent),d.en[j]? =some e→sqAt d.en e.1.pa e.2.1∧sqAt d.en e.1.fu e.2.1
 aft:aftE d.en n
 ord:∀ (j k:Nat) (x y:Ent),d.en[j]? =some x→d.en[k]? =some y→j<k→x.1.l<y.1.f
theorem XInv.mono {d:Dp} {s:Sq} {n m:Int} (h:XInv d s n) (hm:n≤m):XInv d s m:=⟨h.old,h.new,h.q,h.aft.mono hm,h.ord⟩
theorem zl9 {en:List Ent} {k:Nat} {v:Int} (h:∀ (j k:Nat) (x y:Ent),en[j]? =some x→en[k]? =some y→j<k→x.1.l<y.1.f):∀ (i j:Nat) (x y:Ent),(en.modify k (zS v))[i]? =some x→(en.modify k (zS v))[j]? =some y→i<j→x.1.l<y.1.f:=fun i j x y hx hy hij=>by
 obtain ⟨a,ha,h1⟩:=ziV hx
 obtain ⟨b,hb,h2⟩:=ziV hy
 have:=h i j a b ha hb hij
 rcases h1 with rfl|rfl<;>rcases h2 with rfl|rfl<;>exact this
theorem ztc {en:List Ent} {k:Nat} {v:Int} (h:∀ (j:Nat) (e:Ent),en[j]? =some e→sqAt en e.1.pa e.2.1∧sqAt en e.1.fu e.2.1):∀ (j:Nat) (e:Ent),(en.modify k (zS v))[j]? =some e→sqAt (en.modify k (zS v)) e.1.pa e.2.1∧sqAt (en.modify k (zS v)) e.1.fu e.2.1:=fun j e he=>by
 obtain ⟨a,ha,h1⟩:=ziV he
 obtain ⟨g1,g2⟩:=h j a ha
 rcases h1 with rfl|rfl
 ·exact ⟨g1.mod _ _,g2.mod _ _⟩
 ·exact ⟨sqAt.mod g1 _ _,sqAt.mod g2 _ _⟩
theorem XInv.flush {d:Dp} {s:Sq} {n:Int} (h:XInv d s n):XInv d.flush s n:=by
 unfold Dp.flush
 split
 ·exact ⟨h.old.mod _ _,h.new.mod _ _,ztc h.q,h.aft.mod _ _,zl9 h.ord⟩
 ·exact h
theorem XInv.res {d:Dp} {s:Sq} {n:Int} (h:XInv d s n) (b:Bool):XInv (d.res b) s n:=by
 unfold Dp.res
 split
 ·have g:=h.flush
  exact ⟨sqAt.neg,sqAt.neg,g.q,g.aft,g.ord⟩
 ·exact h
theorem XInv.any {d:Dp} {s s':Sq} {n:Int} (h:XInv (d.res true) s n):XInv (d.res true) s' n:=⟨sqAt.neg,sqAt.neg,h.q,h.aft,h.ord⟩
theorem XInv.lnk {d:Dp} {s:Sq} {n:Int} (h:XInv d s n) (k:Int):XInv (d.lnk k) s n:=by
 unfold Dp.lnk
 split
 ·exact ⟨h.old,h.new,h.q,h.aft,h.ord⟩
 ·exact h
theorem zjj {en:List Ent} {e:Ent} (h:∀ (j k:Nat) (x y:Ent),en[j]? =some x→en[k]? =some y→j<k→x.1.l<y.1.f) (ha:aftE en e.1.f):∀ (i j:Nat) (x y:Ent),(en++[e])[i]? =some x→(en++[e])[j]? =some y→i<j→x.1.l<y.1.f:=fun i j x y hx hy hij=>by
 rcases zal hx with ⟨b1,b2⟩|⟨b1,b2⟩
 ·rcases zal hy with ⟨c1,c2⟩|⟨c1,c2⟩
  ·exact h i j x y b2 c2 hij
  ·rw [c2];exact ha i x b2
 ·rcases zal hy with ⟨c1,c2⟩|⟨c1,c2⟩<;>omega
theorem zom {en:List Ent} {x:Ent} (h:∀ (j:Nat) (e:Ent),en[j]? =some e→sqAt en e.1.pa e.2.1∧sqAt en e.1.fu e.2.1) (h1:sqAt en x.1.pa x.2.1) (h2:sqAt en x.1.fu x.2.1):∀ (j:Nat) (e:Ent),(en++[x])[j]? =some e→sqAt (en++[x]) e.1.pa e.2.1∧sqAt (en++[x]) e.1.fu e.2.1:=fun j e he=>by
 rcases zal he with ⟨_,b⟩|⟨_,b⟩
 ·exact ⟨(h j e b).1.snoc _,(h j e b).2.snoc _⟩
 ·rw [b];exact ⟨h1.snoc _,h2.snoc _⟩
theorem zjk {en:List Ent} {x:Ent} {n m:Int} (h:aftE en n) (hn:n≤m) (hx:x.1.l<m):aftE (en++[x]) m:=fun j e he=>by
 rcases zal he with ⟨_,b⟩|⟨_,b⟩
 ·have:=h j e b;omega
 ·rw [b];exact hx
theorem XInv.frame {d:Dp} {f:FmY} {n m:Int} (h:XInv d f.sq n) (ha:aftE d.en f.f) (hn:n≤m) (hf:f.l<m):XInv (d.frame f) f.sq m:=by
 unfold Dp.frame
 split
 ·split
  ·exact h.mono hn
  ·refine ⟨(h.old.snoc _).mod _ _,(h.new.snoc _).mod _ _,ztc (zom h.q h.old h.new),(zjk h.aft hn hf).mod _ _,zl9 (zjj h.ord ha)⟩
 ·split
  ·exact h.mono hn
  ·dsimp only
   have g:XInv { d with en:=d.en++[fmE f d.new (-1)] } f.sq m:=⟨h.old.snoc _,h.new.snoc _,zom h.q h.new sqAt.neg,zjk h.aft hn hf,zjj h.ord ha⟩
   have gf:=g.flush
   have hl:sqAt (d.en++[fmE f d.new (-1)]) (d.en.length:Int) f.sq:=fun _=>⟨fmE f d.new (-1),by rw [Int.toNat_natCast];simp,rfl⟩
   refine ⟨gf.new,?_,gf.q,gf.aft,gf.ord⟩
   show sqAt (Dp.flush _).en (d.en.length:Int) f.sq
   unfold Dp.flush
   split
   ·exact hl.mod _ _
   ·exact hl
structure YInv (a:As) (d:Dp) (i:Nat):Prop where
 x:XInv (d.res a.rs) a.sq i
 op:a.op= -1∨(0≤a.op∧a.op<i∧aftE d.en a.op)
theorem zmK {d:Dp} {n:Int} (b:Bool):aftE (d.res b).en n↔aftE d.en n:=by
 have e:∀ d:Dp,aftE d.flush.en n↔aftE d.en n:=fun d=>by
  unfold Dp.flush
  split
  ·refine ⟨fun h j e he=> ?_,fun h=>h.mod _ _⟩
   by_cases hj:d.new.toNat=j
   ·have:=h j (zS d.sh e) (by show (d.en.modify _ _)[j]? =_;rw [List.getElem?_modify,he];show some (if _ then _ else _)=_;rw [if_pos hj])
    exact this
   ·exact h j e (by show (d.en.modify _ _)[j]? =_;rw [List.getElem?_modify,he];show some (if _ then _ else _)=_;rw [if_neg hj])
  ·exact Iff.rfl
 unfold Dp.res
 split
 ·exact e d
 ·exact Iff.rfl
theorem zmS {L:List It} {a:As} {d:Dp} {i:Nat} (h:YInv a d i) (x:It):YInv (a.item L (i:Int) x).1 (d.stepO (a.item L (i:Int) x).2) (i+1):=by
 obtain ⟨hx,ho⟩:=h
 have hi:(i:Int)≤((i+1:Nat):Int):=by omega
 have hd:aftE d.en i:=(zmK a.rs).1 hx.aft
 have no:∀ b:As,b.sq=a.sq→b.rs=a.rs→b.op= -1→YInv b d (i+1):=fun b e1 e2 e3=>⟨by rw [e1,e2];exact hx.mono hi,.inl e3⟩
 have rs:∀ b:As,b.rs=true→b.op= -1→YInv b d (i+1):=fun b e1 e2=>⟨by
  rw [e1]
  have:=hx.res true
  rw [zh7] at this
  exact (this.any).mono hi,.inl e2⟩
 have fr:∀ (b:As) (f:FmY),b.sq=a.sq→b.rs=false→b.op= -1→f.sq=a.sq→f.rs=a.rs→aftE d.en f.f→f.l=(i:Int)→YInv b (d.step f) (i+1):=fun b f e1 e2 e3 e4 e5 e6 e7=>⟨by
  rw [e1,e2,←e4]
  show XInv (Dp.frame _ f) f.sq _
  refine XInv.frame (n:=(i:Int)) ?_ ?_ hi (by omega)
  ·rw [e4,e5];exact hx.lnk _
  ·have:aftE (d.res f.rs).en f.f:=(zmK f.rs).2 e6
   unfold Dp.lnk
   split
   ·exact this
   ·exact this,.inl e3⟩
 unfold As.item
 split
 ·unfold As.pic
  split
  ·exact no _ rfl rfl rfl
  ·split
   ·exact fr _ _ rfl rfl rfl rfl rfl hd rfl
   ·split
    ·rename_i hc
     rcases ho with h1|⟨h1,h2,h3⟩
     ·exact absurd h1 hc.1
     ·exact fr _ _ rfl rfl rfl rfl rfl h3 rfl
    ·split
     ·exact ⟨hx.mono hi,.inr ⟨by show (0:Int)≤(i:Int);omega,by show (i:Int)<_;omega,hd⟩⟩
     ·exact no _ rfl rfl rfl
 ·split
  ·unfold As.seq
   split
   ·exact no _ rfl rfl rfl
   ·exact rs _ rfl rfl
  ·split
   ·unfold As.grp
    split
    ·exact rs _ rfl rfl
    ·split<;>exact no _ rfl rfl rfl
   ·split
    ·exact rs _ rfl rfl
    ·exact no _ rfl rfl rfl
theorem zi6 {L:List It}:∀ (r:List It) (i:Nat) (a:As) (d:Dp),YInv a d i→YInv (asN L a (i:Int) r) (dpN L a d (i:Int) r) (i+r.length)
 | [],i,a,d,h=>h
 | x::r,i,a,d,h=>by
  have e:(i:Int)+1=((i+1:Nat):Int):=by omega
  rw [asN,dpN,e,List.length_cons,show i+(r.length+1)=i+1+r.length by omega]
  exact zi6 r (i+1) _ _ (zmS h x)
theorem zoa (L:List It):(∀ (j:Nat) (e:Ent),(zZ L)[j]? =some e→sqAt (zZ L) e.1.pa e.2.1∧sqAt (zZ L) e.1.fu e.2.1)∧(∀ (j k:Nat) (x y:Ent),(zZ L)[j]? =some x→(zZ L)[k]? =some y→j<k→x.1.l<y.1.f):=by
 have h:=(zi6 (L:=L) L 0 (as0 sq0) dp0 ⟨⟨sqAt.neg,sqAt.neg,fun j e he=>by simp [dp0,as0,Dp.res] at he,fun j e he=>by simp [dp0,as0,Dp.res] at he,fun j k x y he=>by simp [dp0,as0,Dp.res] at he⟩,.inl rfl⟩).x.flush
 have e:(Dp.res (dpN L (as0 sq0) dp0 ((0:Nat):Int) L) (asN L (as0 sq0) ((0:Nat):Int) L).rs).flush.en=zZ L:=zeW (dpN L (as0 sq0) dp0 0 L) (asN L (as0 sq0) 0 L).rs
 have h3:=h.q
 have h5:=h.ord
 rw [e] at h3 h5
 exact ⟨h3,h5⟩
def okR {α:Type}:Rr α→Bool
 | .ok _ _=>true
 | .er _ _=>false
def zvW (s:Sq) (p:Pi) (b:Bool):List (Int×List UInt8)→Nat→Bool
 | [],_=>true
 | u::r,k=>decide (u.1=1+(k:Int))&&(okR (slT s p b u.1 u.2)&&zvW s p b r (k+1))
def zvX (s:Sq) (c:Cdd) (b:Bool):Bool:=decide ((c.us.length:Int)=za2 s c.p)&&zvW s c.p b c.us 0
structure FrS (s:Sq) (f:Fm):Prop where
 m:fmd f=true
 w:f.w=s.w
 h:f.h=s.h
theorem FrS.or {s:Sq} {f:Fm} (h:FrS s f):mOr f s.w s.h=true:=by
 unfold mOr
 rw [h.m,h.w,h.h]
 simp
def RefS (s:Sq) (f:Fm) (n:Prop):Prop:=(f.w=0∨FrS s f)∧(n→FrS s f)
theorem RefS.or {s:Sq} {f:Fm} {n:Prop} (h:RefS s f n):mOr f s.w s.h=true:=by
 rcases h.1 with h1|h1
 ·unfold mOr;simp [h1]
 ·exact h1.or
theorem FrS.pos {s:Sq} {f:Fm} (h:FrS s f):f.w≠0:=by
 have:=h.m
 unfold fmd fsz at this
 simp only [Bool.and_eq_true,decide_eq_true_eq] at this
 omega
def SlOk (L:List It):Prop:=∀ (j:Nat) (e:Ent),(zZ L)[j]? =some e→∀ (i:Nat) (x:It),L[i]? =some x→e.1.f≤i→(i:Int)≤e.1.l→zvX e.2.1 (zdv x) (decide ((i:Int)≠e.1.f))=true
def it0:It:=⟨0,sq0,false,false,0,zt8,[],[],0⟩
def nxI (L:List It) (i:Nat):It:=(L[i+1]?).getD it0
def fitI (L:List It) (i:Nat) (x:It):Bool:=
 if x.k=1 then decide ((nxI L i).k=2) else if x.k=2 then !x.gb&&(decide ((nxI L i).k=3)&&decide ((nxI L i).p.ty=1)) else if x.k=4 then decide (i+1=L.length)||decide ((nxI L i).k=1) else true
def zwg (L:List It):List It→Nat→Bool
 | [],_=>true
 | x::r,i=>fitI L i x&&zwg L r (i+1)
def ordL (L:List It):Bool:=(match L with|[]=>false|x::_=>decide (x.k=1))&&zwg L L 0
def zwS (x:It):Prop:=x.k=2∨x.k=4
instance (x:It):Decidable (zwS x):=inferInstanceAs (Decidable (_∨_))
def sameI (L:List It) (a b:Nat):Prop:=∀ (p:Nat) (x:It),min a b<p→p<max a b→L[p]? =some x→¬ zwS x
theorem sameI.symm {L:List It} {a b:Nat} (h:sameI L a b):sameI L b a:=fun p x h1 h2=>h p x (by omega) (by omega)
def opnI (x:It):Bool:= !decide (x.k=2)&& !decide (x.k=4)
def zwJ (L:List It) (n:Nat):Nat:=n+((L.drop n).takeWhile opnI).length
def toF (es:List Ent) (en fr:Nat):Nat:=fr+((es.drop fr).takeWhile fun e=>decide (e.1.f<(en:Int))).length
def befN (g:List Ent) (e:Ent):Nat:=g.countP fun o=>decide (o.1.sh<e.1.sh)
def grpB (g:List Ent):Bool:=g.all fun e=>decide (e.2.2.od=(befN g e:Int))
def runE (es:List Ent) (fr to:Nat):List Ent:=(es.drop fr).take (to - fr)
def zwi (L:List It) (es:List Ent):Nat→Nat→Bool
 | 0,_=>true
 | n+1,fr=>match es[fr]? with
  | none=>true
  | some e=>grpB (runE es fr (toF es (zwJ L e.1.f.toNat) fr))&&zwi L es n (toF es (zwJ L e.1.f.toNat) fr)
def numB (L:List It) (es:List Ent):Bool:=zwi L es es.length 0
structure EsI (L:List It) (es:List Ent):Prop where
 k:∀ (j:Nat) (e:Ent),es[j]? =some e→∃ x,0≤e.1.f∧L[e.1.f.toNat]? =some x∧x.k=3∧e.2.2=x.p
 o:∀ (i j:Nat) (x y:Ent),es[i]? =some x→es[j]? =some y→i<j→x.1.f<y.1.f
end Go.Proofs.YtjgmdlcjbgiekaaGreatDoor.Sc
