/-
  Parts of the proof, put together in one text. No condition.
-/
import Derived.Test.YtjgmdlcjbgiekaaGreatDoorP08
namespace Go.Proofs.YtjgmdlcjbgiekaaGreatDoor.Sc
set_option linter.all false
open Pm Ty Go.RowKit
theorem ztW {a b:Sq} (h:sqE a b=true):a=b:=by
 obtain ⟨a1,a2,a3,a4,a5,a6,a7,a8,a9⟩:=a
 obtain ⟨b1,b2,b3,b4,b5,b6,b7,b8,b9⟩:=b
 simp only [sqE,sqA,Bool.and_eq_true,beq_iff_eq] at h
 simp_all
def cur (L:List It) (n:Nat):Sq:=(L.take n).foldl (fun q x=>if x.k=1 then x.s else q) sq0
theorem zg4 {L:List It} {n:Nat} (h:n<L.length):cur L (n+1)=if L[n].k=1 then L[n].s else cur L n:=by
 unfold cur
 rw [List.take_succ,List.getElem?_eq_getElem h,List.foldl_append]
 rfl
theorem zgT {L:List It} {n:Nat} (h:n<L.length):hdA L (n:Int)=L[n].p:=by
 unfold hdA
 rw [Int.toNat_natCast,List.getElem?_eq_getElem h]
def FOk (L:List It) (f l:Int) (sq:Sq) (hd:Pi):Prop:=
 ∃ (n m:Nat) (hn:n<L.length) (hm:m<L.length),f=(n:Int)∧l=(m:Int)∧((m=n∧hd.st=3)∨(m=n+1∧zcB hd=true∧zcd hd L[m].p=true∧zM sq L[m].p=true))∧L[n].k=3∧L[m].k=3∧hd=L[n].p∧sq=cur L n∧zM sq hd=true
def zqN (L:List It) (a:As) (i:Nat):Prop:=
 a.sq=cur L i∧(a.op= -1∨∃ (o:Nat) (ho:o<L.length),a.op=(o:Int)∧o+1=i∧L[o].k=3∧zcB L[o].p=true∧zM a.sq L[o].p=true)
theorem zwZ (L:List It):zqN L (as0 sq0) 0:=⟨by unfold cur;rfl,.inl rfl⟩
theorem zny {L:List It} {a:As} {i:Nat} (h:zqN L a i) (hi:i<L.length):zqN L (a.item L (i:Int) L[i]).1 (i+1)∧∀ f,(a.item L (i:Int) L[i]).2=some f→FOk L f.f f.l f.sq f.hd:=by
 obtain ⟨hs,ho⟩:=h
 have hc:=zg4 hi
 have nope:∀ {b:As},b.sq=a.sq→b.op= -1→L[i].k≠1→zqN L b (i+1):=fun h1 h2 h3=>⟨by rw [h1,hs,hc,if_neg h3],.inl h2⟩
 unfold As.item
 by_cases k3:L[i].k=3
 ·rw [if_pos k3]
  have k1:L[i].k≠1:=by omega
  unfold As.pic
  by_cases hv:(a.kn&&zM a.sq L[i].p)=false
  ·rw [if_pos hv]
   exact ⟨nope rfl rfl k1,fun f hf=>by cases hf⟩
  rw [if_neg hv]
  have hv':zM a.sq L[i].p=true:=by
   cases h1:a.kn<;>cases h2:zM a.sq L[i].p<;>simp_all
  by_cases hw:L[i].p.st=3
  ·rw [if_pos hw]
   refine ⟨nope rfl rfl k1,fun f hf=> ?_⟩
   unfold As.cmp at hf
   injection hf with hf
   subst hf
   exact ⟨i,i,hi,hi,rfl,rfl,.inl ⟨rfl,hw⟩,k3,k3,rfl,hs,hv'⟩
  rw [if_neg hw]
  by_cases hp:a.op≠-1∧zcd (hdA L a.op) L[i].p=true
  ·rw [if_pos hp]
   refine ⟨nope rfl rfl k1,fun f hf=> ?_⟩
   unfold As.cmp at hf
   injection hf with hf
   subst hf
   rcases ho with h1|⟨o,hol,e1,e2,e3,e4,e5⟩
   ·exact absurd h1 hp.1
   ·have h2:=hp.2
    rw [e1,zgT hol] at h2
    subst e2
    have ec:cur L (o+1)=cur L o:=by rw [zg4 hol,if_neg (by omega)]
    refine ⟨o,o+1,hol,hi,e1,rfl,.inr ⟨rfl,?_,?_,hv'⟩,e3,k3,?_,hs.trans ec,?_⟩
    ·show zcB (hdA L a.op)=true
     rw [e1,zgT hol];exact e4
    ·show zcd (hdA L a.op) _=true
     rw [e1,zgT hol];exact h2
    ·show hdA L a.op=_
     rw [e1,zgT hol]
    ·show zM a.sq (hdA L a.op)=true
     rw [e1,zgT hol];exact e5
  rw [if_neg hp]
  by_cases hl:zcB L[i].p=true
  ·rw [if_pos hl]
   exact ⟨⟨by show a.sq=_;rw [hs,hc,if_neg k1],.inr ⟨i,hi,rfl,rfl,k3,hl,hv'⟩⟩,fun f hf=>by cases hf⟩
  ·rw [if_neg hl]
   exact ⟨nope rfl rfl k1,fun f hf=>by cases hf⟩
 rw [if_neg k3]
 by_cases k1:L[i].k=1
 ·rw [if_pos k1]
  refine ⟨?_,fun f hf=>by cases hf⟩
  unfold As.seq
  dsimp only
  by_cases he:(a.kn&&sqE a.sq L[i].s)=true
  ·rw [if_pos he]
   rw [Bool.and_eq_true] at he
   exact ⟨by rw [hc,if_pos k1];exact ztW he.2,.inl rfl⟩
  ·rw [if_neg he]
   exact ⟨by rw [hc,if_pos k1],.inl rfl⟩
 rw [if_neg k1]
 by_cases k2:L[i].k=2
 ·rw [if_pos k2]
  refine ⟨?_,fun f hf=>by cases hf⟩
  unfold As.grp
  split
  ·exact nope rfl rfl k1
  ·split<;>exact nope rfl rfl k1
 rw [if_neg k2]
 split
 ·exact ⟨nope rfl rfl k1,fun f hf=>by cases hf⟩
 ·exact ⟨nope rfl rfl k1,fun f hf=>by cases hf⟩
def EOk (L:List It) (j:Nat) (e:Ent):Prop:=FOk L e.1.f e.1.l e.2.1 e.2.2∧e.1.ty=e.2.2.ty∧(-1≤e.1.pa∧e.1.pa<j)∧(-1≤e.1.fu∧e.1.fu<j)∧(e.1.ty=3→0≤e.1.pa∧0≤e.1.fu)∧(e.1.ty=2→0≤e.1.pa)∧(e.1.ty≠3→e.1.fu= -1)
theorem EOk.set {L:List It} {j:Nat} {e:Ent} (h:EOk L j e) (v:Int):EOk L j (zU v e):=h
structure DInv (L:List It) (d:Dp):Prop where
 e:∀ (j:Nat) (x:Ent),d.en[j]? =some x→EOk L j x
 old: -1≤d.old∧d.old<d.en.length
 new: -1≤d.new∧d.new<d.en.length
 wn:d.wt=true→0≤d.new
 sh:d.sh=d.en.length - (if d.wt then 1 else 0)
 s:∀ (j:Nat) (x:Ent),d.en[j]? =some x→(d.wt=true∧(j:Int)=d.new)∨(0≤x.1.sh∧x.1.sh<d.sh)
 i:∀ (j k:Nat) (x y:Ent),d.en[j]? =some x→d.en[k]? =some y→¬(d.wt=true∧(j:Int)=d.new)→¬(d.wt=true∧(k:Int)=d.new)→x.1.sh=y.1.sh→j=k
theorem zwM (L:List It):DInv L dp0:=⟨fun j x h=>by simp [dp0] at h,by simp [dp0],by simp [dp0],fun h=>by simp [dp0] at h,by simp [dp0],fun j x h=>by simp [dp0] at h,fun j k x y h=>by simp [dp0] at h⟩
theorem zfh {L:List It} {en:List Ent} {n:Nat} {sh:Int} {w:Nat→Prop} (hwn:¬ w n) (hsn:0≤sh) (he:∀ (j:Nat) (x:Ent),en[j]? =some x→EOk L j x)
  (hs:∀ (j:Nat) (x:Ent),en[j]? =some x→j=n∨w j∨(0≤x.1.sh∧x.1.sh<sh)) (hi:∀ (j k:Nat) (x y:Ent),en[j]? =some x→en[k]? =some y→j≠n→k≠n→¬ w j→¬ w k→x.1.sh=y.1.sh→j=k):
  (∀ (j:Nat) (x:Ent),(en.modify n (zU sh))[j]? =some x→EOk L j x)∧(∀ (j:Nat) (x:Ent),(en.modify n (zU sh))[j]? =some x→w j∨(0≤x.1.sh∧x.1.sh<sh+1))∧(∀ (j k:Nat) (x y:Ent),(en.modify n (zU sh))[j]? =some x→(en.modify n (zU sh))[k]? =some y→¬ w j→¬ w k→x.1.sh=y.1.sh→j=k):=by
 have at1:∀ (j:Nat) (x:Ent),(en.modify n (zU sh))[j]? =some x→∃ y,en[j]? =some y∧((j=n∧x=zU sh y)∨(j≠n∧x=y)):=fun j x h=>by
  rw [List.getElem?_modify] at h
  cases hy:en[j]? with
  | none=>rw [hy] at h;cases h
  | some y=>
   rw [hy] at h
   refine ⟨y,rfl,?_⟩
   by_cases hj:n=j
   ·subst hj
    simp at h
    exact .inl ⟨rfl,h.symm⟩
   ·simp [hj] at h
    exact .inr ⟨fun e=>hj e.symm,h.symm⟩
 refine ⟨fun j x h=> ?_,fun j x h=> ?_,fun j k x y hx hy wj wk hxy=> ?_⟩
 ·obtain ⟨y,hy,h1|h1⟩:=at1 j x h
  ·rw [h1.2];exact (he j y hy).set sh
  ·rw [h1.2];exact he j y hy
 ·obtain ⟨y,hy,h1|h1⟩:=at1 j x h
  ·rw [h1.2];right;show 0≤sh∧sh<sh+1;omega
  ·rcases hs j y hy with h2|h2|h2
   ·exact absurd h2 h1.1
   ·exact .inl h2
   ·rw [h1.2];right;omega
 ·obtain ⟨x',hx',a1|a1⟩:=at1 j x hx
  ·obtain ⟨y',hy',b1|b1⟩:=at1 k y hy
   ·rw [a1.1,b1.1]
   ·exfalso
    rcases hs k y' hy' with h2|h2|h2
    ·exact b1.1 h2
    ·exact wk h2
    ·rw [a1.2,b1.2] at hxy
     have:sh=y'.1.sh:=hxy
     omega
  ·obtain ⟨y',hy',b1|b1⟩:=at1 k y hy
   ·exfalso
    rcases hs j x' hx' with h2|h2|h2
    ·exact a1.1 h2
    ·exact wj h2
    ·rw [a1.2,b1.2] at hxy
     have:x'.1.sh=sh:=hxy
     omega
   ·rw [a1.2,b1.2] at hxy
    exact hi j k x' y' hx' hy' a1.1 b1.1 wj wk hxy
theorem zg3 {L:List It} {d:Dp} (h:DInv L d):DInv L d.flush∧d.flush.wt=false:=by
 unfold Dp.flush
 cases hw:d.wt with
 | false=>rw [if_neg (by simp)];exact ⟨h,hw⟩
 | true=>
  rw [if_pos rfl]
  refine ⟨?_,rfl⟩
  have hn:=h.new
  have hn0:=h.wn hw
  have hsh:=h.sh
  rw [hw,if_pos rfl] at hsh
  obtain ⟨g1,g2,g3⟩:=zfh (L:=L) (en:=d.en) (n:=d.new.toNat) (sh:=d.sh) (w:=fun _=>False) (fun h=>h) (by omega) h.e (fun j x hx=>by
   rcases h.s j x hx with h1|h1
   ·exact .inl (by omega)
   ·exact .inr (.inr h1)) (fun j k x y hx hy h1 h2 _ _ h3=>h.i j k x y hx hy (fun h4=>h1 (by omega)) (fun h4=>h2 (by omega)) h3)
  have hl:(d.en.modify d.new.toNat (zU d.sh)).length=d.en.length:=by simp
  refine ⟨g1,?_,?_,fun h=>(by cases h),?_,fun j x hx=>.inr ?_,fun j k x y hx hy _ _ h3=>g3 j k x y hx hy (fun h=>h) (fun h=>h) h3⟩
  ·show -1≤d.old∧d.old<((d.en.modify d.new.toNat (zU d.sh)).length:Int)
   rw [hl];exact h.old
  ·show -1≤d.new∧d.new<((d.en.modify d.new.toNat (zU d.sh)).length:Int)
   rw [hl];exact h.new
  ·show d.sh+1=((d.en.modify d.new.toNat (zU d.sh)).length:Int) - (if false=true then 1 else 0)
   rw [hl,if_neg (by simp)];omega
  ·rcases g2 j x hx with h1|h1
   ·cases h1
   ·exact h1
theorem zqi {L:List It} {d:Dp} (h:DInv L d) (rs:Bool) (lk:Int):DInv L ((d.res rs).lnk lk):=by
 have h1:DInv L (d.res rs):=by
  unfold Dp.res
  cases rs with
  | false=>rw [if_neg (by simp)];exact h
  | true=>
   rw [if_pos rfl]
   obtain ⟨g,gw⟩:=zg3 h
   refine ⟨g.e,⟨Int.le_refl _,by show (-1:Int)<_;omega⟩,⟨Int.le_refl _,by show (-1:Int)<_;omega⟩,fun e=> ?_,?_,fun j x hx=> ?_,fun j k x y hx hy _ _ h3=> ?_⟩
   ·have e':d.flush.wt=true:=e
    rw [gw] at e';cases e'
   ·exact g.sh
   ·rcases g.s j x hx with h1|h1
    ·rw [gw] at h1;cases h1.1
    ·exact .inr h1
   ·exact g.i j k x y hx hy (by rw [gw];simp) (by rw [gw];simp) h3
 unfold Dp.lnk
 split
 ·exact ⟨h1.e,h1.old,h1.new,h1.wn,h1.sh,h1.s,h1.i⟩
 ·exact h1
theorem zao {α:Type} {l:List α} {a x:α} {j:Nat} (h:(l++[a])[j]? =some x):(j<l.length∧l[j]? =some x)∨(j=l.length∧x=a):=by
 by_cases hj:j<l.length
 ·rw [List.getElem?_append_left hj] at h
  exact .inl ⟨hj,h⟩
 ·rw [List.getElem?_append_right (by omega)] at h
  cases hk:j - l.length with
  | zero=>
   rw [hk] at h
   simp at h
   exact .inr ⟨by omega,h.symm⟩
  | succ k=>rw [hk] at h;simp at h
theorem zle {L:List It} {d:Dp} {f:FmY} (h:DInv L d) (hf:FOk L f.f f.l f.sq f.hd):DInv L (d.frame f):=by
 have ho:=h.old
 have hn:=h.new
 have hsh:=h.sh
 unfold Dp.frame
 by_cases h3:f.hd.ty=3
 ·rw [if_pos h3]
  by_cases hc:d.lk≠0∨d.old= -1∨d.new= -1
  ·rw [if_pos hc];exact h
  rw [if_neg hc]
  have ho0:0≤d.old:=by omega
  have hn0:0≤d.new:=by omega
  obtain ⟨g1,g2,g3⟩:=zfh (L:=L) (en:=d.en++[fmE f d.old d.new]) (n:=d.en.length) (sh:=d.sh) (w:=fun j=>d.wt=true∧(j:Int)=d.new) (fun h=>by omega) (by rw [hsh];split<;>omega)
   (fun j x hx=>by
    rcases zao hx with ⟨_,h1⟩|⟨h1,h2⟩
    ·exact h.e j x h1
    ·rw [h2,h1]
     exact ⟨hf,rfl,⟨by show -1≤d.old;omega,by show d.old<_;omega⟩,⟨by show -1≤d.new;omega,by show d.new<_;omega⟩,fun _=>⟨ho0,hn0⟩,fun _=>ho0,fun e=>absurd h3 e⟩)
   (fun j x hx=>by
    rcases zao hx with ⟨_,h1⟩|⟨h1,h2⟩
    ·rcases h.s j x h1 with h2|h2
     ·exact .inr (.inl h2)
     ·exact .inr (.inr h2)
    ·exact .inl h1)
   (fun j k x y hx hy j1 k1 wj wk hxy=>by
    rcases zao hx with ⟨_,h1⟩|⟨h1,_⟩
    ·rcases zao hy with ⟨_,h2⟩|⟨h2,_⟩
     ·exact h.i j k x y h1 h2 wj wk hxy
     ·exact absurd h2 k1
    ·exact absurd h1 j1)
  have hl:((d.en++[fmE f d.old d.new]).modify d.en.length (zU d.sh)).length=d.en.length+1:=by simp
  refine ⟨?_,?_,?_,h.wn,?_,?_,?_⟩
  ·intro j x hx
   exact g1 j x (by simpa [Dp.show] using hx)
  ·show -1≤d.old∧d.old<(((d.en++[fmE f d.old d.new]).modify ((d.en.length:Nat):Int).toNat (zU d.sh)).length:Int)
   rw [Int.toNat_natCast,hl];omega
  ·show -1≤d.new∧d.new<(((d.en++[fmE f d.old d.new]).modify ((d.en.length:Nat):Int).toNat (zU d.sh)).length:Int)
   rw [Int.toNat_natCast,hl];omega
  ·show d.sh+1=(((d.en++[fmE f d.old d.new]).modify ((d.en.length:Nat):Int).toNat (zU d.sh)).length:Int) - (if d.wt=true then 1 else 0)
   rw [Int.toNat_natCast,hl,hsh];split<;>omega
  ·intro j x hx
   exact g2 j x (by simpa [Dp.show] using hx)
  ·intro j k x y hx hy wj wk hxy
   exact g3 j k x y (by simpa [Dp.show] using hx) (by simpa [Dp.show] using hy) wj wk hxy
 rw [if_neg h3]
 by_cases hc:f.hd.ty=2∧d.new= -1
 ·rw [if_pos hc];exact h
 rw [if_neg hc]
 have hE:EOk L d.en.length (fmE f d.new (-1)):=⟨hf,rfl,⟨by show -1≤d.new;omega,by show d.new<_;omega⟩,⟨Int.le_refl _,by show (-1:Int)<_;omega⟩,fun e=>absurd e h3,fun e=>by
  have e':f.hd.ty=2:=e
  show 0≤d.new
  by_cases h1:d.new= -1
  ·exact absurd ⟨e',h1⟩ hc
  ·omega,fun _=>rfl⟩
 have hall:∀ (j:Nat) (x:Ent),(d.en++[fmE f d.new (-1)])[j]? =some x→EOk L j x:=fun j x hx=>by
  rcases zao hx with ⟨_,h1⟩|⟨h1,h2⟩
  ·exact h.e j x h1
  ·rw [h2,h1];exact hE
 dsimp only
 cases hw:d.wt with
 | false=>
  have e:Dp.flush { d with en:=d.en++[fmE f d.new (-1)] }={ d with en:=d.en++[fmE f d.new (-1)] }:=by
   unfold Dp.flush
   show (if d.wt=true then _ else _)=_
   rw [hw,if_neg (by simp)]
  rw [hw] at e
  rw [e]
  rw [hw,if_neg (by simp)] at hsh
  refine ⟨hall,?_,?_,fun _=> ?_,?_,?_,?_⟩
  ·show -1≤d.new∧d.new<((d.en++[fmE f d.new (-1)]).length:Int)
   rw [List.length_append];simp only [List.length_cons,List.length_nil];omega
  ·show (-1:Int)≤(d.en.length:Int)∧(d.en.length:Int)<((d.en++[fmE f d.new (-1)]).length:Int)
   rw [List.length_append];simp only [List.length_cons,List.length_nil];omega
  ·show (0:Int)≤(d.en.length:Int);omega
  ·show d.sh=((d.en++[fmE f d.new (-1)]).length:Int) - (if true=true then 1 else 0)
   rw [List.length_append,if_pos rfl];simp only [List.length_cons,List.length_nil];omega
  ·intro j x hx
   rcases zao hx with ⟨_,h1⟩|⟨h1,_⟩
   ·rcases h.s j x h1 with h2|h2
    ·rw [hw] at h2;cases h2.1
    ·exact .inr h2
   ·exact .inl ⟨rfl,by show (j:Int)=(d.en.length:Int);omega⟩
  ·intro j k x y hx hy wj wk hxy
   rcases zao hx with ⟨_,h1⟩|⟨h1,_⟩
   ·rcases zao hy with ⟨_,h2⟩|⟨h2,_⟩
    ·exact h.i j k x y h1 h2 (by rw [hw];simp) (by rw [hw];simp) hxy
    ·exact absurd ⟨rfl,by show (k:Int)=(d.en.length:Int);omega⟩ wk
   ·exact absurd ⟨rfl,by show (j:Int)=(d.en.length:Int);omega⟩ wj
 | true=>
  have hn0:=h.wn hw
  rw [hw,if_pos rfl] at hsh
  have e:Dp.flush { d with en:=d.en++[fmE f d.new (-1)] }={ d with en:=(d.en++[fmE f d.new (-1)]).modify d.new.toNat (zU d.sh),sh:=d.sh+1,wt:=false }:=by
   unfold Dp.flush
   show (if d.wt=true then _ else _)=_
   rw [hw,if_pos rfl]
   rfl
  rw [hw] at e
  rw [e]
  obtain ⟨g1,g2,g3⟩:=zfh (L:=L) (en:=d.en++[fmE f d.new (-1)]) (n:=d.new.toNat) (sh:=d.sh) (w:=fun j=>j=d.en.length) (by show ¬ d.new.toNat=d.en.length;omega) (by omega) hall
   (fun j x hx=>by
    rcases zao hx with ⟨_,h1⟩|⟨h1,_⟩
    ·rcases h.s j x h1 with h2|h2
     ·exact .inl (by omega)
     ·exact .inr (.inr h2)
    ·exact .inr (.inl h1))
   (fun j k x y hx hy j1 k1 wj wk hxy=>by
    rcases zao hx with ⟨_,h1⟩|⟨h1,_⟩
    ·rcases zao hy with ⟨_,h2⟩|⟨h2,_⟩
     ·exact h.i j k x y h1 h2 (fun h4=>j1 (by omega)) (fun h4=>k1 (by omega)) hxy
     ·exact absurd h2 wk
    ·exact absurd h1 wj)
  have hl:((d.en++[fmE f d.new (-1)]).modify d.new.toNat (zU d.sh)).length=d.en.length+1:=by simp
  refine ⟨g1,?_,?_,fun _=> ?_,?_,?_,?_⟩
  ·show -1≤d.new∧d.new<(((d.en++[fmE f d.new (-1)]).modify d.new.toNat (zU d.sh)).length:Int)
   rw [hl];omega
  ·show (-1:Int)≤(d.en.length:Int)∧(d.en.length:Int)<(((d.en++[fmE f d.new (-1)]).modify d.new.toNat (zU d.sh)).length:Int)
   rw [hl];omega
  ·show (0:Int)≤(d.en.length:Int);omega
  ·show d.sh+1=(((d.en++[fmE f d.new (-1)]).modify d.new.toNat (zU d.sh)).length:Int) - (if true=true then 1 else 0)
   rw [hl,if_pos rfl];omega
  ·intro j x hx
   rcases g2 j x hx with h1|h1
   ·exact .inl ⟨rfl,by show (j:Int)=(d.en.length:Int);omega⟩
   ·exact .inr h1
  ·intro j k x y hx hy wj wk hxy
   exact g3 j k x y hx hy (fun e=>wj ⟨rfl,by show (j:Int)=(d.en.length:Int);omega⟩) (fun e=>wk ⟨rfl,by show (k:Int)=(d.en.length:Int);omega⟩) hxy
structure SInv (L:List It) (es:List Ent):Prop where
 e:∀ (j:Nat) (x:Ent),es[j]? =some x→EOk L j x
 s:∀ (j:Nat) (x:Ent),es[j]? =some x→0≤x.1.sh∧x.1.sh<es.length
 i:∀ (j k:Nat) (x y:Ent),es[j]? =some x→es[k]? =some y→x.1.sh=y.1.sh→j=k
theorem zmp {L:List It}:∀ (l:List It) (a:As) (d:Dp) (i:Nat),L.drop i=l→zqN L a i→DInv L d→DInv L (dpN L a d (i:Int) l)
 | [],_,d,_,_,_,hd=>hd
 | x::r,a,d,i,hl,ha,hd=>by
  have hi:i<L.length:=by
   rcases Nat.lt_or_ge i L.length with h|h
   ·exact h
   ·rw [List.drop_of_length_le h] at hl;cases hl
  rw [List.drop_eq_getElem_cons hi] at hl
  injection hl with h1 h2
  obtain ⟨g1,g2⟩:=zny ha hi
  rw [h1] at g1 g2
  rw [dpN]
  have e:(i:Int)+1=((i+1:Nat):Int):=by omega
  rw [e]
  refine zmp r _ _ (i+1) h2 g1 ?_
  cases hf:(a.item L (i:Int) x).2 with
  | none=>exact hd
  | some f=>exact zle (zqi hd f.rs f.lk) (g2 f hf)
theorem zgj (L:List It):SInv L (zbj L):=by
 have h:DInv L (dpN L (as0 sq0) dp0 0 L):=zmp L (as0 sq0) dp0 0 (by simp) (zwZ L) (zwM L)
 obtain ⟨g,gw⟩:=zg3 h
 have hs:=g.sh
 rw [gw,if_neg (by simp)] at hs
 refine ⟨g.e,fun j x hx=> ?_,fun j k x y hx hy h3=>g.i j k x y hx hy (by rw [gw];simp) (by rw [gw];simp) h3⟩
 rcases g.s j x hx with h1|h1
 ·rw [gw] at h1;cases h1.1
 ·have:((zbj L).length:Int)=(Dp.flush (dpN L (as0 sq0) dp0 0 L)).en.length:=rfl
  omega
structure Cx where
 t:Int
 s:Int
 i:Bool
 n:Bool
def cxc (c:Cx):List PV:=[.int .i64 c.t,.int .i64 c.s,.bool c.i,.bool c.n]
def vcx (c:Cx):Bool:=decide (1≤c.t)&&(decide (c.t≤3)&&(decide (1≤c.s)&&(decide (c.s≤3)&&(if c.s=3 then !c.n else c.i))))
def fcx (c:Cx):Bool:=decide (c.s≠3)
def bcx (c:Cx):Bool:=c.i&&decide (c.s=3)
structure Mb where
 k:Int
 ua:Bool
 ub:Bool
 fp:Bool
 fd:Bool
 va:Int
 vb:Int
 vc:Int
 vd:Int
 ve:Int
 vf:Int
 vg:Int
 vh:Int
 sa:Int
 sb:Int
 sc:Int
 sd:Int
 dl:Int
 ca:Bool
 cb:Bool
 cc:Bool
 cd:Bool
 ce:Bool
 cf:Bool
 lv:List Int
def mbc (m:Mb):List PV:=.int .i64 m.k:: .bool m.ua:: .bool m.ub:: .bool m.fp:: .bool m.fd:: .int .i64 m.va:: .int .i64 m.vb:: .int .i64 m.vc:: .int .i64 m.vd:: .int .i64 m.ve:: .int .i64 m.vf:: .int .i64 m.vg:: .int .i64 m.vh:: .int .i64 m.sa:: .int .i64 m.sb:: .int .i64 m.sc:: .int .i64 m.sd:: .int .i64 m.dl:: .bool m.ca:: .bool m.cb:: .bool m.cc:: .bool m.cd:: .bool m.ce:: .bool m.cf::is m.lv
def mB (m:Mb):Blk:=⟨154,0,mbc m⟩
def ziX (m:Mb):Bool:=m.ca||(m.cb||(m.cc||(m.cd||(m.ce||m.cf))))
def hlM (m:Mb):Bool:=decide (m.k=1)||ziX m
def win (x n:Int):Bool:=decide (-n≤x)&&decide (x≤n)
def fch (c:Cx) (m:Mb):Bool:=if hlM m then (bcx c|| !m.fd)&&win m.dl 30 else !m.fd&&decide (m.dl=0)
theorem zkm (c:Cx) (H:za):CallOk Tryz.prog 182 [.agg (cxc c)] H (.bool (vcx c)) H:=by
 obtain ⟨t,s,i,n⟩:=c
 refine CallOk.body (F0:=[(0,.agg [.int .i64 t,.int .i64 s,.bool i,.bool n])]) Tryz.func182 rfl Tryz.ntmps182 Tryz.results182 rfl (by kernel_rfl) rfl ?_
 (repeat' (first|refine PW.seq ?_|refine PW.skip ?_|refine PW.block ?_|((first|refine PW.rg rfl fun K hK=> ?_|refine PW.draw mix (by kernel_rfl) fun K hK=> ?_);simp (disch:=omega) only [go_sem,↓reduceIte,reduceCtorEq])|((first|refine zk ?_ ?_|refine zn ?_ ?_|refine And.intro ?_ ?_)<;>intro h<;>(try simp only [nqb] at h)<;>simp (disch:=omega) only [go_sem,↓reduceIte,reduceCtorEq,h])|(refine hK _ _ ?_;clear hK K)|(refine PW.cond (t:=_) rfl (fun h=> ?_) (fun h=> ?_)<;>(try (cases h;done))<;>(try simp only [nqb] at h))))
 all_goals ((refine PW.ret ⟨_,rfl,?_⟩;first|refine .inl ⟨?_,rfl⟩|refine Fin.base (.id' ?_ (.bool _))|refine Fin.base (.id' ?_ (.int _ _)));(simp_all [vcx,slot,Nat.beq]<;>first|rfl|omega|(rw [Bool.eq_iff_iff];simp;done)|(rw [Bool.eq_iff_iff];simp;omega)))
theorem zlc (c:Cx) (H:za):CallOk Tryz.prog 215 [.agg (cxc c)] H (.bool (fcx c)) H:=by
 obtain ⟨t,s,i,n⟩:=c
 refine CallOk.body (F0:=[(0,.agg [.int .i64 t,.int .i64 s,.bool i,.bool n])]) Tryz.func215 rfl Tryz.ntmps215 Tryz.results215 rfl (by kernel_rfl) rfl ?_
 (repeat' (first|refine PW.seq ?_|refine PW.skip ?_|refine PW.block ?_|((first|refine PW.rg rfl fun K hK=> ?_|refine PW.draw mix (by kernel_rfl) fun K hK=> ?_);simp (disch:=omega) only [go_sem,↓reduceIte,reduceCtorEq])|((first|refine zk ?_ ?_|refine zn ?_ ?_|refine And.intro ?_ ?_)<;>intro h<;>(try simp only [nqb] at h)<;>simp (disch:=omega) only [go_sem,↓reduceIte,reduceCtorEq,h])|(refine hK _ _ ?_;clear hK K)|(refine PW.cond (t:=_) rfl (fun h=> ?_) (fun h=> ?_)<;>(try (cases h;done))<;>(try simp only [nqb] at h))))
 all_goals ((refine PW.ret ⟨_,rfl,?_⟩;first|refine .inl ⟨?_,rfl⟩|refine Fin.base (.id' ?_ (.bool _))|refine Fin.base (.id' ?_ (.int _ _)));(simp_all [fcx,slot,Nat.beq]<;>first|rfl|omega|(rw [Bool.eq_iff_iff];simp;done)|(rw [Bool.eq_iff_iff];simp;omega)))
theorem ziP (c:Cx) (H:za):CallOk Tryz.prog 259 [.agg (cxc c)] H (.bool (bcx c)) H:=by
 obtain ⟨t,s,i,n⟩:=c
 refine CallOk.body (F0:=[(0,.agg [.int .i64 t,.int .i64 s,.bool i,.bool n])]) Tryz.func259 rfl Tryz.ntmps259 Tryz.results259 rfl (by kernel_rfl) rfl ?_
 (repeat' (first|refine PW.seq ?_|refine PW.skip ?_|refine PW.block ?_|((first|refine PW.rg rfl fun K hK=> ?_|refine PW.draw mix (by kernel_rfl) fun K hK=> ?_);simp (disch:=omega) only [go_sem,↓reduceIte,reduceCtorEq])|((first|refine zk ?_ ?_|refine zn ?_ ?_|refine And.intro ?_ ?_)<;>intro h<;>(try simp only [nqb] at h)<;>simp (disch:=omega) only [go_sem,↓reduceIte,reduceCtorEq,h])|(refine hK _ _ ?_;clear hK K)|(refine PW.cond (t:=_) rfl (fun h=> ?_) (fun h=> ?_)<;>(try (cases h;done))<;>(try simp only [nqb] at h))))
 all_goals ((refine PW.ret ⟨_,rfl,?_⟩;first|refine .inl ⟨?_,rfl⟩|refine Fin.base (.id' ?_ (.bool _))|refine Fin.base (.id' ?_ (.int _ _)));(simp_all [bcx,slot,Nat.beq]<;>first|rfl|omega|(rw [Bool.eq_iff_iff];simp;done)|(rw [Bool.eq_iff_iff];simp;omega)))
theorem zda (x n:Int) (H:za) (hn:0≤n∧n≤10000):CallOk Tryz.prog 255 [.int .i64 x,.int .i64 n] H (.bool (win x n)) H:=by
 refine CallOk.body (F0:=[(0,.int .i64 x),(1,.int .i64 n)]) Tryz.func255 rfl Tryz.ntmps255 Tryz.results255 rfl (by kernel_rfl) rfl ?_
 (repeat' (first|refine PW.seq ?_|refine PW.skip ?_|refine PW.block ?_|((first|refine PW.rg rfl fun K hK=> ?_|refine PW.draw mix (by kernel_rfl) fun K hK=> ?_);simp (disch:=omega) only [go_sem,↓reduceIte,reduceCtorEq])|((first|refine zk ?_ ?_|refine zn ?_ ?_|refine And.intro ?_ ?_)<;>intro h<;>(try simp only [nqb] at h)<;>simp (disch:=omega) only [go_sem,↓reduceIte,reduceCtorEq,h])|(refine hK _ _ ?_;clear hK K)|(refine PW.cond (t:=_) rfl (fun h=> ?_) (fun h=> ?_)<;>(try (cases h;done))<;>(try simp only [nqb] at h))))
 all_goals ((refine PW.ret ⟨_,rfl,?_⟩;first|refine .inl ⟨?_,rfl⟩|refine Fin.base (.id' ?_ (.bool _))|refine Fin.base (.id' ?_ (.int _ _)));(simp_all [win,slot,Nat.beq]<;>first|rfl|omega|(rw [Bool.eq_iff_iff];simp;done)|(rw [Bool.eq_iff_iff];simp;omega)))
def vrg (x y:Int):Bool:=win x 63&&win y 63
theorem zga (x y:Int) (H:za):CallOk Tryz.prog 256 [.agg [.int .i64 x,.int .i64 y]] H (.bool (vrg x y)) H:=by
 refine CallOk.body (F0:=[(0,.agg [.int .i64 x,.int .i64 y])]) Tryz.func256 rfl Tryz.ntmps256 Tryz.results256 rfl (by kernel_rfl) rfl ?_
 (repeat' (first|refine PW.seq ?_|refine PW.skip ?_|refine PW.block ?_|((first|refine PW.rg rfl fun K hK=> ?_|refine PW.draw mix (by kernel_rfl) fun K hK=> ?_);simp (disch:=omega) only [go_sem,↓reduceIte,reduceCtorEq])|((first|refine zk ?_ ?_|refine zn ?_ ?_|refine And.intro ?_ ?_)<;>intro h<;>(try simp only [nqb] at h)<;>simp (disch:=omega) only [go_sem,↓reduceIte,reduceCtorEq,h])|((first|refine VCx.call (zda x 63 _ (by omega)) rfl ?_|refine VCx.call (zda y 63 _ (by omega)) rfl ?_|refine VCy.call (zda x 63 _ (by omega)) rfl ?_|refine VCy.call (zda y 63 _ (by omega)) rfl ?_);simp (disch:=omega) only [go_sem,↓reduceIte,reduceCtorEq])|(refine hK _ _ ?_;clear hK K)|(refine PW.cond (t:=_) rfl (fun h=> ?_) (fun h=> ?_)<;>(try (cases h;done))<;>(try simp only [nqb] at h))))
 all_goals ((refine PW.ret ⟨_,rfl,?_⟩;first|refine .inl ⟨?_,rfl⟩|refine Fin.base (.id' ?_ (.bool _))|refine Fin.base (.id' ?_ (.int _ _)));(simp_all [vrg,slot,Nat.beq]<;>first|rfl|omega|(rw [Bool.eq_iff_iff];simp;done)|(rw [Bool.eq_iff_iff];simp;omega)))
theorem zwx (m:Mb) (i:Nat) (H:za) (hi:H[i]? =some (mB m)):CallOk Tryz.prog 285 [.ptr i 0 0] H (.bool (hlM m)) H:=by
 obtain ⟨k,ua,ub,fp,fd,va,vb,vc,vd,ve,vf,vg,vh,sa,sb,sc,sd,dl,ca,cb,cc,cd,ce,cf,lv⟩:=m
 simp only [mB,mbc] at hi
 refine CallOk.body (F0:=[(0,.ptr i 0 0)]) Tryz.func285 rfl Tryz.ntmps285 Tryz.results285 rfl (by kernel_rfl) rfl ?_
 (repeat' (first|refine PW.seq ?_|refine PW.skip ?_|refine PW.block ?_|((first|refine PW.rg rfl fun K hK=> ?_|refine PW.draw mix (by kernel_rfl) fun K hK=> ?_);simp (disch:=omega) only [go_sem,↓reduceIte,reduceCtorEq,hi])|((first|refine zk ?_ ?_|refine zn ?_ ?_|refine And.intro ?_ ?_)<;>intro h<;>(try simp only [nqb] at h)<;>simp (disch:=omega) only [go_sem,↓reduceIte,reduceCtorEq,hi,h])|(refine hK _ _ ?_;clear hK K)|(refine PW.cond (t:=_) rfl (fun h=> ?_) (fun h=> ?_)<;>(try (cases h;done))<;>(try simp only [nqb] at h))))
 all_goals ((refine PW.ret ⟨_,rfl,?_⟩;first|refine .inl ⟨?_,rfl⟩|refine Fin.base (.id' ?_ (.bool _))|refine Fin.base (.id' ?_ (.int _ _)));clear hi;cases ca<;>cases cb<;>cases cc<;>cases cd<;>cases ce<;>cases cf<;>(simp_all [hlM,ziX,slot,Nat.beq]<;>first|rfl|omega|(rw [Bool.eq_iff_iff];simp;done)|(rw [Bool.eq_iff_iff];simp;omega)))
theorem zkw (c:Cx) (m:Mb) (i:Nat) (H:za) (hi:H[i]? =some (mB m)):CallOk Tryz.prog 301 [.agg (cxc c),.ptr i 0 0] H (.bool (m.fp||fcx c)) H:=by
 obtain ⟨k,ua,ub,fp,fd,va,vb,vc,vd,ve,vf,vg,vh,sa,sb,sc,sd,dl,ca,cb,cc,cd,ce,cf,lv⟩:=m
 simp only [mB,mbc] at hi
 have hx:=fun K=>zZ (K:=K) hi
 have fo:=fun H=>zlc c H
 obtain ⟨t,s,ii,n⟩:=c
 refine CallOk.body (F0:=[(0,.agg [.int .i64 t,.int .i64 s,.bool ii,.bool n]),(1,.ptr i 0 0)]) Tryz.func301 rfl Tryz.ntmps301 Tryz.results301 rfl (by kernel_rfl) rfl ?_
 (repeat' (first|refine PW.seq ?_|refine PW.skip ?_|refine PW.block ?_|((first|refine PW.rg rfl fun K hK=> ?_|refine PW.draw mix (by kernel_rfl) fun K hK=> ?_);simp (disch:=omega) only [go_sem,↓reduceIte,reduceCtorEq,hi,hx])|((first|refine zk ?_ ?_|refine zn ?_ ?_|refine And.intro ?_ ?_)<;>intro h<;>(try simp only [nqb] at h)<;>simp (disch:=omega) only [go_sem,↓reduceIte,reduceCtorEq,hi,hx,h])|((first|refine VCx.call (fo _) rfl ?_|refine VCy.call (fo _) rfl ?_);simp (disch:=omega) only [go_sem,↓reduceIte,reduceCtorEq,hi,hx])|(refine hK _ _ ?_;clear hK K)|(refine PW.cond (t:=_) rfl (fun h=> ?_) (fun h=> ?_)<;>(try (cases h;done))<;>(try simp only [nqb] at h))))
 all_goals ((refine PW.ret ⟨_,rfl,?_⟩;first|refine .inl ⟨?_,rfl⟩|refine Fin.base (.id' ?_ (.bool _))|refine Fin.base (.id' ?_ (.int _ _)));clear hi hx fo;(simp_all [slot,Nat.beq]<;>first|rfl|omega|(rw [Bool.eq_iff_iff];simp;done)|(rw [Bool.eq_iff_iff];simp;omega)))
theorem zuQ (c:Cx) (m:Mb) (i:Nat) (H:za) (hi:H[i]? =some (mB m)):CallOk Tryz.prog 206 [.agg (cxc c),.ptr i 0 0] H (.bool (fch c m)) H:=by
 have hlo:=fun K=>zwx m i (H++K) (zZ hi)
 have bo:=fun H=>ziP c H
 have hfc:fch c m=if hlM m then (bcx c|| !m.fd)&&win m.dl 30 else !m.fd&&decide (m.dl=0):=rfl
 generalize fch c m=r at hfc ⊢
 generalize hlM m=h1 at hlo hfc
 obtain ⟨k,ua,ub,fp,fd,va,vb,vc,vd,ve,vf,vg,vh,sa,sb,sc,sd,dl,ca,cb,cc,cd,ce,cf,lv⟩:=m
 simp only [mB,mbc] at hi hfc
 have hx:=fun K=>zZ (K:=K) hi
 generalize bcx c=b1 at bo hfc
 obtain ⟨t,s,ii,n⟩:=c
 have wo:=fun H=>zda dl 30 H (by omega)
 generalize win dl 30=w1 at wo hfc
 refine CallOk.body (F0:=[(0,.agg [.int .i64 t,.int .i64 s,.bool ii,.bool n]),(1,.ptr i 0 0)]) Tryz.func206 rfl Tryz.ntmps206 Tryz.results206 rfl (by kernel_rfl) rfl ?_
 (repeat' (first|refine PW.seq ?_|refine PW.skip ?_|refine PW.block ?_|((first|refine PW.rg rfl fun K hK=> ?_|refine PW.draw mix (by kernel_rfl) fun K hK=> ?_);simp (disch:=omega) only [go_sem,↓reduceIte,reduceCtorEq,hx])|((first|refine zk ?_ ?_|refine zn ?_ ?_|refine And.intro ?_ ?_)<;>intro h<;>(try simp only [nqb] at h)<;>simp (disch:=omega) only [go_sem,↓reduceIte,reduceCtorEq,hx,h])|((first|refine VCx.call (hlo _) rfl ?_|refine VCx.call (bo _) rfl ?_|refine VCx.call (wo _) rfl ?_|refine VCy.call (hlo _) rfl ?_|refine VCy.call (bo _) rfl ?_|refine VCy.call (wo _) rfl ?_);simp (disch:=omega) only [go_sem,↓reduceIte,reduceCtorEq,hx])|(refine hK _ _ ?_;clear hK K)|(refine PW.cond (t:=_) rfl (fun h=> ?_) (fun h=> ?_)<;>(try (cases h;done))<;>(try simp only [nqb] at h))))
 all_goals ((refine PW.ret ⟨_,rfl,?_⟩;first|refine .inl ⟨?_,rfl⟩|refine Fin.base (.id' ?_ (.bool _))|refine Fin.base (.id' ?_ (.int _ _)));clear hi hx hlo bo wo;subst hfc;(simp_all [slot,Nat.beq]<;>first|rfl|omega|(rw [Bool.eq_iff_iff];simp;done)|(rw [Bool.eq_iff_iff];simp;omega)))
theorem zW (l:List Int):(is l).all PV.cell=true:=by
 unfold is
 rw [List.all_map]
 exact List.all_eq_true.2 fun x _=>rfl
def lvr (lv:List Int):Bool:=(List.range 384).all fun q=>win (zh lv q) 4095
theorem zut {lv:List Int} {q:Nat} (h:q<384) (hw:win (zh lv q) 4095=false):lvr lv=false:=by
 cases hc:lvr lv with
 | false=>rfl
 | true=>
  have:=List.all_eq_true.1 hc q (List.mem_range.2 h)
  rw [hw] at this;cases this
theorem zis {lv:List Int} (h:∀ q,q<384→win (zh lv q) 4095=true):lvr lv=true:=List.all_eq_true.2 fun q hq=>h q (List.mem_range.1 hq)
theorem zlm (lv:List Int) (n j:Nat) (hj:j<64):zh ((lv.drop (n * 64)).take 64) j=zh lv (n * 64+j):=by
 simp only [zh,List.getD,List.getElem?_take,List.getElem?_drop]
 rw [if_pos hj]
theorem ziO (lv:List Int) (n:Nat) (hl:lv.length=384) (hn:n<6):((lv.drop (n * 64)).take 64).length=64:=by simp;omega
theorem zus (m:Mb) (i:Nat) (H:za) (hi:H[i]? =some (mB m)) (hl:m.lv.length=384):CallOk Tryz.prog 207 [.ptr i 0 0] H (.bool (lvr m.lv)) H:=by
 obtain ⟨k,ua,ub,fp,fd,va,vb,vc,vd,ve,vf,vg,vh,sa,sb,sc,sd,dl,ca,cb,cc,cd,ce,cf,lv⟩:=m
 simp only [mB,mbc] at hi hl ⊢
 have hdrop:∀ n:Nat,List.drop (24+n * 64) (.int .i64 k:: .bool ua:: .bool ub:: .bool fp:: .bool fd:: .int .i64 va:: .int .i64 vb:: .int .i64 vc:: .int .i64 vd:: .int .i64 ve:: .int .i64 vf:: .int .i64 vg:: .int .i64 vh:: .int .i64 sa:: .int .i64 sb:: .int .i64 sc:: .int .i64 sd:: .int .i64 dl:: .bool ca:: .bool cb:: .bool cc:: .bool cd:: .bool ce:: .bool cf::is lv)=is (lv.drop (n * 64)):=fun n=>by
  rw [show 24+n * 64=n * 64+24 by omega]
  simp only [List.drop_succ_cons]
  exact zev _ _
 refine CallOk.body (F0:=[(0,.ptr i 0 0)]) Tryz.func207 rfl Tryz.ntmps207 Tryz.results207 rfl (by kernel_rfl) rfl ?_
 refine PW.e ?_;refine PW.e ?_
 (repeat refine PW.seq ?_);refine PW.block (PW.loop ?_)
 suffices hloop:∀ (n:Nat),n≤6→(∀ q,q<n * 64→win (zh lv q) 4095=true)→PL Tryz.prog _ _ [(0,.ptr i 0 0),(6,.int .i64 (n:Int))] H _ by
  exact PL.at [0,6] (hloop 0 (by omega) (fun q hq=>by omega)) rfl rfl
 intro n hn hq
 induction hm:6 - n using Nat.strongRecOn generalizing n with
 | _ m ih=>
  refine PL.round ?_;refine PW.e ?_
  (repeat refine PW.seq ?_);refine PW.cond (t:=_) rfl (fun h=> ?_) (fun h=> ?_)
  ·have h4:n<6:=by have:=of_decide_eq_true h;omega
   have hbl:=ziO lv n hl h4
   have hcel:=zW ((lv.drop (n * 64)).take 64)
   have hnx:=ih (6 - (n+1)) (by omega) (n+1) (by omega)
   refine PW.skip ?_
   (repeat refine PW.seq ?_);refine PW.block ?_
   refine PW.e ?_
   refine PW.f (fun K k=>by simp (disch:=omega) only [go_sem,↓reduceIte,reduceCtorEq,hi,hdrop,zdy,zu,hbl,hcel];exact k) ?_
   have hat:=zlm lv n
   generalize (lv.drop (n * 64)).take 64=bl at *
   (repeat refine PW.seq ?_);refine PW.block (PW.loop ?_)
   clear ih
   suffices hloop:∀ (j:Nat),j≤64→(∀ q,q<n * 64+j→win (zh lv q) 4095=true)→PL Tryz.prog _ _ [(0,.ptr i 0 0),(6,.int .i64 (n:Int)),(14,.agg (is bl)),(15,.int .i64 (j:Int))] H _ by
    exact PL.at [0,6,14,15] (hloop 0 (by omega) (fun q hq'=>hq q (by omega))) rfl rfl
   intro j hj hq2
   induction hm2:64 - j using Nat.strongRecOn generalizing j with
   | _ m2 ih=>
    refine PL.round ?_;refine PW.e ?_
    (repeat refine PW.seq ?_);refine PW.cond (t:=_) rfl (fun h=> ?_) (fun h=> ?_)
    ·have h5:j<64:=by have:=of_decide_eq_true h;omega
     have hw:=fun H=>zda (zh bl j) 4095 H (by omega)
     refine PW.skip ?_
     (repeat refine PW.seq ?_);refine PW.block ?_
     refine PW.f (fun K k=>by simp (disch:=omega) only [go_sem,↓reduceIte,reduceCtorEq,zbq,zu,hbl];exact k) ?_
     refine PW.f (fun K k=>by simp (disch:=omega) only [go_sem,↓reduceIte,reduceCtorEq];refine VCx.call (hw _) rfl ?_;simp (disch:=omega) only [go_sem,↓reduceIte,reduceCtorEq];exact k) ?_
     (repeat refine PW.seq ?_);refine PW.cond (t:=_) rfl (fun h=> ?_) (fun h=> ?_)
     ·have h6:win (zh bl j) 4095=false:=by simpa using h
      refine PW.e ?_
      refine PW.ret ⟨_,rfl,?_⟩
      rw [zut (q:=n * 64+j) (by omega) (by rw [←hat j h5];exact h6)]
      exact Fin.now
     ·have h6:win (zh bl j) 4095=true:=by simpa using h
      refine PW.skip ?_
      refine PW.e ?_
      refine PL.at [0,6,14,15] (ih (64 - (j+1)) (by omega) (j+1) (by omega) (fun q hq'=> ?_) rfl) rfl rfl
      by_cases e:q=n * 64+j
      ·rw [e,←hat j h5];exact h6
      ·exact hq2 q (by omega)
    ·have h5:j=64:=by have:=of_decide_eq_false h;omega
     subst h5
     refine PW.exit ?_
     refine PW.e ?_
     exact PL.at [0,6] (hnx (fun q hq'=>hq2 q (by omega)) rfl) rfl rfl
  ·have h4:n=6:=by have:=of_decide_eq_false h;omega
   subst h4
   refine PW.exit ?_
   refine PW.e ?_
   refine PW.ret ⟨_,rfl,?_⟩
   rw [zis (fun q hq'=>hq q (by omega))]
   exact Fin.now
def zbk (lv:List Int) (n:Nat):Bool:=(lv.drop (n * 64)).take 64==List.replicate 64 0
def cdl (m:Mb):List Bool:=[m.ca,m.cb,m.cc,m.cd,m.ce,m.cf]
def fbl (cs:List Bool) (lv:List Int):Bool:=(List.range 6).all fun n=>zaB cs n !=zbk lv n
theorem zuS {cs:List Bool} {lv:List Int} {q:Nat} (h:q<6) (hw:zaB cs q=zbk lv q):fbl cs lv=false:=by
 cases hc:fbl cs lv with
 | false=>rfl
 | true=>
  have:=List.all_eq_true.1 hc q (List.mem_range.2 h)
  rw [hw] at this;simp at this
theorem zmm {cs:List Bool} {lv:List Int} (h:∀ q,q<6→zaB cs q≠zbk lv q):fbl cs lv=true:=List.all_eq_true.2 fun q hq=>by
 have:=h q (List.mem_range.1 hq)
 simpa using this
theorem zuR (m:Mb) (i:Nat) (H:za) (hi:H[i]? =some (mB m)) (hl:m.lv.length=384):CallOk Tryz.prog 209 [.ptr i 0 0] H (.bool (fbl (cdl m) m.lv)) H:=by
 obtain ⟨k,ua,ub,fp,fd,va,vb,vc,vd,ve,vf,vg,vh,sa,sb,sc,sd,dl,ca,cb,cc,cd,ce,cf,lv⟩:=m
 simp only [mB,mbc,cdl] at hi hl ⊢
 have hdrop:∀ n:Nat,List.drop (24+n * 64) (.int .i64 k:: .bool ua:: .bool ub:: .bool fp:: .bool fd:: .int .i64 va:: .int .i64 vb:: .int .i64 vc:: .int .i64 vd:: .int .i64 ve:: .int .i64 vf:: .int .i64 vg:: .int .i64 vh:: .int .i64 sa:: .int .i64 sb:: .int .i64 sc:: .int .i64 sd:: .int .i64 dl:: .bool ca:: .bool cb:: .bool cc:: .bool cd:: .bool ce:: .bool cf::is lv)=is (lv.drop (n * 64)):=fun n=>by
  rw [show 24+n * 64=n * 64+24 by omega]
  simp only [List.drop_succ_cons]
  exact zev _ _
 obtain ⟨cs,hcs⟩:∃ cs,cs=[ca,cb,cc,cd,ce,cf]:=⟨_,rfl⟩
 have hcl:cs.length=6:=by rw [hcs];rfl
 refine CallOk.body (F0:=[(0,.ptr i 0 0)]) Tryz.func209 rfl Tryz.ntmps209 Tryz.results209 rfl (by kernel_rfl) rfl ?_
 refine PW.e ?_;refine PW.f (fun K k=>by simp (disch:=omega) only [go_sem,↓reduceIte,reduceCtorEq,hi];exact k) ?_
 (repeat refine PW.seq ?_);refine PW.block (PW.loop ?_)
 rw [←hcs]
 suffices hloop:∀ (n:Nat),n≤6→(∀ q,q<n→zaB cs q≠zbk lv q)→PL Tryz.prog _ _ [(0,.ptr i 0 0),(8,.agg (fs cs)),(9,.int .i64 (n:Int))] H _ by
  exact PL.at [0,8,9] (hloop 0 (by omega) (fun q hq=>by omega)) (by rw [hcs];rfl) rfl
 clear hcs
 intro n hn hq
 induction hm:6 - n using Nat.strongRecOn generalizing n with
 | _ m ih=>
  refine PL.round ?_;refine PW.e ?_
  (repeat refine PW.seq ?_);refine PW.cond (t:=_) rfl (fun h=> ?_) (fun h=> ?_)
  ·have h4:n<6:=by have:=of_decide_eq_true h;omega
   have hbl:=ziO lv n hl h4
   have hcel:=zW ((lv.drop (n * 64)).take 64)
   have hnx:=ih (6 - (n+1)) (by omega) (n+1) (by omega)
   have hzb:zbk lv n=((lv.drop (n * 64)).take 64==List.replicate 64 0):=rfl
   refine PW.skip ?_
   (repeat refine PW.seq ?_);refine PW.block ?_
   refine PW.f (fun K k=>by simp (disch:=omega) only [go_sem,↓reduceIte,reduceCtorEq,zk8,zuG,hcl];exact k) ?_
   generalize hbb:(lv.drop (n * 64)).take 64=bl at *
   have hpq:zdH (.int .i64) (is bl) [.int .i64 0,.int .i64 0,.int .i64 0,.int .i64 0,.int .i64 0,.int .i64 0,.int .i64 0,.int .i64 0,.int .i64 0,.int .i64 0,.int .i64 0,.int .i64 0,.int .i64 0,.int .i64 0,.int .i64 0,.int .i64 0,.int .i64 0,.int .i64 0,.int .i64 0,.int .i64 0,.int .i64 0,.int .i64 0,.int .i64 0,.int .i64 0,.int .i64 0,.int .i64 0,.int .i64 0,.int .i64 0,.int .i64 0,.int .i64 0,.int .i64 0,.int .i64 0,.int .i64 0,.int .i64 0,.int .i64 0,.int .i64 0,.int .i64 0,.int .i64 0,.int .i64 0,.int .i64 0,.int .i64 0,.int .i64 0,.int .i64 0,.int .i64 0,.int .i64 0,.int .i64 0,.int .i64 0,.int .i64 0,.int .i64 0,.int .i64 0,.int .i64 0,.int .i64 0,.int .i64 0,.int .i64 0,.int .i64 0,.int .i64 0,.int .i64 0,.int .i64 0,.int .i64 0,.int .i64 0,.int .i64 0,.int .i64 0,.int .i64 0,.int .i64 0]=some (bl==List.replicate 64 0):=zfP .i64 bl (List.replicate 64 0) (by rw [hbl];simp)
   generalize (bl==List.replicate 64 0)=zz at *
   (repeat refine PW.seq ?_);refine PW.rg rfl fun K hK=> ?_;simp (disch:=omega) only [go_sem,↓reduceIte,reduceCtorEq,hi,hdrop,zdy,hbb,zu,hbl,hcel,hpq]
   refine hK _ _ ?_;clear hK K
   (repeat refine PW.seq ?_);refine PW.cond (t:=_) rfl (fun h=> ?_) (fun h=> ?_)
   ·have h6:zaB cs n=zz:=by simpa using h
    refine PW.e ?_
    refine PW.ret ⟨_,rfl,?_⟩
    rw [zuS h4 (by rw [hzb];exact h6)]
    exact Fin.now
   ·have h6:zaB cs n≠zz:=by simpa using h
    refine PW.skip ?_
    refine PW.e ?_
    refine PL.at [0,8,9] (hnx (fun q hq'=> ?_) rfl) rfl rfl
    by_cases e:q=n
    ·rw [e,hzb];exact h6
    ·exact hq q (by omega)
  ·have h4:n=6:=by have:=of_decide_eq_false h;omega
   subst h4
   refine PW.exit ?_
   refine PW.e ?_
   refine PW.ret ⟨_,rfl,?_⟩
   rw [zmm hq]
   exact Fin.now
def zca (c:Cx) (fp used:Bool) (a b d e p q:Int):Bool:=
 if used then vrg a b&&(vrg d e&&((decide (p=0)||decide (p=1))&&((decide (q=0)||decide (q=1))&&((fp||(decide (d=0)&&(decide (e=0)&&decide (q=0))))&&(fp||(fcx c||decide (p=0)))))))
 else decide (a=0)&&(decide (b=0)&&(decide (d=0)&&(decide (e=0)&&(decide (p=0)&&decide (q=0)))))
theorem zj2 (a b c d:Int):zdi Tryz.prog .eql 146 (.agg [.int .i64 a,.int .i64 b,.int .i64 c,.int .i64 d]) (.agg [.int .i64 0,.int .i64 0,.int .i64 0,.int .i64 0])=some (.bool (((a==0)&&((b==0)&&true))&&(((c==0)&&((d==0)&&true))&&true))):=by kernel_rfl
theorem neV (a b:Int):zdi Tryz.prog .neq 145 (.agg [.int .i64 a,.int .i64 b]) (.agg [.int .i64 0,.int .i64 0])=some (.bool !((a==0)&&((b==0)&&true))):=by kernel_rfl
theorem zj3 (a b:Int):zdi Tryz.prog .eql 148 (.agg [.int .i64 a,.int .i64 b]) (.agg [.int .i64 0,.int .i64 0])=some (.bool ((a==0)&&((b==0)&&true))):=by kernel_rfl
set_option maxHeartbeats 3200000 in
set_option maxRecDepth 10000 in
theorem zp8 (c:Cx) (m:Mb) (used:Bool) (i:Nat) (H:za) (hi:H[i]? =some (mB m)):CallOk Tryz.prog 286 [.agg (cxc c),.ptr i 0 0,.int .i64 0,.bool used] H (.bool (zca c m.fp used m.va m.vb m.vc m.vd m.sa m.sb)) H:=by
 have hil:i<H.length:=(List.getElem?_eq_some_iff.1 hi).1
 have hso:=fun K=>zkw c m i (H++K) (zZ hi)
 obtain ⟨k,ua,ub,fp,fd,va,vb,vc,vd,ve,vf,vg,vh,sa,sb,sc,sd,dl,ca,cb,cc,cd,ce,cf,lv⟩:=m
 simp only [mB,mbc] at hi ⊢
 have hx:=fun K=>zZ (K:=K) hi
 generalize hr:zca c fp used va vb vc vd sa sb=r
 simp only [zca] at hr
 simp only at hso
 generalize fcx c=ff at hso hr
 obtain ⟨t,s,ii,n⟩:=c
 have dX : decide ("X" = "_") = false := by decide
 have dY : decide ("Y" = "_") = false := by decide
 have q1:=fun H=>zga va vb H
 have q2:=fun H=>zga vc vd H
 generalize vrg va vb=r1 at q1 hr
 generalize vrg vc vd=r2 at q2 hr
 refine CallOk.body (F0:=[(0,.agg [.int .i64 t,.int .i64 s,.bool ii,.bool n]),(1,.ptr i 0 0),(2,.int .i64 0),(3,.bool used)]) Tryz.func286 rfl Tryz.ntmps286 Tryz.results286 rfl (by kernel_rfl) rfl ?_
 refine PW.e ?_
 (repeat refine PW.seq ?_)
 refine PW.view (Vs.place 146) (PW.view (Vs.place 148) ?_)
 (repeat refine PW.seq ?_);refine PW.drawh ([H.length+1,H.length+2]) ([(9,H.length+1),(10,H.length+2)]) mix (by kernel_rfl) (by simp<;>omega) fun K hK=> ?_
 simp (disch:=omega) only [go_sem,↓reduceIte,reduceCtorEq,hx]
 refine hK _ _ ?_;clear hK K
 refine PW.e ?_
 (repeat refine PW.seq ?_);refine PW.cond (t:=_) rfl (fun h=> ?_) (fun h=> ?_)
 ·have hu:used=false:=by simpa using h
  subst hu
  (repeat refine PW.seq ?_);refine PW.rg rfl fun K hK=> ?_;simp (disch:=omega) only [go_sem,↓reduceIte,reduceCtorEq,↓zj2,↓neV,↓zj3]
  (repeat' ((first|refine zk ?_ ?_|refine zn ?_ ?_|refine zT ?_ ?_|refine zS ?_ ?_|refine zR ?_ ?_|refine And.intro ?_ ?_)<;>intro h<;>(try simp only [nqb] at h)<;>simp (disch:=omega) only [go_sem,↓reduceIte,reduceCtorEq,↓zj2,↓neV,↓zj3,h]))
  all_goals (refine hK _ _ ?_;(refine PW.ret ⟨_,rfl,?_⟩;first|refine .inl ⟨?_,rfl⟩|refine Fin.base (.id' ?_ (.bool _))|refine Fin.base (.id' ?_ (.int _ _)));clear hK q1 q2 hso hi hx;subst hr;(simp_all [slot,Nat.beq]<;>first|rfl|omega|(rw [Bool.eq_iff_iff];simp;done)|(rw [Bool.eq_iff_iff];simp;omega)))
 have hu:used=true:=by simpa using h
 subst hu
 refine PW.skip ?_
 (repeat refine PW.seq ?_)
 refine PW.rgv (P:=Tryz.prog) [1,4,9,10] 49 (.bool (!fp&&(!(decide (vc=0)&&decide (vd=0))|| !decide (sb=0)))) ?_ ?_ ?_
 ·rfl
 ·simp (disch:=omega) only [go_sem,↓reduceIte,reduceCtorEq,hx,↓zj2,↓neV,↓zj3]
  (repeat' ((first|refine zk ?_ ?_|refine zn ?_ ?_|refine zT ?_ ?_|refine zS ?_ ?_|refine zR ?_ ?_|refine And.intro ?_ ?_)<;>intro h<;>(try simp only [nqb] at h)<;>simp (disch:=omega) only [go_sem,↓reduceIte,reduceCtorEq,hx,↓zj2,↓neV,↓zj3,h]))
  all_goals (clear q1 q2 hso hi hx hr;(simp_all [slot,Nat.beq]<;>first|rfl|omega|(rw [Bool.eq_iff_iff];simp;done)|(rw [Bool.eq_iff_iff];simp;omega)))
 (repeat refine PW.seq ?_);refine PW.cond (t:=_) rfl (fun h=> ?_) (fun h=> ?_)
 ·refine PW.e ?_
  (refine PW.ret ⟨_,rfl,?_⟩;first|refine .inl ⟨?_,rfl⟩|refine Fin.base (.id' ?_ (.bool _))|refine Fin.base (.id' ?_ (.int _ _)))
  clear q1 q2 hso hi hx;subst hr;(simp_all [slot,Nat.beq]<;>first|rfl|omega|(rw [Bool.eq_iff_iff];simp;done)|(rw [Bool.eq_iff_iff];simp;omega))
 refine PW.skip ?_
 (repeat refine PW.seq ?_)
 refine PW.rgv (P:=Tryz.prog) [9,10] 58 (.bool (!(fp||ff)&& !decide (sa=0))) ?_ ?_ ?_
 ·rfl
 ·simp (disch:=omega) only [go_sem,↓reduceIte,reduceCtorEq]
  (repeat' (first|((first|refine zk ?_ ?_|refine And.intro ?_ ?_)<;>intro h<;>(try simp only [nqb] at h)<;>simp (disch:=omega) only [go_sem,↓reduceIte,reduceCtorEq,hx,h])|((first|refine VCx.call (hso _) rfl ?_);simp (disch:=omega) only [go_sem,↓reduceIte,reduceCtorEq,hx])))
  all_goals (clear q1 q2 hso hi hx hr;(simp_all [slot,Nat.beq]<;>first|rfl|omega|(rw [Bool.eq_iff_iff];simp;done)|(rw [Bool.eq_iff_iff];simp;omega)))
 (repeat refine PW.seq ?_);refine PW.cond (t:=_) rfl (fun h=> ?_) (fun h=> ?_)
 ·refine PW.e ?_
  (refine PW.ret ⟨_,rfl,?_⟩;first|refine .inl ⟨?_,rfl⟩|refine Fin.base (.id' ?_ (.bool _))|refine Fin.base (.id' ?_ (.int _ _)))
  clear q1 q2 hso hi hx;subst hr;(simp_all [slot,Nat.beq]<;>first|rfl|omega|(rw [Bool.eq_iff_iff];simp;done)|(rw [Bool.eq_iff_iff];simp;omega))
 refine PW.skip ?_
 refine PW.e ?_
 (repeat refine PW.seq ?_);refine PW.block (PW.loop ?_)
 have hr9:r=(r1&&(r2&&((decide (sa=0)||decide (sa=1))&&(decide (sb=0)||decide (sb=1))))):=by
  rename_i hz1 hz2
  clear q1 q2 hso hi hx
  subst hr
  cases fp<;>cases ff<;>simp_all
 suffices h1:(r1&&(decide (sa=0)||decide (sa=1)))=true→PL Tryz.prog _ _ [(9,.ptr (H.length+1) 1 0),(10,.ptr (H.length+2) 1 0),(59,.int .i64 1)] (H++[⟨157,0,[.int .i64 t,.int .i64 s,.bool ii,.bool n]⟩,⟨146,1,[.int .i64 va,.int .i64 vb,.int .i64 vc,.int .i64 vd]⟩,⟨148,1,[.int .i64 sa,.int .i64 sb]⟩]) _ by
  refine PL.round ?_;refine PW.e ?_
  (repeat refine PW.seq ?_);refine PW.cond (t:=_) rfl (fun h=> ?_) (fun h=> ?_)
  ·refine PW.skip ?_
   (repeat refine PW.seq ?_);refine PW.block ?_
   refine PW.e ?_
   (repeat refine PW.seq ?_)
   refine PW.rgv (P:=Tryz.prog) [9,10,59] 78 (.bool (!(r1&&(decide (sa=0)||decide (sa=1))))) ?_ ?_ ?_
   ·rfl
   rotate_left
   ·(repeat refine PW.seq ?_);refine PW.cond (t:=_) rfl (fun h=> ?_) (fun h=> ?_)
    rotate_left
    ·have hb:(r1&&(decide (sa=0)||decide (sa=1)))=true:=by simpa only [Bool.not_eq_false'] using h
     refine PW.skip ?_
     refine PW.e ?_
     exact PL.at [9,10,59] (h1 hb) rfl rfl
    ·have hb:(r1&&(decide (sa=0)||decide (sa=1)))=false:=by simpa only [Bool.not_eq_true'] using h
     refine PW.e ?_
     (refine PW.ret ⟨_,rfl,?_⟩;first|refine .inl ⟨?_,rfl⟩|refine Fin.base (.id' ?_ (.bool _))|refine Fin.base (.id' ?_ (.int _ _)))
     rw [hr9]
     clear h1 q1 q2 hso hi hx hr hr9
     cases r1<;>simp_all [slot,Nat.beq]
   ·clear h1
    cases r1<;>simp (disch:=omega) only [go_sem,↓reduceIte,reduceCtorEq]<;>(repeat' (first|((first|refine zk ?_ ?_|refine And.intro ?_ ?_)<;>intro h<;>(try simp only [nqb] at h)<;>simp (disch:=omega) only [go_sem,↓reduceIte,reduceCtorEq,h])|((first|refine VCx.call (q1 _) rfl ?_);simp (disch:=omega) only [go_sem,↓reduceIte,reduceCtorEq])))
    all_goals (clear q1 q2 hso hi hx hr hr9;(simp_all [slot,Nat.beq]<;>first|rfl|omega|(rw [Bool.eq_iff_iff];simp;done)|(rw [Bool.eq_iff_iff];simp;omega)))
  ·cases h
 intro hb1
 refine PL.round ?_;refine PW.e ?_
 (repeat refine PW.seq ?_);refine PW.cond (t:=_) rfl (fun h=> ?_) (fun h=> ?_)
 ·refine PW.skip ?_
  (repeat refine PW.seq ?_);refine PW.block ?_
  refine PW.e ?_
  (repeat refine PW.seq ?_)
  refine PW.rgv (P:=Tryz.prog) [9,10,59] 78 (.bool (!(r2&&(decide (sb=0)||decide (sb=1))))) ?_ ?_ ?_
  ·rfl
  ·cases r2<;>simp (disch:=omega) only [go_sem,↓reduceIte,reduceCtorEq]<;>(repeat' (first|((first|refine zk ?_ ?_|refine And.intro ?_ ?_)<;>intro h<;>(try simp only [nqb] at h)<;>simp (disch:=omega) only [go_sem,↓reduceIte,reduceCtorEq,h])|((first|refine VCx.call (q2 _) rfl ?_);simp (disch:=omega) only [go_sem,↓reduceIte,reduceCtorEq])))
   all_goals (clear q1 q2 hso hi hx hr hr9;(simp_all [slot,Nat.beq]<;>first|rfl|omega|(rw [Bool.eq_iff_iff];simp;done)|(rw [Bool.eq_iff_iff];simp;omega)))
  (repeat refine PW.seq ?_);refine PW.cond (t:=_) rfl (fun h=> ?_) (fun h=> ?_)
  ·have hb:(r2&&(decide (sb=0)||decide (sb=1)))=false:=by simpa only [Bool.not_eq_true'] using h
   refine PW.e ?_
   (refine PW.ret ⟨_,rfl,?_⟩;first|refine .inl ⟨?_,rfl⟩|refine Fin.base (.id' ?_ (.bool _))|refine Fin.base (.id' ?_ (.int _ _)))
   rw [hr9]
   clear q1 q2 hso hi hx hr hr9
   cases r1<;>cases r2<;>simp_all [slot,Nat.beq]
  ·have hb:(r2&&(decide (sb=0)||decide (sb=1)))=true:=by simpa only [Bool.not_eq_false'] using h
   refine PW.skip ?_
   refine PW.e ?_
   refine PL.round ?_;refine PW.e ?_
   (repeat refine PW.seq ?_);refine PW.cond (t:=_) rfl (fun h=> ?_) (fun h=> ?_)
   ·cases h
   refine PW.exit ?_
   refine PW.e ?_
   (refine PW.ret ⟨_,rfl,?_⟩;first|refine .inl ⟨?_,rfl⟩|refine Fin.base (.id' ?_ (.bool _))|refine Fin.base (.id' ?_ (.int _ _)))
   rw [hr9]
   clear q1 q2 hso hi hx hr hr9
   cases r1<;>cases r2<;>simp_all [slot,Nat.beq]
 ·cases h
set_option maxHeartbeats 3200000 in
set_option maxRecDepth 10000 in
theorem zp7 (c:Cx) (m:Mb) (used:Bool) (i:Nat) (H:za) (hi:H[i]? =some (mB m)):CallOk Tryz.prog 286 [.agg (cxc c),.ptr i 0 0,.int .i64 1,.bool used] H (.bool (zca c m.fp used m.ve m.vf m.vg m.vh m.sc m.sd)) H:=by
 have hil:i<H.length:=(List.getElem?_eq_some_iff.1 hi).1
 have hso:=fun K=>zkw c m i (H++K) (zZ hi)
 obtain ⟨k,ua,ub,fp,fd,va,vb,vc,vd,ve,vf,vg,vh,sa,sb,sc,sd,dl,ca,cb,cc,cd,ce,cf,lv⟩:=m
 simp only [mB,mbc] at hi ⊢
 have hx:=fun K=>zZ (K:=K) hi
 generalize hr:zca c fp used ve vf vg vh sc sd=r
 simp only [zca] at hr
 simp only at hso
 generalize fcx c=ff at hso hr
 obtain ⟨t,s,ii,n⟩:=c
 have dX : decide ("X" = "_") = false := by decide
 have dY : decide ("Y" = "_") = false := by decide
 have q1:=fun H=>zga ve vf H
 have q2:=fun H=>zga vg vh H
 generalize vrg ve vf=r1 at q1 hr
 generalize vrg vg vh=r2 at q2 hr
 refine CallOk.body (F0:=[(0,.agg [.int .i64 t,.int .i64 s,.bool ii,.bool n]),(1,.ptr i 0 0),(2,.int .i64 1),(3,.bool used)]) Tryz.func286 rfl Tryz.ntmps286 Tryz.results286 rfl (by kernel_rfl) rfl ?_
 refine PW.e ?_
 (repeat refine PW.seq ?_)
 refine PW.view (Vs.place 146) (PW.view (Vs.place 148) ?_)
 (repeat refine PW.seq ?_);refine PW.drawh ([H.length+1,H.length+2]) ([(9,H.length+1),(10,H.length+2)]) mix (by kernel_rfl) (by simp<;>omega) fun K hK=> ?_
 simp (disch:=omega) only [go_sem,↓reduceIte,reduceCtorEq,hx]
 refine hK _ _ ?_;clear hK K
 refine PW.e ?_
 (repeat refine PW.seq ?_);refine PW.cond (t:=_) rfl (fun h=> ?_) (fun h=> ?_)
 ·have hu:used=false:=by simpa using h
  subst hu
  (repeat refine PW.seq ?_);refine PW.rg rfl fun K hK=> ?_;simp (disch:=omega) only [go_sem,↓reduceIte,reduceCtorEq,↓zj2,↓neV,↓zj3]
  (repeat' ((first|refine zk ?_ ?_|refine zn ?_ ?_|refine zT ?_ ?_|refine zS ?_ ?_|refine zR ?_ ?_|refine And.intro ?_ ?_)<;>intro h<;>(try simp only [nqb] at h)<;>simp (disch:=omega) only [go_sem,↓reduceIte,reduceCtorEq,↓zj2,↓neV,↓zj3,h]))
  all_goals (refine hK _ _ ?_;(refine PW.ret ⟨_,rfl,?_⟩;first|refine .inl ⟨?_,rfl⟩|refine Fin.base (.id' ?_ (.bool _))|refine Fin.base (.id' ?_ (.int _ _)));clear hK q1 q2 hso hi hx;subst hr;(simp_all [slot,Nat.beq]<;>first|rfl|omega|(rw [Bool.eq_iff_iff];simp;done)|(rw [Bool.eq_iff_iff];simp;omega)))
 have hu:used=true:=by simpa using h
 subst hu
 refine PW.skip ?_
 (repeat refine PW.seq ?_)
 refine PW.rgv (P:=Tryz.prog) [1,4,9,10] 49 (.bool (!fp&&(!(decide (vg=0)&&decide (vh=0))|| !decide (sd=0)))) ?_ ?_ ?_
 ·rfl
 ·simp (disch:=omega) only [go_sem,↓reduceIte,reduceCtorEq,hx,↓zj2,↓neV,↓zj3]
  (repeat' ((first|refine zk ?_ ?_|refine zn ?_ ?_|refine zT ?_ ?_|refine zS ?_ ?_|refine zR ?_ ?_|refine And.intro ?_ ?_)<;>intro h<;>(try simp only [nqb] at h)<;>simp (disch:=omega) only [go_sem,↓reduceIte,reduceCtorEq,hx,↓zj2,↓neV,↓zj3,h]))
  all_goals (clear q1 q2 hso hi hx hr;(simp_all [slot,Nat.beq]<;>first|rfl|omega|(rw [Bool.eq_iff_iff];simp;done)|(rw [Bool.eq_iff_iff];simp;omega)))
 (repeat refine PW.seq ?_);refine PW.cond (t:=_) rfl (fun h=> ?_) (fun h=> ?_)
 ·refine PW.e ?_
  (refine PW.ret ⟨_,rfl,?_⟩;first|refine .inl ⟨?_,rfl⟩|refine Fin.base (.id' ?_ (.bool _))|refine Fin.base (.id' ?_ (.int _ _)))
  clear q1 q2 hso hi hx;subst hr;(simp_all [slot,Nat.beq]<;>first|rfl|omega|(rw [Bool.eq_iff_iff];simp;done)|(rw [Bool.eq_iff_iff];simp;omega))
 refine PW.skip ?_
 (repeat refine PW.seq ?_)
 refine PW.rgv (P:=Tryz.prog) [9,10] 58 (.bool (!(fp||ff)&& !decide (sc=0))) ?_ ?_ ?_
 ·rfl
 ·simp (disch:=omega) only [go_sem,↓reduceIte,reduceCtorEq]
  (repeat' (first|((first|refine zk ?_ ?_|refine And.intro ?_ ?_)<;>intro h<;>(try simp only [nqb] at h)<;>simp (disch:=omega) only [go_sem,↓reduceIte,reduceCtorEq,hx,h])|((first|refine VCx.call (hso _) rfl ?_);simp (disch:=omega) only [go_sem,↓reduceIte,reduceCtorEq,hx])))
  all_goals (clear q1 q2 hso hi hx hr;(simp_all [slot,Nat.beq]<;>first|rfl|omega|(rw [Bool.eq_iff_iff];simp;done)|(rw [Bool.eq_iff_iff];simp;omega)))
 (repeat refine PW.seq ?_);refine PW.cond (t:=_) rfl (fun h=> ?_) (fun h=> ?_)
 ·refine PW.e ?_
  (refine PW.ret ⟨_,rfl,?_⟩;first|refine .inl ⟨?_,rfl⟩|refine Fin.base (.id' ?_ (.bool _))|refine Fin.base (.id' ?_ (.int _ _)))
  clear q1 q2 hso hi hx;subst hr;(simp_all [slot,Nat.beq]<;>first|rfl|omega|(rw [Bool.eq_iff_iff];simp;done)|(rw [Bool.eq_iff_iff];simp;omega))
 refine PW.skip ?_
 refine PW.e ?_
 (repeat refine PW.seq ?_);refine PW.block (PW.loop ?_)
 have hr9:r=(r1&&(r2&&((decide (sc=0)||decide (sc=1))&&(decide (sd=0)||decide (sd=1))))):=by
  rename_i hz1 hz2
  clear q1 q2 hso hi hx
  subst hr
  cases fp<;>cases ff<;>simp_all
 suffices h1:(r1&&(decide (sc=0)||decide (sc=1)))=true→PL Tryz.prog _ _ [(9,.ptr (H.length+1) 1 0),(10,.ptr (H.length+2) 1 0),(59,.int .i64 1)] (H++[⟨157,0,[.int .i64 t,.int .i64 s,.bool ii,.bool n]⟩,⟨146,1,[.int .i64 ve,.int .i64 vf,.int .i64 vg,.int .i64 vh]⟩,⟨148,1,[.int .i64 sc,.int .i64 sd]⟩]) _ by
  refine PL.round ?_;refine PW.e ?_
  (repeat refine PW.seq ?_);refine PW.cond (t:=_) rfl (fun h=> ?_) (fun h=> ?_)
  ·refine PW.skip ?_
   (repeat refine PW.seq ?_);refine PW.block ?_
   refine PW.e ?_
   (repeat refine PW.seq ?_)
   refine PW.rgv (P:=Tryz.prog) [9,10,59] 78 (.bool (!(r1&&(decide (sc=0)||decide (sc=1))))) ?_ ?_ ?_
   ·rfl
   rotate_left
   ·(repeat refine PW.seq ?_);refine PW.cond (t:=_) rfl (fun h=> ?_) (fun h=> ?_)
    rotate_left
    ·have hb:(r1&&(decide (sc=0)||decide (sc=1)))=true:=by simpa only [Bool.not_eq_false'] using h
     refine PW.skip ?_
     refine PW.e ?_
     exact PL.at [9,10,59] (h1 hb) rfl rfl
    ·have hb:(r1&&(decide (sc=0)||decide (sc=1)))=false:=by simpa only [Bool.not_eq_true'] using h
     refine PW.e ?_
     (refine PW.ret ⟨_,rfl,?_⟩;first|refine .inl ⟨?_,rfl⟩|refine Fin.base (.id' ?_ (.bool _))|refine Fin.base (.id' ?_ (.int _ _)))
     rw [hr9]
     clear h1 q1 q2 hso hi hx hr hr9
     cases r1<;>simp_all [slot,Nat.beq]
   ·clear h1
    cases r1<;>simp (disch:=omega) only [go_sem,↓reduceIte,reduceCtorEq]<;>(repeat' (first|((first|refine zk ?_ ?_|refine And.intro ?_ ?_)<;>intro h<;>(try simp only [nqb] at h)<;>simp (disch:=omega) only [go_sem,↓reduceIte,reduceCtorEq,h])|((first|refine VCx.call (q1 _) rfl ?_);simp (disch:=omega) only [go_sem,↓reduceIte,reduceCtorEq])))
    all_goals (clear q1 q2 hso hi hx hr hr9;(simp_all [slot,Nat.beq]<;>first|rfl|omega|(rw [Bool.eq_iff_iff];simp;done)|(rw [Bool.eq_iff_iff];simp;omega)))
  ·cases h
 intro hb1
 refine PL.round ?_;refine PW.e ?_
 (repeat refine PW.seq ?_);refine PW.cond (t:=_) rfl (fun h=> ?_) (fun h=> ?_)
 ·refine PW.skip ?_
  (repeat refine PW.seq ?_);refine PW.block ?_
  refine PW.e ?_
  (repeat refine PW.seq ?_)
  refine PW.rgv (P:=Tryz.prog) [9,10,59] 78 (.bool (!(r2&&(decide (sd=0)||decide (sd=1))))) ?_ ?_ ?_
  ·rfl
  ·cases r2<;>simp (disch:=omega) only [go_sem,↓reduceIte,reduceCtorEq]<;>(repeat' (first|((first|refine zk ?_ ?_|refine And.intro ?_ ?_)<;>intro h<;>(try simp only [nqb] at h)<;>simp (disch:=omega) only [go_sem,↓reduceIte,reduceCtorEq,h])|((first|refine VCx.call (q2 _) rfl ?_);simp (disch:=omega) only [go_sem,↓reduceIte,reduceCtorEq])))
   all_goals (clear q1 q2 hso hi hx hr hr9;(simp_all [slot,Nat.beq]<;>first|rfl|omega|(rw [Bool.eq_iff_iff];simp;done)|(rw [Bool.eq_iff_iff];simp;omega)))
  (repeat refine PW.seq ?_);refine PW.cond (t:=_) rfl (fun h=> ?_) (fun h=> ?_)
  ·have hb:(r2&&(decide (sd=0)||decide (sd=1)))=false:=by simpa only [Bool.not_eq_true'] using h
   refine PW.e ?_
   (refine PW.ret ⟨_,rfl,?_⟩;first|refine .inl ⟨?_,rfl⟩|refine Fin.base (.id' ?_ (.bool _))|refine Fin.base (.id' ?_ (.int _ _)))
   rw [hr9]
   clear q1 q2 hso hi hx hr hr9
   cases r1<;>cases r2<;>simp_all [slot,Nat.beq]
  ·have hb:(r2&&(decide (sd=0)||decide (sd=1)))=true:=by simpa only [Bool.not_eq_false'] using h
   refine PW.skip ?_
   refine PW.e ?_
   refine PL.round ?_;refine PW.e ?_
   (repeat refine PW.seq ?_);refine PW.cond (t:=_) rfl (fun h=> ?_) (fun h=> ?_)
   ·cases h
   refine PW.exit ?_
   refine PW.e ?_
   (refine PW.ret ⟨_,rfl,?_⟩;first|refine .inl ⟨?_,rfl⟩|refine Fin.base (.id' ?_ (.bool _))|refine Fin.base (.id' ?_ (.int _ _)))
   rw [hr9]
   clear q1 q2 hso hi hx hr hr9
   cases r1<;>cases r2<;>simp_all [slot,Nat.beq]
 ·cases h
def zgc (c:Cx) (m:Mb):Bool:=(decide (c.t=2)&& !(m.ua&& !m.ub))||(!m.ua&& !m.ub)
def d0S (c:Cx) (m:Mb):Bool:=zca c m.fp m.ua m.va m.vb m.vc m.vd m.sa m.sb
def d1S (c:Cx) (m:Mb):Bool:=zca c m.fp m.ub m.ve m.vf m.vg m.vh m.sc m.sd
def znn (c:Cx) (m:Mb):Bool:= !(zgc c m)&&(!(m.fp&& !(bcx c))&&(d0S c m&&d1S c m))
set_option maxHeartbeats 3200000 in
set_option maxRecDepth 10000 in
theorem zse (c:Cx) (m:Mb) (i:Nat) (H:za) (hi:H[i]? =some (mB m)):CallOk Tryz.prog 208 [.agg (cxc c),.ptr i 0 0] H (.bool (znn c m)) H:=by
 have f0:=fun K=>zp8 c m m.ua i (H++K) (zZ hi)
 have f1:=fun K=>zp7 c m m.ub i (H++K) (zZ hi)
 have bo:=fun H=>ziP c H
 have hr:znn c m=(!(zgc c m)&&(!(m.fp&& !(bcx c))&&(d0S c m&&d1S c m))):=rfl
 have hub:zgc c m=((decide (c.t=2)&& !(m.ua&& !m.ub))||(!m.ua&& !m.ub)):=rfl
 change ∀ K,CallOk _ _ _ _ (.bool (d0S c m)) _ at f0
 change ∀ K,CallOk _ _ _ _ (.bool (d1S c m)) _ at f1
 generalize znn c m=r at hr ⊢
 generalize d0S c m=e0 at f0 hr
 generalize d1S c m=e1 at f1 hr
 generalize zgc c m=ux at hub hr
 generalize bcx c=bk at bo hr
 obtain ⟨k,ua,ub,fp,fd,va,vb,vc,vd,ve,vf,vg,vh,sa,sb,sc,sd,dl,ca,cb,cc,cd,ce,cf,lv⟩:=m
 obtain ⟨t,s,ii,n⟩:=c
 simp only [mB,mbc] at hi hr hub f0 f1
 have hx:=fun K=>zZ (K:=K) hi
 refine CallOk.body (F0:=[(0,.agg [.int .i64 t,.int .i64 s,.bool ii,.bool n]),(1,.ptr i 0 0)]) Tryz.func208 rfl Tryz.ntmps208 Tryz.results208 rfl (by kernel_rfl) rfl ?_
 refine PW.e ?_
 (repeat refine PW.seq ?_)
 refine PW.rgv (P:=Tryz.prog) [1,2] 25 (.bool ux) ?_ ?_ ?_
 ·rfl
 ·simp (disch:=omega) only [go_sem,↓reduceIte,reduceCtorEq,hx]
  (repeat' ((first|refine zk ?_ ?_|refine zn ?_ ?_|refine zT ?_ ?_|refine zS ?_ ?_|refine zR ?_ ?_|refine And.intro ?_ ?_)<;>intro h<;>(try simp only [nqb] at h)<;>simp (disch:=omega) only [go_sem,↓reduceIte,reduceCtorEq,hx,h]))
  all_goals (clear f0 f1 bo hi hx hr;cases ua<;>cases ub<;>(simp_all [slot,Nat.beq]<;>first|rfl|omega|(rw [Bool.eq_iff_iff];simp;done)|(rw [Bool.eq_iff_iff];simp;omega)))
 (repeat refine PW.seq ?_);refine PW.cond (t:=_) rfl (fun h=> ?_) (fun h=> ?_)
 ·subst h
  refine PW.e ?_
  (refine PW.ret ⟨_,rfl,?_⟩;first|refine .inl ⟨?_,rfl⟩|refine Fin.base (.id' ?_ (.bool _))|refine Fin.base (.id' ?_ (.int _ _)))
  rw [hr];rfl
 subst h
 refine PW.skip ?_
 (repeat refine PW.seq ?_)
 refine PW.rgv (P:=Tryz.prog) [1,2] 34 (.bool (fp&& !bk)) ?_ ?_ ?_
 ·rfl
 ·simp (disch:=omega) only [go_sem,↓reduceIte,reduceCtorEq,hx]
  (repeat' (first|((first|refine zk ?_ ?_|refine And.intro ?_ ?_)<;>intro h<;>(try simp only [nqb] at h)<;>simp (disch:=omega) only [go_sem,↓reduceIte,reduceCtorEq,hx,h])|((first|refine VCx.call (bo _) rfl ?_);simp (disch:=omega) only [go_sem,↓reduceIte,reduceCtorEq,hx])))
  all_goals (clear f0 f1 bo hi hx hr;(simp_all [slot,Nat.beq]<;>first|rfl|omega|(rw [Bool.eq_iff_iff];simp;done)|(rw [Bool.eq_iff_iff];simp;omega)))
 (repeat refine PW.seq ?_);refine PW.cond (t:=_) rfl (fun h=> ?_) (fun h=> ?_)
 ·refine PW.e ?_
  (refine PW.ret ⟨_,rfl,?_⟩;first|refine .inl ⟨?_,rfl⟩|refine Fin.base (.id' ?_ (.bool _))|refine Fin.base (.id' ?_ (.int _ _)))
  rw [hr,h];rfl
 rw [h] at hr
 refine PW.skip ?_
 refine PW.f (fun K k=>by simp (disch:=omega) only [go_sem,↓reduceIte,reduceCtorEq,hx];exact k) ?_
 (repeat refine PW.seq ?_);refine PW.block (PW.loop ?_)
 refine PL.round ?_;refine PW.e ?_
 (repeat refine PW.seq ?_);refine PW.cond (t:=_) rfl (fun h=> ?_) (fun h=> ?_)
 rotate_left
 ·cases h
 refine PW.skip ?_
 (repeat refine PW.seq ?_);refine PW.block ?_
 refine PW.e ?_
 refine PW.f (fun K k=>by simp (disch:=omega) only [go_sem,↓reduceIte,reduceCtorEq];refine VCx.call (f0 _) rfl ?_;simp (disch:=omega) only [go_sem,↓reduceIte,reduceCtorEq];exact k) ?_
 (repeat refine PW.seq ?_);refine PW.cond (t:=_) rfl (fun h=> ?_) (fun h=> ?_)
 ·have he:e0=false:=by simpa using h
  refine PW.e ?_
  (refine PW.ret ⟨_,rfl,?_⟩;first|refine .inl ⟨?_,rfl⟩|refine Fin.base (.id' ?_ (.bool _))|refine Fin.base (.id' ?_ (.int _ _)))
  rw [hr,he];rfl
 have he:e0=true:=by simpa using h
 refine PW.skip ?_
 refine PW.e ?_
 refine PL.round ?_;refine PW.e ?_
 (repeat refine PW.seq ?_);refine PW.cond (t:=_) rfl (fun h=> ?_) (fun h=> ?_)
 rotate_left
 ·cases h
 refine PW.skip ?_
 (repeat refine PW.seq ?_);refine PW.block ?_
 refine PW.e ?_
 refine PW.f (fun K k=>by simp (disch:=omega) only [go_sem,↓reduceIte,reduceCtorEq];refine VCx.call (f1 _) rfl ?_;simp (disch:=omega) only [go_sem,↓reduceIte,reduceCtorEq];exact k) ?_
 (repeat refine PW.seq ?_);refine PW.cond (t:=_) rfl (fun h=> ?_) (fun h=> ?_)
 ·have he1:e1=false:=by simpa using h
  refine PW.e ?_
  (refine PW.ret ⟨_,rfl,?_⟩;first|refine .inl ⟨?_,rfl⟩|refine Fin.base (.id' ?_ (.bool _))|refine Fin.base (.id' ?_ (.int _ _)))
  rw [hr,he,he1];rfl
 have he1:e1=true:=by simpa using h
 refine PW.skip ?_
 refine PW.e ?_
 refine PL.round ?_;refine PW.e ?_
 (repeat refine PW.seq ?_);refine PW.cond (t:=_) rfl (fun h=> ?_) (fun h=> ?_)
 ·cases h
 refine PW.exit ?_
 refine PW.e ?_
 (refine PW.ret ⟨_,rfl,?_⟩;first|refine .inl ⟨?_,rfl⟩|refine Fin.base (.id' ?_ (.bool _))|refine Fin.base (.id' ?_ (.int _ _)))
 rw [hr,he,he1];rfl
def zix (c:Cx) (m:Mb):Bool:= !(decide (c.t=1)||zgc c m)&&(!((m.fp&& !(bcx c))||(m.fd&& !(bcx c)))&&(d0S c m&&(d1S c m&&(lvr m.lv&&(fbl (cdl m) m.lv&&(if hlM m then win m.dl 30 else !m.fd&&decide (m.dl=0)))))))
def ztw:List Int:=List.replicate 64 0
def zl384:List Int:=List.replicate 384 0
def zlv (lv:List Int):Bool:=zbk lv 0&&(zbk lv 1&&(zbk lv 2&&(zbk lv 3&&(zbk lv 4&&(zbk lv 5&&true)))))
theorem zsp (xs ys:List PV):zaQ Tryz.prog 10 151 (.agg xs) (.agg ys)=if szT Tryz.prog 3=some 1∧xs.length=64∧ys.length=64 then zdH (.int .i64) xs ys else none:=by kernel_rfl
theorem ztO:szT Tryz.prog 3=some 1:=by kernel_rfl
theorem eqBl (bl:List Int) (h:bl.length=64):zaQ Tryz.prog 10 151 (.agg (is bl)) (.agg (is ztw))=some (bl==List.replicate 64 0):=by
 rw [zsp,if_pos ⟨ztO,by rw [zu];exact h,by rw [zu];rfl⟩]
 exact zfP .i64 bl (List.replicate 64 0) (by rw [h];rfl)
theorem zru (xs:List PV) (off:Nat):rd Tryz.prog 151 xs off=if off+64≤xs.length then some (.agg ((xs.drop off).take 64)) else none:=by kernel_rfl
theorem zv8 (lv:List Int) (n:Nat) (hl:lv.length=384) (hn:n<6):rd Tryz.prog 151 (is lv) (n * 64)=some (.agg (is ((lv.drop (n * 64)).take 64))):=by
 rw [zru,if_pos (by rw [zu];omega),zev,zdy]
theorem ztv (n:Nat) (hn:n<6):(zl384.drop (n * 64)).take 64=ztw:=by
 unfold zl384 ztw
 rw [List.drop_replicate,List.take_replicate]
 congr 1;omega
theorem zp9 (xs ys:List PV):zaQ Tryz.prog 11 152 (.agg xs) (.agg ys)=zhj (zaQ Tryz.prog 10) Tryz.prog 151 64 xs ys [0,1,2,3,4,5]:=by kernel_rfl
theorem zbW (lv:List Int) (n:Nat) (r:List Nat) (b:Bool) (hl:lv.length=384) (hn:n<6) (hr:zhj (zaQ Tryz.prog 10) Tryz.prog 151 64 (is lv) (is zl384) r=some b):zhj (zaQ Tryz.prog 10) Tryz.prog 151 64 (is lv) (is zl384) (n::r)=some (zbk lv n&&b):=by
 have h1:=zv8 lv n hl hn
 have h2:=zv8 zl384 n (List.length_replicate) hn
 rw [ztv n hn] at h2
 have h3:=eqBl _ (ziO lv n hl hn)
 unfold zhj
 rw [h1,h2]
 simp only [h3,hr]
 rfl
theorem eqLv (lv:List Int) (hl:lv.length=384):zaQ Tryz.prog 11 152 (.agg (is lv)) (.agg (is zl384))=some (zlv lv):=by
 rw [zp9]
 exact zbW lv 0 _ _ hl (by omega) (zbW lv 1 _ _ hl (by omega) (zbW lv 2 _ _ hl (by omega) (zbW lv 3 _ _ hl (by omega) (zbW lv 4 _ _ hl (by omega) (zbW lv 5 _ _ hl (by omega) rfl)))))
theorem zrt (xs:List PV) (off:Nat):rd Tryz.prog 152 xs off=if off+384≤xs.length then some (.agg ((xs.drop off).take 384)) else none:=by kernel_rfl
def zMb:Mb:=⟨0,false,false,false,false,0,0,0,0,0,0,0,0,0,0,0,0,0,false,false,false,false,false,false,zl384⟩
def zmv:List PV:=mbc zMb
theorem zu9:zdX Tryz.prog 154 []=some (.agg zmv):=by kernel_rfl
def mbF (P:Program):List Field:=match P.underlying 154 with|some (.struct fs)=>fs.toList|_=>[]
def zuq (P:Program):List Field:=(mbF P).take 8
def zur (P:Program):List Field:=(mbF P).drop 8
theorem zjF (eq:TypeId→PV→PV→Option Bool) (P:Program) (xs ys:List PV) (s:List Field) (b:Bool) (hs:zbS eq P xs ys s=some b):∀ (r:List Field) (a:Bool),zbS eq P xs ys r=some a→zbS eq P xs ys (r++s)=some (a&&b)
 | [],a,h=>by
  cases h
  exact hs
 | f::r,a,h=>by
  rw [List.cons_append]
  revert h
  simp only [zbS]
  cases decide (f.name = "_") with
  | true=>intro h;cases h
  | false=>
   cases rd P f.type xs f.offset with
   | none=>intro h;cases h
   | some x=>
    cases rd P f.type ys f.offset with
    | none=>intro h;cases h
    | some y=>
     dsimp only
     cases eq f.type x y with
     | none=>intro h;cases h
     | some c=>
      dsimp only
      cases hq:zbS eq P xs ys r with
      | none=>intro h;cases h
      | some q=>
       rw [zjF eq P xs ys s b hs r q hq]
       intro h
       cases h
       simp [Bool.and_assoc]
def zA (m:Mb):Bool:=
 (m.k==0)&&(((m.ua==false)&&((m.ub==false)&&true))&&((m.fp==false)&&((m.fd==false)&&((((((m.va==0)&&((m.vb==0)&&true))&&(((m.vc==0)&&((m.vd==0)&&true))&&true)))&&(((((m.ve==0)&&((m.vf==0)&&true))&&(((m.vg==0)&&((m.vh==0)&&true))&&true)))&&true))&&((((m.sa==0)&&((m.sb==0)&&true))&&((((m.sc==0)&&((m.sd==0)&&true)))&&true))&&((m.dl==0)&&(((m.ca==false)&&((m.cb==false)&&((m.cc==false)&&((m.cd==false)&&((m.ce==false)&&((m.cf==false)&&true))))))&&true)))))))
def zmb (m:Mb):Bool:=zA m&&(zlv m.lv&&true)
theorem zwg (k:Int) (ua ub fp fd:Bool) (va vb vc vd ve vf vg vh sa sb sc sd dl:Int) (ca cb cc cd ce cf:Bool) (lv:List Int):zbS (zaQ Tryz.prog 11) Tryz.prog (mbc ⟨k,ua,ub,fp,fd,va,vb,vc,vd,ve,vf,vg,vh,sa,sb,sc,sd,dl,ca,cb,cc,cd,ce,cf,lv⟩) zmv (zuq Tryz.prog)=some (zA ⟨k,ua,ub,fp,fd,va,vb,vc,vd,ve,vf,vg,vh,sa,sb,sc,sd,dl,ca,cb,cc,cd,ce,cf,lv⟩):=by kernel_rfl
theorem zm8 (xs ys:List PV) (x y:PV) (b:Bool) (hx:rd Tryz.prog 152 xs 24=some x) (hy:rd Tryz.prog 152 ys 24=some y) (hb:zaQ Tryz.prog 11 152 x y=some b):zbS (zaQ Tryz.prog 11) Tryz.prog xs ys (zur Tryz.prog)=some (b&&true):=by
 have e:zbS (zaQ Tryz.prog 11) Tryz.prog xs ys (zur Tryz.prog)=match rd Tryz.prog 152 xs 24,rd Tryz.prog 152 ys 24 with
   | some a,some b=>match zaQ Tryz.prog 11 152 a b with
    | some c=>some (c&&true)
    | none=>none
   | _,_=>none:=by kernel_rfl
 rw [e,hx,hy]
 simp only [hb]
theorem zpy (m:Mb):(mbc m).drop 24=is m.lv:=rfl
theorem zV (m:Mb) (hl:m.lv.length=384):(mbc m).length=408:=by
 simp only [mbc,List.length_cons,zu,hl]
theorem zv4 (m:Mb) (hl:m.lv.length=384):rd Tryz.prog 152 (mbc m) 24=some (.agg (is m.lv)):=by
 rw [zrt,if_pos (by rw [zV m hl];omega),zpy,List.take_of_length_le (by rw [zu];omega)]
theorem zrH (xs ys:List PV):zaQ Tryz.prog 12 154 (.agg xs) (.agg ys)=zbS (zaQ Tryz.prog 11) Tryz.prog xs ys ((zuq Tryz.prog)++(zur Tryz.prog)):=by kernel_rfl
theorem eqMb (m:Mb) (hl:m.lv.length=384):zdi Tryz.prog .eql 154 (.agg (mbc m)) (.agg zmv)=some (.bool (zmb m)):=by
 have e:∀ x y,zdi Tryz.prog .eql 154 x y=match zaQ Tryz.prog 12 154 x y with|some b=>peq .eql b|none=>none:=fun x y=>by kernel_rfl
 have hz:zmv=mbc zMb:=rfl
 rw [e,zrH,hz,zjF _ _ _ _ _ _ (zm8 _ _ _ _ _ (zv4 m hl) (zv4 zMb List.length_replicate) (eqLv m.lv hl)) (zuq Tryz.prog) (zA m) (zwg ..)]
 rfl
theorem znF:zlv zl384=true:=by decide
end Go.Proofs.YtjgmdlcjbgiekaaGreatDoor.Sc
