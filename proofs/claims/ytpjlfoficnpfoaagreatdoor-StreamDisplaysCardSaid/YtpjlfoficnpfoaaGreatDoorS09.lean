/-
  Parts of the proof, put together in one text. No condition.
-/
import Derived.Test.YtpjlfoficnpfoaaGreatDoorS08
open Bool renaming eq_iff_iff → qA, not_eq_false' → qE, not_eq_true' → qF
open Int renaming toNat_natCast → qG, le_refl → qQ
open List renaming replicate → qC, all_eq_true → qD, length_cons → qH, mem_range → qI, length_append → qJ, length_nil → qK, getElem?_eq_some_iff → qM, getElem?_eq_getElem → qN, length_replicate → qO, drop_succ_cons → qP
open Nat renaming beq → qB, strongRecOn → qL
namespace Go.Proofs.YtpjlfoficnpfoaaGreatDoor.Sc
set_option linter.all false
open Pm Ty Go.RowKit
structure En where
 f:Int
 l:Int
 ty:Int
 pa:Int
 fu:Int
 sh:Int
def zb7(a b:Pi):Bool:= !(a.st==3)&&(!(b.st==3)&&(!(a.st==b.st)&&((a.ty==b.ty)&&((a.od==b.od)&&((a.tf==b.tf)&&(a.rp==b.rp))))))
def zcV(h:Pi):Bool:=h.tf==(h.st==1)
def zxp:Pi:=⟨0,0,0,false,false,false⟩
def hdA(L:List It)(n:Int):Pi:=match L[n.toNat]? with|some x=>x.p|none=>zxp
structure As where
 sq:Sq
 kn:Bool
 op:Int
 rs:Bool
 lk:Int
structure FmY where
 f:Int
 l:Int
 sq:Sq
 hd:Pi
 rs:Bool
 lk:Int
def As.clr(a:As):As:={ a with rs:=true,lk:= -1 }
def As.cmp(a:As)(f l:Int)(h:Pi):As×Option FmY:=({ a with rs:=false,lk:= -1 },some ⟨f,l,a.sq,h,a.rs,a.lk⟩)
def As.pic(L:List It)(a:As)(i:Int)(h:Pi):As×Option FmY:=
 if(a.kn&&zP a.sq h)=false then({ a with op:= -1 },none)
 else if h.st=3 then As.cmp { a with op:= -1 } i i h
 else if a.op≠-1∧zb7 (hdA L a.op) h=true then As.cmp { a with op:= -1 } a.op i (hdA L a.op)
 else if zcV h=true then({ a with op:=i },none)
 else({ a with op:= -1 },none)
def As.seq(a:As)(s:Sq):As:=if(a.kn&&sqE a.sq s)=true then a else{ a.clr with sq:=s,kn:=zcz s }
def As.grp(a:As)(c b:Bool):As:=if c then a.clr else if b then{ a with lk:=2 }else{ a with lk:=0 }
def As.fin(a:As):As:={ a.clr with kn:=false }
def As.item(L:List It)(a:As)(i:Int)(x:It):As×Option FmY:=
 if x.k=3 then a.pic L i x.p
 else if x.k=1 then(As.seq { a with op:= -1 } x.s,none)
 else if x.k=2 then(As.grp { a with op:= -1 } x.gc x.gb,none)
 else if x.k=4 then(As.fin { a with op:= -1 },none)
 else({ a with op:= -1 },none)
abbrev Ent:=En×Sq×Pi
def zV(v:Int)(e:Ent):Ent:=({ e.1 with sh:=v },e.2)
structure Dp where
 en:List Ent
 old:Int
 new:Int
 wt:Bool
 lk:Int
 sh:Int
def Dp.show(d:Dp)(n:Int):Dp:={ d with en:=d.en.modify n.toNat (zV d.sh),sh:=d.sh+1 }
def Dp.flush(d:Dp):Dp:=if d.wt then{ d.show d.new with wt:=false }else d
def fmE(f:FmY)(pa fu:Int):Ent:=(⟨f.f,f.l,f.hd.ty,pa,fu,0⟩,f.sq,f.hd)
def Dp.frame(d:Dp)(f:FmY):Dp:=
 if f.hd.ty=3 then
  if d.lk≠0∨d.old= -1∨d.new= -1 then d
  else Dp.show { d with en:=d.en++[fmE f d.old d.new] } d.en.length
 else if f.hd.ty=2∧d.new= -1 then d
 else
  let e:=Dp.flush { d with en:=d.en++[fmE f d.new (-1)] }
  { e with old:=e.new,new:=d.en.length,wt:=true,lk:=max 0 (e.lk - 1) }
def Dp.res(d:Dp)(rs:Bool):Dp:=if rs then{ d.flush with old:= -1,new:= -1,lk:=0 }else d
def Dp.lnk(d:Dp)(lk:Int):Dp:=if lk≠-1 then{ d with lk:=lk }else d
def Dp.step(d:Dp)(f:FmY):Dp:=((d.res f.rs).lnk f.lk).frame f
def Dp.stepO(d:Dp):Option FmY→Dp
 | none=>d
 | some f=>d.step f
def as0(z:Sq):As:=⟨z,false,-1,false,-1⟩
def dp0:Dp:=⟨[],-1,-1,false,0,0⟩
def sq0:Sq:=⟨0,0,0,0,false,0,0,qC 64 0,qC 64 0⟩
def asN(L:List It)(a:As):Int→List It→As
 | _,[]=>a
 | i,x::r=>asN L (a.item L i x).1 (i+1) r
def dpN(L:List It)(a:As)(d:Dp):Int→List It→Dp
 | _,[]=>d
 | i,x::r=>dpN L (a.item L i x).1 (d.stepO (a.item L i x).2) (i+1) r
def zaa(L:List It):List Ent:=(dpN L (as0 sq0) dp0 0 L).flush.en
structure Wk where
 hd:Bool
 sq:Sq
 old:Int
 new:Int
 wt:Bool
 op:Int
 no:Int
 sh:Int
 out:List En
 sk:Bool
def zkT(v:Int)(e:En):En:={ e with sh:=v }
def Wk.disp(w:Wk):Wk:=if w.wt then{ w with out:=w.out.modify w.new.toNat (zkT w.sh),sh:=w.sh+1 }else w
def Wk.reset(w:Wk):Wk:={ w.disp with old:= -1,new:= -1,wt:=false,no:=0 }
def Wk.drop(w:Wk):Wk:={ w with sk:=w.sk||decide (0≤w.op),op:= -1 }
def Wk.frame(w:Wk)(f l ty:Int):Wk:=
 if ty=3 then
  if w.no>0∨w.old<0∨w.new<0 then{ w with sk:=true }
  else{ w with out:=w.out++[⟨f,l,ty,w.old,w.new,w.sh⟩],sh:=w.sh+1 }
 else if ty=2∧w.new<0 then{ w with sk:=true }
 else
  let v:=Wk.disp { w with out:=w.out++[⟨f,l,ty,w.new,-1,0⟩] }
  { v with old:=v.new,new:=w.out.length,wt:=true,no:=max 0 (v.no - 1) }
def Wk.picture(L:List It)(w:Wk)(i:Int)(h:Pi):Wk:=
 let pr:=decide (0≤w.op)&&zb7 (hdA L (max w.op 0)) h
 if(!w.hd||(!(zP w.sq h)||(!(h.st==3)&&(!pr&& !(zcV h)))))=true then{ w.drop with sk:=true }
 else if h.st=3 then w.drop.frame i i h.ty
 else if pr=true then Wk.frame { w with op:= -1 } w.op i (hdA L w.op).ty
 else{ w.drop with op:=i }
def Wk.seq(w:Wk)(s:Sq):Wk:=if(!w.hd|| !(sqE w.sq s))=true then{ w.reset with hd:=zcz s,sq:=s }else w
def Wk.grp(w:Wk)(c b:Bool):Wk:=if c then w.reset else if b then{ w with no:=2 }else{ w with no:=0 }
def Wk.step(L:List It)(w:Wk)(i:Int)(x:It):Wk:=
 if x.k=3 then w.picture L i x.p
 else if x.k=1 then w.drop.seq x.s
 else if x.k=2 then w.drop.grp x.gc x.gb
 else if x.k=4 then{ w.drop.reset with hd:=false }
 else w.drop
def wkN(L:List It)(w:Wk):Int→List It→Wk
 | _,[]=>w
 | i,x::r=>wkN L (w.step L i x) (i+1) r
def zpq(a:As)(d:Dp):Dp:=(d.res a.rs).lnk a.lk
structure Same(w:Wk)(a:As)(d:Dp):Prop where
 hd:w.hd=a.kn
 sq:w.sq=a.sq
 op:w.op=a.op
 opr:w.op= -1∨0≤w.op
 old:w.old=(zpq a d).old
 new:w.new=(zpq a d).new
 wt:w.wt=(zpq a d).wt
 no:w.no=(zpq a d).lk
 sh:w.sh=(zpq a d).sh
 out:w.out=(zpq a d).en.map (·.1)
 nor:0≤w.no
 oldr: -1≤w.old
 newr: -1≤w.new
theorem map_set(en:List Ent)(n:Nat)(v:Int):(en.modify n (zV v)).map (·.1)=(en.map (·.1)).modify n (zkT v):=by
 induction en generalizing n with
 | nil=>cases n<;>rfl
 | cons e r ih=>cases n with
  | zero=>rfl
  | succ n=>simp only[List.modify_succ_cons,List.map_cons,ih]
theorem zbC(d:Dp):d.flush.old=d.old∧d.flush.new=d.new∧d.flush.wt=false∧d.flush.lk=d.lk:=by unfold Dp.flush Dp.show;cases h:d.wt<;>simp[h]
theorem zw5{a b:Sq}(h:sqE a b=true):a=b:=by obtain⟨a1,a2,a3,a4,a5,a6,a7,a8,a9⟩:=a;obtain⟨b1,b2,b3,b4,b5,b6,b7,b8,b9⟩:=b;simp only[sqE,sqA,Bool.and_eq_true,beq_iff_eq]at h;simp_all
def cur(L:List It)(n:Nat):Sq:=(L.take n).foldl (fun q x=>if x.k=1 then x.s else q) sq0
theorem zhV{L:List It}{n:Nat}(h:n<L.length):cur L (n+1)=if L[n].k=1 then L[n].s else cur L n:=by unfold cur;rw[List.take_succ,qN h,List.foldl_append];rfl
theorem zhF{L:List It}{n:Nat}(h:n<L.length):hdA L (n:Int)=L[n].p:=by unfold hdA;rw[qG,qN h]
def FOk(L:List It)(f l:Int)(sq:Sq)(hd:Pi):Prop:=∃(n m:Nat) (hn:n<L.length) (hm:m<L.length),f=(n:Int)∧l=(m:Int)∧((m=n∧hd.st=3)∨(m=n+1∧zcV hd=true∧zb7 hd L[m].p=true∧zP sq L[m].p=true))∧L[n].k=3∧L[m].k=3∧hd=L[n].p∧sq=cur L n∧zP sq hd=true
def ztz(L:List It)(a:As)(i:Nat):Prop:=a.sq=cur L i∧(a.op= -1∨∃(o:Nat) (ho:o<L.length),a.op=(o:Int)∧o+1=i∧L[o].k=3∧zcV L[o].p=true∧zP a.sq L[o].p=true)
theorem zAb(L:List It):ztz L (as0 sq0) 0:=⟨by unfold cur;rfl,.inl rfl⟩
theorem zpO{L:List It}{a:As}{i:Nat}(h:ztz L a i)(hi:i<L.length):ztz L (a.item L (i:Int) L[i]).1 (i+1)∧∀ f,(a.item L (i:Int) L[i]).2=some f→FOk L f.f f.l f.sq f.hd:=by
 obtain⟨hs,ho⟩:=h;have hc:=zhV hi;have nope:∀{b:As},b.sq=a.sq→b.op= -1→L[i].k≠1→ztz L b (i+1):=fun h1 h2 h3=>⟨by rw[h1,hs,hc,if_neg h3],.inl h2⟩;unfold As.item;by_cases k3:L[i].k=3
 ·rw[if_pos k3];have k1:L[i].k≠1:=om;unfold As.pic;by_cases hv:(a.kn&&zP a.sq L[i].p)=false
  ·rw[if_pos hv];exact⟨nope rfl rfl k1,fun f hf=>by cases hf⟩
  rw[if_neg hv];have hv':zP a.sq L[i].p=true:=by cases h1:a.kn<;>cases h2:zP a.sq L[i].p<;>simp_all
  by_cases hw:L[i].p.st=3
  ·rw[if_pos hw];refine⟨nope rfl rfl k1,fun f hf=> ?_⟩;unfold As.cmp at hf;injection hf with hf;subst hf;exact⟨i,i,hi,hi,rfl,rfl,.inl ⟨rfl,hw⟩,k3,k3,rfl,hs,hv'⟩
  rw[if_neg hw];by_cases hp:a.op≠-1∧zb7 (hdA L a.op) L[i].p=true
  ·rw[if_pos hp];refine⟨nope rfl rfl k1,fun f hf=> ?_⟩;unfold As.cmp at hf;injection hf with hf;subst hf;rcases ho with h1|⟨o,hol,e1,e2,e3,e4,e5⟩
   ·exact absurd h1 hp.1
   ·have h2:=hp.2;rw[e1,zhF hol]at h2;subst e2;have ec:cur L (o+1)=cur L o:=by rw[zhV hol,if_neg om]
    refine⟨o,o+1,hol,hi,e1,rfl,.inr ⟨rfl,?_,?_,hv'⟩,e3,k3,?_,hs.trans ec,?_⟩
    ·show zcV (hdA L a.op)=true;rw[e1,zhF hol];exact e4
    ·show zb7 (hdA L a.op) _=true;rw[e1,zhF hol];exact h2
    ·show hdA L a.op=_;rw[e1,zhF hol]
    ·show zP a.sq (hdA L a.op)=true;rw[e1,zhF hol];exact e5
  rw[if_neg hp];by_cases hl:zcV L[i].p=true
  ·rw[if_pos hl];exact⟨⟨by show a.sq=_;rw[hs,hc,if_neg k1],.inr ⟨i,hi,rfl,rfl,k3,hl,hv'⟩⟩,fun f hf=>by cases hf⟩
  ·rw[if_neg hl];exact⟨nope rfl rfl k1,fun f hf=>by cases hf⟩
 rw[if_neg k3];by_cases k1:L[i].k=1
 ·rw[if_pos k1];refine⟨?_,fun f hf=>by cases hf⟩;unfold As.seq;dsimp only;by_cases he:(a.kn&&sqE a.sq L[i].s)=true
  ·rw[if_pos he];rw[Bool.and_eq_true]at he;exact⟨by rw[hc,if_pos k1];exact zw5 he.2,.inl rfl⟩
  ·rw[if_neg he];exact⟨by rw[hc,if_pos k1],.inl rfl⟩
 rw[if_neg k1];by_cases k2:L[i].k=2
 ·rw[if_pos k2];refine⟨?_,fun f hf=>by cases hf⟩;unfold As.grp;split
  ·exact nope rfl rfl k1
  ·split<;>exact nope rfl rfl k1
 rw[if_neg k2];split
 ·exact⟨nope rfl rfl k1,fun f hf=>by cases hf⟩
 ·exact⟨nope rfl rfl k1,fun f hf=>by cases hf⟩
def EOk(L:List It)(j:Nat)(e:Ent):Prop:=FOk L e.1.f e.1.l e.2.1 e.2.2∧e.1.ty=e.2.2.ty∧(-1≤e.1.pa∧e.1.pa<j)∧(-1≤e.1.fu∧e.1.fu<j)∧(e.1.ty=3→0≤e.1.pa∧0≤e.1.fu)∧(e.1.ty=2→0≤e.1.pa)∧(e.1.ty≠3→e.1.fu= -1)
theorem EOk.set{L:List It}{j:Nat}{e:Ent}(h:EOk L j e)(v:Int):EOk L j (zV v e):=h
structure DInv(L:List It)(d:Dp):Prop where
 e:∀(j:Nat) (x:Ent),d.en[j]? =some x→EOk L j x
 old: -1≤d.old∧d.old<d.en.length
 new: -1≤d.new∧d.new<d.en.length
 wn:d.wt=true→0≤d.new
 sh:d.sh=d.en.length - (if d.wt then 1 else 0)
 s:∀(j:Nat) (x:Ent),d.en[j]? =some x→(d.wt=true∧(j:Int)=d.new)∨(0≤x.1.sh∧x.1.sh<d.sh)
 i:∀(j k:Nat) (x y:Ent),d.en[j]? =some x→d.en[k]? =some y→¬(d.wt=true∧(j:Int)=d.new)→¬(d.wt=true∧(k:Int)=d.new)→x.1.sh=y.1.sh→j=k
theorem zzZ(L:List It):DInv L dp0:=⟨fun j x h=>by simp[dp0]at h,by simp[dp0],by simp[dp0],fun h=>by simp[dp0]at h,by simp[dp0],fun j x h=>by simp[dp0]at h,fun j k x y h=>by simp[dp0]at h⟩
theorem zfT{L:List It}{en:List Ent}{n:Nat}{sh:Int}{w:Nat→Prop}(hwn:¬ w n)(hsn:0≤sh)(he:∀(j:Nat) (x:Ent),en[j]? =some x→EOk L j x)
  (hs:∀(j:Nat) (x:Ent),en[j]? =some x→j=n∨w j∨(0≤x.1.sh∧x.1.sh<sh)) (hi:∀(j k:Nat) (x y:Ent),en[j]? =some x→en[k]? =some y→j≠n→k≠n→¬ w j→¬ w k→x.1.sh=y.1.sh→j=k):
  (∀(j:Nat) (x:Ent),(en.modify n (zV sh))[j]? =some x→EOk L j x)∧(∀(j:Nat) (x:Ent),(en.modify n (zV sh))[j]? =some x→w j∨(0≤x.1.sh∧x.1.sh<sh+1))∧(∀(j k:Nat) (x y:Ent),(en.modify n (zV sh))[j]? =some x→(en.modify n (zV sh))[k]? =some y→¬ w j→¬ w k→x.1.sh=y.1.sh→j=k):=by
 have at1:∀(j:Nat) (x:Ent),(en.modify n (zV sh))[j]? =some x→∃ y,en[j]? =some y∧((j=n∧x=zV sh y)∨(j≠n∧x=y)):=fun j x h=>by
  rw[List.getElem?_modify]at h;cases hy:en[j]? with
  | none=>rw[hy]at h;cases h
  | some y=>
   rw[hy]at h;refine⟨y,rfl,?_⟩;by_cases hj:n=j
   ·subst hj;simp at h;exact .inl ⟨rfl,h.symm⟩
   ·simp[hj]at h;exact .inr ⟨fun e=>hj e.symm,h.symm⟩
 refine⟨fun j x h=> ?_,fun j x h=> ?_,fun j k x y hx hy wj wk hxy=> ?_⟩
 ·obtain⟨y,hy,h1|h1⟩:=at1 j x h
  ·rw[h1.2];exact(he j y hy).set sh
  ·rw[h1.2];exact he j y hy
 ·obtain⟨y,hy,h1|h1⟩:=at1 j x h
  ·rw[h1.2];right;show 0≤sh∧sh<sh+1;omega
  ·rcases hs j y hy with h2|h2|h2
   ·exact absurd h2 h1.1
   ·exact .inl h2
   ·rw[h1.2];right;omega
 ·obtain⟨x',hx',a1|a1⟩:=at1 j x hx
  ·obtain⟨y',hy',b1|b1⟩:=at1 k y hy
   ·rw[a1.1,b1.1]
   ·exfalso;rcases hs k y' hy' with h2|h2|h2
    ·exact b1.1 h2
    ·exact wk h2
    ·rw[a1.2,b1.2]at hxy;have:sh=y'.1.sh:=hxy;omega
  ·obtain⟨y',hy',b1|b1⟩:=at1 k y hy
   ·exfalso;rcases hs j x' hx' with h2|h2|h2
    ·exact a1.1 h2
    ·exact wj h2
    ·rw[a1.2,b1.2]at hxy;have:x'.1.sh=sh:=hxy;omega
   ·rw[a1.2,b1.2]at hxy;exact hi j k x' y' hx' hy' a1.1 b1.1 wj wk hxy
theorem zhT{L:List It}{d:Dp}(h:DInv L d):DInv L d.flush∧d.flush.wt=false:=by
 unfold Dp.flush;cases hw:d.wt with
 | false=>rw[if_neg sp];exact⟨h,hw⟩
 | true=>
  rw[if_pos rfl];refine⟨?_,rfl⟩;have hn:=h.new;have hn0:=h.wn hw;have hsh:=h.sh;rw[hw,if_pos rfl]at hsh;obtain⟨g1,g2,g3⟩:=zfT (L:=L) (en:=d.en) (n:=d.new.toNat) (sh:=d.sh) (w:=fun _=>False) (fun h=>h) om h.e (fun j x hx=>by
   rcases h.s j x hx with h1|h1
   ·exact .inl om
   ·exact .inr (.inr h1)) (fun j k x y hx hy h1 h2 _ _ h3=>h.i j k x y hx hy (fun h4=>h1 om) (fun h4=>h2 om) h3)
  have hl:(d.en.modify d.new.toNat (zV d.sh)).length=d.en.length:=by simp
  refine⟨g1,?_,?_,fun h=>(by cases h),?_,fun j x hx=>.inr ?_,fun j k x y hx hy _ _ h3=>g3 j k x y hx hy (fun h=>h) (fun h=>h) h3⟩
  ·show -1≤d.old∧d.old<((d.en.modify d.new.toNat (zV d.sh)).length:Int);rw[hl];exact h.old
  ·show -1≤d.new∧d.new<((d.en.modify d.new.toNat (zV d.sh)).length:Int);rw[hl];exact h.new
  ·show d.sh+1=((d.en.modify d.new.toNat (zV d.sh)).length:Int) - (if false=true then 1 else 0);rw[hl,if_neg sp];omega
  ·rcases g2 j x hx with h1|h1
   ·cases h1
   ·exact h1
theorem zsY{L:List It}{d:Dp}(h:DInv L d)(rs:Bool)(lk:Int):DInv L ((d.res rs).lnk lk):=by
 have h1:DInv L (d.res rs):=by
  unfold Dp.res;cases rs with
  | false=>rw[if_neg sp];exact h
  | true=>
   rw[if_pos rfl];obtain⟨g,gw⟩:=zhT h;refine⟨g.e,⟨qQ _,by show(-1:Int)<_;omega⟩,⟨qQ _,by show(-1:Int)<_;omega⟩,fun e=> ?_,?_,fun j x hx=> ?_,fun j k x y hx hy _ _ h3=> ?_⟩
   ·have e':d.flush.wt=true:=e;rw[gw]at e';cases e'
   ·exact g.sh
   ·rcases g.s j x hx with h1|h1
    ·rw[gw]at h1;cases h1.1
    ·exact .inr h1
   ·exact g.i j k x y hx hy (by rw[gw];simp) (by rw[gw];simp) h3
 unfold Dp.lnk;split
 ·exact⟨h1.e,h1.old,h1.new,h1.wn,h1.sh,h1.s,h1.i⟩
 ·exact h1
theorem zan{α:Type}{l:List α}{a x:α}{j:Nat}(h:(l++[a])[j]? =some x):(j<l.length∧l[j]? =some x)∨(j=l.length∧x=a):=by
 by_cases hj:j<l.length
 ·rw[List.getElem?_append_left hj]at h;exact .inl ⟨hj,h⟩
 ·rw[List.getElem?_append_right om]at h;cases hk:j - l.length with
  | zero=>
   rw[hk]at h;simp at h;exact .inr ⟨om,h.symm⟩
  | succ k=>rw[hk]at h;simp at h
theorem zm6{L:List It}{d:Dp}{f:FmY}(h:DInv L d)(hf:FOk L f.f f.l f.sq f.hd):DInv L (d.frame f):=by
 have ho:=h.old;have hn:=h.new;have hsh:=h.sh;unfold Dp.frame;by_cases h3:f.hd.ty=3
 ·rw[if_pos h3];by_cases hc:d.lk≠0∨d.old= -1∨d.new= -1
  ·rw[if_pos hc];exact h
  rw[if_neg hc];have ho0:0≤d.old:=om;have hn0:0≤d.new:=om;obtain⟨g1,g2,g3⟩:=zfT (L:=L) (en:=d.en++[fmE f d.old d.new]) (n:=d.en.length) (sh:=d.sh) (w:=fun j=>d.wt=true∧(j:Int)=d.new) (fun h=>om) (by rw[hsh];split<;>omega)
   (fun j x hx=>by
    rcases zan hx with⟨_,h1⟩|⟨h1,h2⟩
    ·exact h.e j x h1
    ·rw[h2,h1];exact⟨hf,rfl,⟨by show -1≤d.old;omega,by show d.old<_;omega⟩,⟨by show -1≤d.new;omega,by show d.new<_;omega⟩,fun _=>⟨ho0,hn0⟩,fun _=>ho0,fun e=>absurd h3 e⟩)
   (fun j x hx=>by
    rcases zan hx with⟨_,h1⟩|⟨h1,h2⟩
    ·rcases h.s j x h1 with h2|h2
     ·exact .inr (.inl h2)
     ·exact .inr (.inr h2)
    ·exact .inl h1)
   (fun j k x y hx hy j1 k1 wj wk hxy=>by
    rcases zan hx with⟨_,h1⟩|⟨h1,_⟩
    ·rcases zan hy with⟨_,h2⟩|⟨h2,_⟩
     ·exact h.i j k x y h1 h2 wj wk hxy
     ·exact absurd h2 k1
    ·exact absurd h1 j1)
  have hl:((d.en++[fmE f d.old d.new]).modify d.en.length (zV d.sh)).length=d.en.length+1:=by simp
  refine⟨?_,?_,?_,h.wn,?_,?_,?_⟩
  ·intro j x hx;exact g1 j x (by simpa[Dp.show]using hx)
  ·show -1≤d.old∧d.old<(((d.en++[fmE f d.old d.new]).modify ((d.en.length:Nat):Int).toNat (zV d.sh)).length:Int);rw[qG,hl];omega
  ·show -1≤d.new∧d.new<(((d.en++[fmE f d.old d.new]).modify ((d.en.length:Nat):Int).toNat (zV d.sh)).length:Int);rw[qG,hl];omega
  ·show d.sh+1=(((d.en++[fmE f d.old d.new]).modify ((d.en.length:Nat):Int).toNat (zV d.sh)).length:Int) - (if d.wt=true then 1 else 0);rw[qG,hl,hsh];split<;>omega
  ·intro j x hx;exact g2 j x (by simpa[Dp.show]using hx)
  ·intro j k x y hx hy wj wk hxy;exact g3 j k x y (by simpa[Dp.show]using hx) (by simpa[Dp.show]using hy) wj wk hxy
 rw[if_neg h3];by_cases hc:f.hd.ty=2∧d.new= -1
 ·rw[if_pos hc];exact h
 rw[if_neg hc];have hE:EOk L d.en.length (fmE f d.new (-1)):=⟨hf,rfl,⟨by show -1≤d.new;omega,by show d.new<_;omega⟩,⟨qQ _,by show(-1:Int)<_;omega⟩,fun e=>absurd e h3,fun e=>by
  have e':f.hd.ty=2:=e;show 0≤d.new;by_cases h1:d.new= -1
  ·exact absurd ⟨e',h1⟩ hc
  ·omega,fun _=>rfl⟩
 have hall:∀(j:Nat) (x:Ent),(d.en++[fmE f d.new (-1)])[j]? =some x→EOk L j x:=fun j x hx=>by
  rcases zan hx with⟨_,h1⟩|⟨h1,h2⟩
  ·exact h.e j x h1
  ·rw[h2,h1];exact hE
 dsimp only;cases hw:d.wt with
 | false=>
  have e:Dp.flush { d with en:=d.en++[fmE f d.new (-1)] }={ d with en:=d.en++[fmE f d.new (-1)] }:=by unfold Dp.flush;show(if d.wt=true then _ else _)=_;rw[hw,if_neg sp]
  rw[hw]at e;rw[e];rw[hw,if_neg sp]at hsh;refine⟨hall,?_,?_,fun _=> ?_,?_,?_,?_⟩
  ·show -1≤d.new∧d.new<((d.en++[fmE f d.new (-1)]).length:Int);rw[qJ];simp only[qH,qK];omega
  ·show(-1:Int)≤(d.en.length:Int)∧(d.en.length:Int)<((d.en++[fmE f d.new (-1)]).length:Int);rw[qJ];simp only[qH,qK];omega
  ·show(0:Int)≤(d.en.length:Int);omega
  ·show d.sh=((d.en++[fmE f d.new (-1)]).length:Int) - (if true=true then 1 else 0);rw[qJ,if_pos rfl];simp only[qH,qK];omega
  ·intro j x hx;rcases zan hx with⟨_,h1⟩|⟨h1,_⟩
   ·rcases h.s j x h1 with h2|h2
    ·rw[hw]at h2;cases h2.1
    ·exact .inr h2
   ·exact .inl ⟨rfl,by show(j:Int)=(d.en.length:Int);omega⟩
  ·intro j k x y hx hy wj wk hxy;rcases zan hx with⟨_,h1⟩|⟨h1,_⟩
   ·rcases zan hy with⟨_,h2⟩|⟨h2,_⟩
    ·exact h.i j k x y h1 h2 (by rw[hw];simp) (by rw[hw];simp) hxy
    ·exact absurd ⟨rfl,by show(k:Int)=(d.en.length:Int);omega⟩ wk
   ·exact absurd ⟨rfl,by show(j:Int)=(d.en.length:Int);omega⟩ wj
 | true=>
  have hn0:=h.wn hw;rw[hw,if_pos rfl]at hsh;have e:Dp.flush { d with en:=d.en++[fmE f d.new (-1)] }={ d with en:=(d.en++[fmE f d.new (-1)]).modify d.new.toNat (zV d.sh),sh:=d.sh+1,wt:=false }:=by unfold Dp.flush;show(if d.wt=true then _ else _)=_;rw[hw,if_pos rfl];rfl
  rw[hw]at e;rw[e];obtain⟨g1,g2,g3⟩:=zfT (L:=L) (en:=d.en++[fmE f d.new (-1)]) (n:=d.new.toNat) (sh:=d.sh) (w:=fun j=>j=d.en.length) (by show ¬ d.new.toNat=d.en.length;omega) om hall
   (fun j x hx=>by
    rcases zan hx with⟨_,h1⟩|⟨h1,_⟩
    ·rcases h.s j x h1 with h2|h2
     ·exact .inl om
     ·exact .inr (.inr h2)
    ·exact .inr (.inl h1))
   (fun j k x y hx hy j1 k1 wj wk hxy=>by
    rcases zan hx with⟨_,h1⟩|⟨h1,_⟩
    ·rcases zan hy with⟨_,h2⟩|⟨h2,_⟩
     ·exact h.i j k x y h1 h2 (fun h4=>j1 om) (fun h4=>k1 om) hxy
     ·exact absurd h2 wk
    ·exact absurd h1 wj)
  have hl:((d.en++[fmE f d.new (-1)]).modify d.new.toNat (zV d.sh)).length=d.en.length+1:=by simp
  refine⟨g1,?_,?_,fun _=> ?_,?_,?_,?_⟩
  ·show -1≤d.new∧d.new<(((d.en++[fmE f d.new (-1)]).modify d.new.toNat (zV d.sh)).length:Int);rw[hl];omega
  ·show(-1:Int)≤(d.en.length:Int)∧(d.en.length:Int)<(((d.en++[fmE f d.new (-1)]).modify d.new.toNat (zV d.sh)).length:Int);rw[hl];omega
  ·show(0:Int)≤(d.en.length:Int);omega
  ·show d.sh+1=(((d.en++[fmE f d.new (-1)]).modify d.new.toNat (zV d.sh)).length:Int) - (if true=true then 1 else 0);rw[hl,if_pos rfl];omega
  ·intro j x hx;rcases g2 j x hx with h1|h1
   ·exact .inl ⟨rfl,by show(j:Int)=(d.en.length:Int);omega⟩
   ·exact .inr h1
  ·intro j k x y hx hy wj wk hxy;exact g3 j k x y hx hy (fun e=>wj ⟨rfl,by show(j:Int)=(d.en.length:Int);omega⟩) (fun e=>wk ⟨rfl,by show(k:Int)=(d.en.length:Int);omega⟩) hxy
structure SInv(L:List It)(es:List Ent):Prop where
 e:∀(j:Nat) (x:Ent),es[j]? =some x→EOk L j x
 s:∀(j:Nat) (x:Ent),es[j]? =some x→0≤x.1.sh∧x.1.sh<es.length
 i:∀(j k:Nat) (x y:Ent),es[j]? =some x→es[k]? =some y→x.1.sh=y.1.sh→j=k
theorem zoD{L:List It}:∀(l:List It) (a:As) (d:Dp) (i:Nat),L.drop i=l→ztz L a i→DInv L d→DInv L (dpN L a d (i:Int) l)
 | [],_,d,_,_,_,hd=>hd
 | x::r,a,d,i,hl,ha,hd=>by
  have hi:i<L.length:=by
   rcases Nat.lt_or_ge i L.length with h|h
   ·exact h
   ·rw[List.drop_of_length_le h]at hl;cases hl
  rw[List.drop_eq_getElem_cons hi]at hl;injection hl with h1 h2;obtain⟨g1,g2⟩:=zpO ha hi;rw[h1]at g1 g2;rw[dpN];have e:(i:Int)+1=((i+1:Nat):Int):=om;rw[e];refine zoD r _ _ (i+1) h2 g1 ?_;cases hf:(a.item L (i:Int) x).2 with
  | none=>exact hd
  | some f=>exact zm6 (zsY hd f.rs f.lk) (g2 f hf)
theorem zaN(L:List It):SInv L (zaa L):=by
 have h:DInv L (dpN L (as0 sq0) dp0 0 L):=zoD L (as0 sq0) dp0 0 sp (zAb L) (zzZ L);obtain⟨g,gw⟩:=zhT h;have hs:=g.sh;rw[gw,if_neg sp]at hs;refine⟨g.e,fun j x hx=> ?_,fun j k x y hx hy h3=>g.i j k x y hx hy (by rw[gw];simp) (by rw[gw];simp) h3⟩;rcases g.s j x hx with h1|h1
 ·rw[gw]at h1;cases h1.1
 ·have:((zaa L).length:Int)=(Dp.flush (dpN L (as0 sq0) dp0 0 L)).en.length:=rfl;omega
structure Cx where
 t:Int
 s:Int
 i:Bool
 n:Bool
def cxc(c:Cx):List PV:=[.int .i64 c.t,.int .i64 c.s,.bool c.i,.bool c.n]
def vcx(c:Cx):Bool:=decide (1≤c.t)&&(decide (c.t≤3)&&(decide (1≤c.s)&&(decide (c.s≤3)&&(if c.s=3 then !c.n else c.i))))
def fcx(c:Cx):Bool:=decide (c.s≠3)
def bcx(c:Cx):Bool:=c.i&&decide (c.s=3)
structure Mb where
 k:Int
 ua:Bool
 ub:Bool
 fp:Bool
 fd:Bool
 va:Int
 vb:Int
 vc:Int
 vd:Int
 ve:Int
 vf:Int
 vg:Int
 vh:Int
 sa:Int
 sb:Int
 sc:Int
 sd:Int
 dl:Int
 ca:Bool
 cb:Bool
 cc:Bool
 cd:Bool
 ce:Bool
 cf:Bool
 lv:List Int
def mbc(m:Mb):List PV:=.int .i64 m.k:: .bool m.ua:: .bool m.ub:: .bool m.fp:: .bool m.fd:: .int .i64 m.va:: .int .i64 m.vb:: .int .i64 m.vc:: .int .i64 m.vd:: .int .i64 m.ve:: .int .i64 m.vf:: .int .i64 m.vg:: .int .i64 m.vh:: .int .i64 m.sa:: .int .i64 m.sb:: .int .i64 m.sc:: .int .i64 m.sd:: .int .i64 m.dl:: .bool m.ca:: .bool m.cb:: .bool m.cc:: .bool m.cd:: .bool m.ce:: .bool m.cf::is m.lv
def mB(m:Mb):Blk:=⟨149,0,mbc m⟩
def zkp(m:Mb):Bool:=m.ca||(m.cb||(m.cc||(m.cd||(m.ce||m.cf))))
def hlM(m:Mb):Bool:=decide (m.k=1)||zkp m
def win(x n:Int):Bool:=decide (-n≤x)&&decide (x≤n)
def fch(c:Cx)(m:Mb):Bool:=if hlM m then(bcx c|| !m.fd)&&win m.dl 30 else !m.fd&&decide (m.dl=0)
theorem zl3(c:Cx)(H:za):CallOk Tryz.prog 178 [.agg (cxc c)] H (.bool (vcx c)) H:=by obtain⟨t,s,i,n⟩:=c;refine CallOk.body (F0:=[(0,.agg [.int .i64 t,.int .i64 s,.bool i,.bool n])]) Tryz.func178 rfl Tryz.ntmps178 Tryz.results178 rfl kr rfl ?_;(repeat'(first|refine PW.seq ?_|refine PW.skip ?_|refine PW.block ?_|((first|refine PW.rg rfl fun K hK=> ?_|refine PW.draw mix kr fun K hK=> ?_);simp(disch:=omega) only[go_sem,↓reduceIte,reduceCtorEq])|((first|refine zh ?_ ?_|refine zk ?_ ?_|refine And.intro ?_ ?_)<;>intro h<;>(try simp only[nqb]at h)<;>simp(disch:=omega) only[go_sem,↓reduceIte,reduceCtorEq,h])|(refine hK _ _ ?_;clear hK K)|(refine PW.cond (t:=_) rfl (fun h=> ?_) (fun h=> ?_)<;>(try(cases h;done))<;>(try simp only[nqb]at h))));all_goals((refine PW.ret ⟨_,rfl,?_⟩;first|refine .inl ⟨?_,rfl⟩|refine Fin.base (.id' ?_ (.bool _))|refine Fin.base (.id' ?_ (.int _ _)));(simp_all[vcx,slot,qB]<;>first|rfl|omega|(rw[qA];simp;done)|(rw[qA];simp;omega)))
theorem zm2(c:Cx)(H:za):CallOk Tryz.prog 211 [.agg (cxc c)] H (.bool (fcx c)) H:=by obtain⟨t,s,i,n⟩:=c;refine CallOk.body (F0:=[(0,.agg [.int .i64 t,.int .i64 s,.bool i,.bool n])]) Tryz.func211 rfl Tryz.ntmps211 Tryz.results211 rfl kr rfl ?_;(repeat'(first|refine PW.seq ?_|refine PW.skip ?_|refine PW.block ?_|((first|refine PW.rg rfl fun K hK=> ?_|refine PW.draw mix kr fun K hK=> ?_);simp(disch:=omega) only[go_sem,↓reduceIte,reduceCtorEq])|((first|refine zh ?_ ?_|refine zk ?_ ?_|refine And.intro ?_ ?_)<;>intro h<;>(try simp only[nqb]at h)<;>simp(disch:=omega) only[go_sem,↓reduceIte,reduceCtorEq,h])|(refine hK _ _ ?_;clear hK K)|(refine PW.cond (t:=_) rfl (fun h=> ?_) (fun h=> ?_)<;>(try(cases h;done))<;>(try simp only[nqb]at h))));all_goals((refine PW.ret ⟨_,rfl,?_⟩;first|refine .inl ⟨?_,rfl⟩|refine Fin.base (.id' ?_ (.bool _))|refine Fin.base (.id' ?_ (.int _ _)));(simp_all[fcx,slot,qB]<;>first|rfl|omega|(rw[qA];simp;done)|(rw[qA];simp;omega)))
theorem zki(c:Cx)(H:za):CallOk Tryz.prog 257 [.agg (cxc c)] H (.bool (bcx c)) H:=by obtain⟨t,s,i,n⟩:=c;refine CallOk.body (F0:=[(0,.agg [.int .i64 t,.int .i64 s,.bool i,.bool n])]) Tryz.func257 rfl Tryz.ntmps257 Tryz.results257 rfl kr rfl ?_;(repeat'(first|refine PW.seq ?_|refine PW.skip ?_|refine PW.block ?_|((first|refine PW.rg rfl fun K hK=> ?_|refine PW.draw mix kr fun K hK=> ?_);simp(disch:=omega) only[go_sem,↓reduceIte,reduceCtorEq])|((first|refine zh ?_ ?_|refine zk ?_ ?_|refine And.intro ?_ ?_)<;>intro h<;>(try simp only[nqb]at h)<;>simp(disch:=omega) only[go_sem,↓reduceIte,reduceCtorEq,h])|(refine hK _ _ ?_;clear hK K)|(refine PW.cond (t:=_) rfl (fun h=> ?_) (fun h=> ?_)<;>(try(cases h;done))<;>(try simp only[nqb]at h))));all_goals((refine PW.ret ⟨_,rfl,?_⟩;first|refine .inl ⟨?_,rfl⟩|refine Fin.base (.id' ?_ (.bool _))|refine Fin.base (.id' ?_ (.int _ _)));(simp_all[bcx,slot,qB]<;>first|rfl|omega|(rw[qA];simp;done)|(rw[qA];simp;omega)))
theorem zdw(x n:Int)(H:za)(hn:0≤n∧n≤10000):CallOk Tryz.prog 253 [.int .i64 x,.int .i64 n] H (.bool (win x n)) H:=by refine CallOk.go Tryz.func253 Tryz.ntmps253 Tryz.results253 ?_;(repeat'(first|refine PW.seq ?_|refine PW.skip ?_|refine PW.block ?_|((first|refine PW.rg rfl fun K hK=> ?_|refine PW.draw mix kr fun K hK=> ?_);simp(disch:=omega) only[go_sem,↓reduceIte,reduceCtorEq])|((first|refine zh ?_ ?_|refine zk ?_ ?_|refine And.intro ?_ ?_)<;>intro h<;>(try simp only[nqb]at h)<;>simp(disch:=omega) only[go_sem,↓reduceIte,reduceCtorEq,h])|(refine hK _ _ ?_;clear hK K)|(refine PW.cond (t:=_) rfl (fun h=> ?_) (fun h=> ?_)<;>(try(cases h;done))<;>(try simp only[nqb]at h))));all_goals((refine PW.ret ⟨_,rfl,?_⟩;first|refine .inl ⟨?_,rfl⟩|refine Fin.base (.id' ?_ (.bool _))|refine Fin.base (.id' ?_ (.int _ _)));(simp_all[win,slot,qB]<;>first|rfl|omega|(rw[qA];simp;done)|(rw[qA];simp;omega)))
def vrg(x y:Int):Bool:=win x 63&&win y 63
theorem zgM(x y:Int)(H:za):CallOk Tryz.prog 254 [.agg [.int .i64 x,.int .i64 y]] H (.bool (vrg x y)) H:=by refine CallOk.go Tryz.func254 Tryz.ntmps254 Tryz.results254 ?_;(repeat'(first|refine PW.seq ?_|refine PW.skip ?_|refine PW.block ?_|((first|refine PW.rg rfl fun K hK=> ?_|refine PW.draw mix kr fun K hK=> ?_);simp(disch:=omega) only[go_sem,↓reduceIte,reduceCtorEq])|((first|refine zh ?_ ?_|refine zk ?_ ?_|refine And.intro ?_ ?_)<;>intro h<;>(try simp only[nqb]at h)<;>simp(disch:=omega) only[go_sem,↓reduceIte,reduceCtorEq,h])|((first|refine VCx.call (zdw x 63 _ om) rfl ?_|refine VCx.call (zdw y 63 _ om) rfl ?_|refine VCy.call (zdw x 63 _ om) rfl ?_|refine VCy.call (zdw y 63 _ om) rfl ?_);simp(disch:=omega) only[go_sem,↓reduceIte,reduceCtorEq])|(refine hK _ _ ?_;clear hK K)|(refine PW.cond (t:=_) rfl (fun h=> ?_) (fun h=> ?_)<;>(try(cases h;done))<;>(try simp only[nqb]at h))));all_goals((refine PW.ret ⟨_,rfl,?_⟩;first|refine .inl ⟨?_,rfl⟩|refine Fin.base (.id' ?_ (.bool _))|refine Fin.base (.id' ?_ (.int _ _)));(simp_all[vrg,slot,qB]<;>first|rfl|omega|(rw[qA];simp;done)|(rw[qA];simp;omega)))
theorem zzI(m:Mb)(i:Nat)(H:za)(hi:H[i]? =some (mB m)):CallOk Tryz.prog 283 [.ptr i 0 0] H (.bool (hlM m)) H:=by obtain⟨k,ua,ub,fp,fd,va,vb,vc,vd,ve,vf,vg,vh,sa,sb,sc,sd,dl,ca,cb,cc,cd,ce,cf,lv⟩:=m;simp only[mB,mbc]at hi;refine CallOk.go Tryz.func283 Tryz.ntmps283 Tryz.results283 ?_;(repeat'(first|refine PW.seq ?_|refine PW.skip ?_|refine PW.block ?_|((first|refine PW.rg rfl fun K hK=> ?_|refine PW.draw mix kr fun K hK=> ?_);simp(disch:=omega) only[go_sem,↓reduceIte,reduceCtorEq,hi])|((first|refine zh ?_ ?_|refine zk ?_ ?_|refine And.intro ?_ ?_)<;>intro h<;>(try simp only[nqb]at h)<;>simp(disch:=omega) only[go_sem,↓reduceIte,reduceCtorEq,hi,h])|(refine hK _ _ ?_;clear hK K)|(refine PW.cond (t:=_) rfl (fun h=> ?_) (fun h=> ?_)<;>(try(cases h;done))<;>(try simp only[nqb]at h))));all_goals((refine PW.ret ⟨_,rfl,?_⟩;first|refine .inl ⟨?_,rfl⟩|refine Fin.base (.id' ?_ (.bool _))|refine Fin.base (.id' ?_ (.int _ _)));clear hi;cases ca<;>cases cb<;>cases cc<;>cases cd<;>cases ce<;>cases cf<;>(simp_all[hlM,zkp,slot,qB]<;>first|rfl|omega|(rw[qA];simp;done)|(rw[qA];simp;omega)))
theorem zmk(c:Cx)(m:Mb)(i:Nat)(H:za)(hi:H[i]? =some (mB m)):CallOk Tryz.prog 299 [.agg (cxc c),.ptr i 0 0] H (.bool (m.fp||fcx c)) H:=by obtain⟨k,ua,ub,fp,fd,va,vb,vc,vd,ve,vf,vg,vh,sa,sb,sc,sd,dl,ca,cb,cc,cd,ce,cf,lv⟩:=m;simp only[mB,mbc]at hi;have hx:=fun K=>zae (K:=K) hi;have fo:=fun H=>zm2 c H;obtain⟨t,s,ii,n⟩:=c;refine CallOk.body (F0:=[(0,.agg [.int .i64 t,.int .i64 s,.bool ii,.bool n]),(1,.ptr i 0 0)]) Tryz.func299 rfl Tryz.ntmps299 Tryz.results299 rfl kr rfl ?_;(repeat'(first|refine PW.seq ?_|refine PW.skip ?_|refine PW.block ?_|((first|refine PW.rg rfl fun K hK=> ?_|refine PW.draw mix kr fun K hK=> ?_);simp(disch:=omega) only[go_sem,↓reduceIte,reduceCtorEq,hi,hx])|((first|refine zh ?_ ?_|refine zk ?_ ?_|refine And.intro ?_ ?_)<;>intro h<;>(try simp only[nqb]at h)<;>simp(disch:=omega) only[go_sem,↓reduceIte,reduceCtorEq,hi,hx,h])|((first|refine VCx.call (fo _) rfl ?_|refine VCy.call (fo _) rfl ?_);simp(disch:=omega) only[go_sem,↓reduceIte,reduceCtorEq,hi,hx])|(refine hK _ _ ?_;clear hK K)|(refine PW.cond (t:=_) rfl (fun h=> ?_) (fun h=> ?_)<;>(try(cases h;done))<;>(try simp only[nqb]at h))));all_goals((refine PW.ret ⟨_,rfl,?_⟩;first|refine .inl ⟨?_,rfl⟩|refine Fin.base (.id' ?_ (.bool _))|refine Fin.base (.id' ?_ (.int _ _)));clear hi hx fo;(simp_all[slot,qB]<;>first|rfl|omega|(rw[qA];simp;done)|(rw[qA];simp;omega)))
theorem zya(c:Cx)(m:Mb)(i:Nat)(H:za)(hi:H[i]? =some (mB m)):CallOk Tryz.prog 202 [.agg (cxc c),.ptr i 0 0] H (.bool (fch c m)) H:=by
 have hlo:=fun K=>zzI m i (H++K) (zae hi);have bo:=fun H=>zki c H;have hfc:fch c m=if hlM m then(bcx c|| !m.fd)&&win m.dl 30 else !m.fd&&decide (m.dl=0):=rfl
 generalize fch c m=r at hfc ⊢;generalize hlM m=h1 at hlo hfc;obtain⟨k,ua,ub,fp,fd,va,vb,vc,vd,ve,vf,vg,vh,sa,sb,sc,sd,dl,ca,cb,cc,cd,ce,cf,lv⟩:=m;simp only[mB,mbc]at hi hfc;have hx:=fun K=>zae (K:=K) hi;generalize bcx c=b1 at bo hfc;obtain⟨t,s,ii,n⟩:=c;have wo:=fun H=>zdw dl 30 H om;generalize win dl 30=w1 at wo hfc;refine CallOk.body (F0:=[(0,.agg [.int .i64 t,.int .i64 s,.bool ii,.bool n]),(1,.ptr i 0 0)]) Tryz.func202 rfl Tryz.ntmps202 Tryz.results202 rfl kr rfl ?_;(repeat'(first|refine PW.seq ?_|refine PW.skip ?_|refine PW.block ?_|((first|refine PW.rg rfl fun K hK=> ?_|refine PW.draw mix kr fun K hK=> ?_);simp(disch:=omega) only[go_sem,↓reduceIte,reduceCtorEq,hx])|((first|refine zh ?_ ?_|refine zk ?_ ?_|refine And.intro ?_ ?_)<;>intro h<;>(try simp only[nqb]at h)<;>simp(disch:=omega) only[go_sem,↓reduceIte,reduceCtorEq,hx,h])|((first|refine VCx.call (hlo _) rfl ?_|refine VCx.call (bo _) rfl ?_|refine VCx.call (wo _) rfl ?_|refine VCy.call (hlo _) rfl ?_|refine VCy.call (bo _) rfl ?_|refine VCy.call (wo _) rfl ?_);simp(disch:=omega) only[go_sem,↓reduceIte,reduceCtorEq,hx])|(refine hK _ _ ?_;clear hK K)|(refine PW.cond (t:=_) rfl (fun h=> ?_) (fun h=> ?_)<;>(try(cases h;done))<;>(try simp only[nqb]at h))));all_goals((refine PW.ret ⟨_,rfl,?_⟩;first|refine .inl ⟨?_,rfl⟩|refine Fin.base (.id' ?_ (.bool _))|refine Fin.base (.id' ?_ (.int _ _)));clear hi hx hlo bo wo;subst hfc;(simp_all[slot,qB]<;>first|rfl|omega|(rw[qA];simp;done)|(rw[qA];simp;omega)))
theorem zX(l:List Int):(is l).all PV.cell=true:=by unfold is;rw[List.all_map];exact qD.2 fun x _=>rfl
def lvr(lv:List Int):Bool:=(List.range 384).all fun q=>win (zg lv q) 4095
theorem zxI{lv:List Int}{q:Nat}(h:q<384)(hw:win (zg lv q) 4095=false):lvr lv=false:=by
 cases hc:lvr lv with
 | false=>rfl
 | true=>have:=qD.1 hc q (qI.2 h);rw[hw]at this;cases this
theorem zjO{lv:List Int}(h:∀ q,q<384→win (zg lv q) 4095=true):lvr lv=true:=qD.2 fun q hq=>h q (qI.1 hq)
theorem zne(lv:List Int)(n j:Nat)(hj:j<64):zg ((lv.drop (n * 64)).take 64) j=zg lv (n * 64+j):=by simp only[zg,List.getD,List.getElem?_take,List.getElem?_drop];rw[if_pos hj]
theorem zkh(lv:List Int)(n:Nat)(hl:lv.length=384)(hn:n<6):((lv.drop (n * 64)).take 64).length=64:=by simp;omega
theorem zxH(m:Mb)(i:Nat)(H:za)(hi:H[i]? =some (mB m))(hl:m.lv.length=384):CallOk Tryz.prog 203 [.ptr i 0 0] H (.bool (lvr m.lv)) H:=by
 obtain⟨k,ua,ub,fp,fd,va,vb,vc,vd,ve,vf,vg,vh,sa,sb,sc,sd,dl,ca,cb,cc,cd,ce,cf,lv⟩:=m;simp only[mB,mbc]at hi hl ⊢;have hdrop:∀ n:Nat,List.drop (24+n * 64) (.int .i64 k:: .bool ua:: .bool ub:: .bool fp:: .bool fd:: .int .i64 va:: .int .i64 vb:: .int .i64 vc:: .int .i64 vd:: .int .i64 ve:: .int .i64 vf:: .int .i64 vg:: .int .i64 vh:: .int .i64 sa:: .int .i64 sb:: .int .i64 sc:: .int .i64 sd:: .int .i64 dl:: .bool ca:: .bool cb:: .bool cc:: .bool cd:: .bool ce:: .bool cf::is lv)=is (lv.drop (n * 64)):=fun n=>by rw[show 24+n * 64=n * 64+24 from om];simp only[qP];exact ze9 _ _
 refine CallOk.go Tryz.func203 Tryz.ntmps203 Tryz.results203 ?_;refine PW.e ?_;refine PW.e ?_;refine PW.l ?_;suffices hloop:∀(n:Nat),n≤6→(∀ q,q<n * 64→win (zg lv q) 4095=true)→PL Tryz.prog _ _ [(0,.ptr i 0 0),(6,.int .i64 (n:Int))] H _ by exact PL.at [0,6] (hloop 0 om (fun q hq=>om)) rfl rfl
 intro n hn hq;induction hm:6 - n using qL generalizing n with
 | _ m ih=>
  refine PL.round ?_;refine PW.e ?_;refine PW.c (fun h=> ?_) (fun h=> ?_)
  ·have h4:n<6:=ot h;have hbl:=zkh lv n hl h4;have hcel:=zX ((lv.drop (n * 64)).take 64);have hnx:=ih (6 - (n+1)) om (n+1) om;refine PW.skip ?_;refine PW.b ?_;refine PW.e ?_;refine PW.f (fun K k=>by simp(disch:=omega) only[go_sem,↓reduceIte,reduceCtorEq,hi,hdrop,zd3,zr,hbl,hcel];exact k) ?_;have hat:=zne lv n;generalize (lv.drop (n * 64)).take 64=bl at *;refine PW.l ?_;clear ih;suffices hloop:∀(j:Nat),j≤64→(∀ q,q<n * 64+j→win (zg lv q) 4095=true)→PL Tryz.prog _ _ [(0,.ptr i 0 0),(6,.int .i64 (n:Int)),(14,.agg (is bl)),(15,.int .i64 (j:Int))] H _ by exact PL.at [0,6,14,15] (hloop 0 om (fun q hq'=>hq q om)) rfl rfl
   intro j hj hq2;induction hm2:64 - j using qL generalizing j with
   | _ m2 ih=>
    refine PL.round ?_;refine PW.e ?_;refine PW.c (fun h=> ?_) (fun h=> ?_)
    ·have h5:j<64:=ot h;have hw:=fun H=>zdw (zg bl j) 4095 H om;refine PW.skip ?_;refine PW.b ?_;refine PW.f (fun K k=>by simp(disch:=omega) only[go_sem,↓reduceIte,reduceCtorEq,zbJ,zr,hbl];exact k) ?_;refine PW.k hw ?_;refine PW.c (fun h=> ?_) (fun h=> ?_)
     ·have h6:win (zg bl j) 4095=false:=by simpa using h
      refine PW.e ?_;refine PW.ret ⟨_,rfl,?_⟩;rw[zxI (q:=n * 64+j) om (by rw[←hat j h5];exact h6)];exact Fin.now
     ·have h6:win (zg bl j) 4095=true:=by simpa using h
      refine PW.skip ?_;refine PW.e ?_;refine PL.at [0,6,14,15] (ih (64 - (j+1)) om (j+1) om (fun q hq'=> ?_) rfl) rfl rfl;by_cases e:q=n * 64+j
      ·rw[e,←hat j h5];exact h6
      ·exact hq2 q om
    ·have h5:j=64:=ofF h;subst h5;refine PW.exit ?_;refine PW.e ?_;exact PL.at [0,6] (hnx (fun q hq'=>hq2 q om) rfl) rfl rfl
  ·have h4:n=6:=ofF h;subst h4;refine PW.exit ?_;refine PW.e ?_;refine PW.ret ⟨_,rfl,?_⟩;rw[zjO (fun q hq'=>hq q om)];exact Fin.now
def zbk(lv:List Int)(n:Nat):Bool:=(lv.drop (n * 64)).take 64==qC 64 0
def cdl(m:Mb):List Bool:=[m.ca,m.cb,m.cc,m.cd,m.ce,m.cf]
def fbl(cs:List Bool)(lv:List Int):Bool:=(List.range 6).all fun n=>zat cs n !=zbk lv n
theorem zyc{cs:List Bool}{lv:List Int}{q:Nat}(h:q<6)(hw:zat cs q=zbk lv q):fbl cs lv=false:=by
 cases hc:fbl cs lv with
 | false=>rfl
 | true=>have:=qD.1 hc q (qI.2 h);rw[hw]at this;simp at this
theorem zov{cs:List Bool}{lv:List Int}(h:∀ q,q<6→zat cs q≠zbk lv q):fbl cs lv=true:=qD.2 fun q hq=>by have:=h q (qI.1 hq);simpa using this
theorem zyb(m:Mb)(i:Nat)(H:za)(hi:H[i]? =some (mB m))(hl:m.lv.length=384):CallOk Tryz.prog 205 [.ptr i 0 0] H (.bool (fbl (cdl m) m.lv)) H:=by
 obtain⟨k,ua,ub,fp,fd,va,vb,vc,vd,ve,vf,vg,vh,sa,sb,sc,sd,dl,ca,cb,cc,cd,ce,cf,lv⟩:=m;simp only[mB,mbc,cdl]at hi hl ⊢;have hdrop:∀ n:Nat,List.drop (24+n * 64) (.int .i64 k:: .bool ua:: .bool ub:: .bool fp:: .bool fd:: .int .i64 va:: .int .i64 vb:: .int .i64 vc:: .int .i64 vd:: .int .i64 ve:: .int .i64 vf:: .int .i64 vg:: .int .i64 vh:: .int .i64 sa:: .int .i64 sb:: .int .i64 sc:: .int .i64 sd:: .int .i64 dl:: .bool ca:: .bool cb:: .bool cc:: .bool cd:: .bool ce:: .bool cf::is lv)=is (lv.drop (n * 64)):=fun n=>by rw[show 24+n * 64=n * 64+24 from om];simp only[qP];exact ze9 _ _
 obtain⟨cs,hcs⟩:∃ cs,cs=[ca,cb,cc,cd,ce,cf]:=⟨_,rfl⟩;have hcl:cs.length=6:=by rw[hcs];rfl
 refine CallOk.go Tryz.func205 Tryz.ntmps205 Tryz.results205 ?_;refine PW.e ?_;refine PW.g hi ?_;refine PW.l ?_;rw[←hcs];suffices hloop:∀(n:Nat),n≤6→(∀ q,q<n→zat cs q≠zbk lv q)→PL Tryz.prog _ _ [(0,.ptr i 0 0),(8,.agg (fs cs)),(9,.int .i64 (n:Int))] H _ by exact PL.at [0,8,9] (hloop 0 om (fun q hq=>om)) (by rw[hcs];rfl) rfl
 clear hcs;intro n hn hq;induction hm:6 - n using qL generalizing n with
 | _ m ih=>
  refine PL.round ?_;refine PW.e ?_;refine PW.c (fun h=> ?_) (fun h=> ?_)
  ·have h4:n<6:=ot h;have hbl:=zkh lv n hl h4;have hcel:=zX ((lv.drop (n * 64)).take 64);have hnx:=ih (6 - (n+1)) om (n+1) om;have hzb:zbk lv n=((lv.drop (n * 64)).take 64==qC 64 0):=rfl;refine PW.skip ?_;refine PW.b ?_;refine PW.f (fun K k=>by simp(disch:=omega) only[go_sem,↓reduceIte,reduceCtorEq,zj0,zsB,hcl];exact k) ?_;generalize hbb:(lv.drop (n * 64)).take 64=bl at *;have hpq:zdt (.int .i64) (is bl) [.int .i64 0,.int .i64 0,.int .i64 0,.int .i64 0,.int .i64 0,.int .i64 0,.int .i64 0,.int .i64 0,.int .i64 0,.int .i64 0,.int .i64 0,.int .i64 0,.int .i64 0,.int .i64 0,.int .i64 0,.int .i64 0,.int .i64 0,.int .i64 0,.int .i64 0,.int .i64 0,.int .i64 0,.int .i64 0,.int .i64 0,.int .i64 0,.int .i64 0,.int .i64 0,.int .i64 0,.int .i64 0,.int .i64 0,.int .i64 0,.int .i64 0,.int .i64 0,.int .i64 0,.int .i64 0,.int .i64 0,.int .i64 0,.int .i64 0,.int .i64 0,.int .i64 0,.int .i64 0,.int .i64 0,.int .i64 0,.int .i64 0,.int .i64 0,.int .i64 0,.int .i64 0,.int .i64 0,.int .i64 0,.int .i64 0,.int .i64 0,.int .i64 0,.int .i64 0,.int .i64 0,.int .i64 0,.int .i64 0,.int .i64 0,.int .i64 0,.int .i64 0,.int .i64 0,.int .i64 0,.int .i64 0,.int .i64 0,.int .i64 0,.int .i64 0]=some (bl==qC 64 0):=zgu .i64 bl (qC 64 0) (by rw[hbl];simp);generalize (bl==qC 64 0)=zz at *;(repeat refine PW.seq ?_);refine PW.rg rfl fun K hK=> ?_;simp(disch:=omega) only[go_sem,↓reduceIte,reduceCtorEq,hi,hdrop,zd3,hbb,zr,hbl,hcel,hpq];refine hK _ _ ?_;clear hK K;refine PW.c (fun h=> ?_) (fun h=> ?_)
   ·have h6:zat cs n=zz:=by simpa using h
    refine PW.e ?_;refine PW.ret ⟨_,rfl,?_⟩;rw[zyc h4 (by rw[hzb];exact h6)];exact Fin.now
   ·have h6:zat cs n≠zz:=by simpa using h
    refine PW.skip ?_;refine PW.e ?_;refine PL.at [0,8,9] (hnx (fun q hq'=> ?_) rfl) rfl rfl;by_cases e:q=n
    ·rw[e,hzb];exact h6
    ·exact hq q om
  ·have h4:n=6:=ofF h;subst h4;refine PW.exit ?_;refine PW.e ?_;refine PW.ret ⟨_,rfl,?_⟩;rw[zov hq];exact Fin.now
def zcB(c:Cx)(fp used:Bool)(a b d e p q:Int):Bool:=
 if used then vrg a b&&(vrg d e&&((decide (p=0)||decide (p=1))&&((decide (q=0)||decide (q=1))&&((fp||(decide (d=0)&&(decide (e=0)&&decide (q=0))))&&(fp||(fcx c||decide (p=0)))))))
 else decide (a=0)&&(decide (b=0)&&(decide (d=0)&&(decide (e=0)&&(decide (p=0)&&decide (q=0)))))
theorem zlK(a b c d:Int):zdE Tryz.prog .eql 141 (.agg [.int .i64 a,.int .i64 b,.int .i64 c,.int .i64 d]) (.agg [.int .i64 0,.int .i64 0,.int .i64 0,.int .i64 0])=some (.bool (((a==0)&&((b==0)&&true))&&(((c==0)&&((d==0)&&true))&&true))):=kr
theorem neV(a b:Int):zdE Tryz.prog .neq 140 (.agg [.int .i64 a,.int .i64 b]) (.agg [.int .i64 0,.int .i64 0])=some (.bool !((a==0)&&((b==0)&&true))):=kr
theorem zlL(a b:Int):zdE Tryz.prog .eql 143 (.agg [.int .i64 a,.int .i64 b]) (.agg [.int .i64 0,.int .i64 0])=some (.bool ((a==0)&&((b==0)&&true))):=kr
set_option maxHeartbeats 3200000 in
set_option maxRecDepth 10000 in
theorem zsO(c:Cx)(m:Mb)(used:Bool)(i:Nat)(H:za)(hi:H[i]? =some (mB m)):CallOk Tryz.prog 284 [.agg (cxc c),.ptr i 0 0,.int .i64 0,.bool used] H (.bool (zcB c m.fp used m.va m.vb m.vc m.vd m.sa m.sb)) H:=by
 have hil:i<H.length:=(qM.1 hi).1;have hso:=fun K=>zmk c m i (H++K) (zae hi);obtain ⟨k,ua,ub,fp,fd,va,vb,vc,vd,ve,vf,vg,vh,sa,sb,sc,sd,dl,ca,cb,cc,cd,ce,cf,lv⟩:=m;simp only [mB,mbc] at hi ⊢;have hx:=fun K=>zae (K:=K) hi;generalize hr:zcB c fp used va vb vc vd sa sb=r;simp only [zcB] at hr;simp only at hso;generalize fcx c=ff at hso hr;obtain ⟨t,s,ii,n⟩:=c;have dX : decide ("X" = "_") = false := by decide
 have dY : decide ("Y" = "_") = false := by decide
 have q1:=fun H=>zgM va vb H;have q2:=fun H=>zgM vc vd H;generalize vrg va vb=r1 at q1 hr;generalize vrg vc vd=r2 at q2 hr;refine CallOk.body (F0:=[(0,.agg [.int .i64 t,.int .i64 s,.bool ii,.bool n]),(1,.ptr i 0 0),(2,.int .i64 0),(3,.bool used)]) Tryz.func284 rfl Tryz.ntmps284 Tryz.results284 rfl kr rfl ?_;refine PW.e ?_;(repeat refine PW.seq ?_);refine PW.view (Vs.place 141) (PW.view (Vs.place 143) ?_);(repeat refine PW.seq ?_);refine PW.drawi [H.length+1,H.length+2,i] [(9,[0]),(10,[1]),(1,[2]),(12,[2]),(13,[2]),(14,[2]),(15,[2]),(16,[2]),(17,[2]),(18,[2]),(19,[2]),(20,[2]),(21,[2]),(22,[2]),(23,[2])] [(9,0),(10,1)] [] mix kr (by simp<;>omega) fun K hK=> ?_;refine sqx hx ?_;refine hK _ _ ?_;clear hK K;refine PW.e ?_;refine PW.c (fun h=> ?_) (fun h=> ?_)
 ·have hu:used=false:=by simpa using h
  subst hu;(repeat refine PW.seq ?_);refine PW.rg rfl fun K hK=> ?_;simp(disch:=omega) only[go_sem,↓reduceIte,reduceCtorEq,↓zlK,↓neV,↓zlL];(repeat'((first|refine zh ?_ ?_|refine zk ?_ ?_|refine zU ?_ ?_|refine VOh_cond ?_ ?_|refine zT ?_ ?_|refine And.intro ?_ ?_)<;>intro h<;>(try simp only[nqb]at h)<;>simp(disch:=omega) only[go_sem,↓reduceIte,reduceCtorEq,↓zlK,↓neV,↓zlL,h]));all_goals(refine hK _ _ ?_;(refine PW.ret ⟨_,rfl,?_⟩;first|refine .inl ⟨?_,rfl⟩|refine Fin.base (.id' ?_ (.bool _))|refine Fin.base (.id' ?_ (.int _ _)));clear hK q1 q2 hso hi hx;subst hr;(simp_all[slot,qB]<;>first|rfl|omega|(rw[qA];simp;done)|(rw[qA];simp;omega)))
 have hu:used=true:=by simpa using h
 subst hu;refine PW.skip ?_;(repeat refine PW.seq ?_);refine PW.rgv (P:=Tryz.prog) [1,4,9,10] 49 (.bool (!fp&&(!(decide (vc=0)&&decide (vd=0))|| !decide (sb=0)))) ?_ ?_ ?_
 ·rfl
 ·simp(disch:=omega) only[go_sem,↓reduceIte,reduceCtorEq,hx,↓zlK,↓neV,↓zlL];(repeat'((first|refine zh ?_ ?_|refine zk ?_ ?_|refine zU ?_ ?_|refine VOh_cond ?_ ?_|refine zT ?_ ?_|refine And.intro ?_ ?_)<;>intro h<;>(try simp only[nqb]at h)<;>simp(disch:=omega) only[go_sem,↓reduceIte,reduceCtorEq,hx,↓zlK,↓neV,↓zlL,h]));all_goals(clear q1 q2 hso hi hx hr;(simp_all[slot,qB]<;>first|rfl|omega|(rw[qA];simp;done)|(rw[qA];simp;omega)))
 refine PW.c (fun h=> ?_) (fun h=> ?_)
 ·refine PW.e ?_;(refine PW.ret ⟨_,rfl,?_⟩;first|refine .inl ⟨?_,rfl⟩|refine Fin.base (.id' ?_ (.bool _))|refine Fin.base (.id' ?_ (.int _ _)));clear q1 q2 hso hi hx;subst hr;(simp_all[slot,qB]<;>first|rfl|omega|(rw[qA];simp;done)|(rw[qA];simp;omega))
 refine PW.skip ?_;(repeat refine PW.seq ?_);refine PW.rgv (P:=Tryz.prog) [9,10] 58 (.bool (!(fp||ff)&& !decide (sa=0))) ?_ ?_ ?_
 ·rfl
 ·refine sqz ?_;(repeat'(first|((first|refine zh ?_ ?_|refine And.intro ?_ ?_)<;>intro h<;>(try simp only[nqb]at h)<;>simp(disch:=omega) only[go_sem,↓reduceIte,reduceCtorEq,hx,h])|((first|refine VCx.call (hso _) rfl ?_);simp(disch:=omega) only[go_sem,↓reduceIte,reduceCtorEq,hx])));all_goals(clear q1 q2 hso hi hx hr;(simp_all[slot,qB]<;>first|rfl|omega|(rw[qA];simp;done)|(rw[qA];simp;omega)))
 refine PW.c (fun h=> ?_) (fun h=> ?_)
 ·refine PW.e ?_;(refine PW.ret ⟨_,rfl,?_⟩;first|refine .inl ⟨?_,rfl⟩|refine Fin.base (.id' ?_ (.bool _))|refine Fin.base (.id' ?_ (.int _ _)));clear q1 q2 hso hi hx;subst hr;(simp_all[slot,qB]<;>first|rfl|omega|(rw[qA];simp;done)|(rw[qA];simp;omega))
 refine PW.skip ?_;refine PW.e ?_;refine PW.l ?_;have hr9:r=(r1&&(r2&&((decide (sa=0)||decide (sa=1))&&(decide (sb=0)||decide (sb=1))))):=by rename_i hz1 hz2;clear q1 q2 hso hi hx;subst hr;cases fp<;>cases ff<;>simp_all
 suffices h1:(r1&&(decide (sa=0)||decide (sa=1)))=true→PL Tryz.prog _ _ [(9,.ptr (H.length+1) 1 0),(10,.ptr (H.length+2) 1 0),(59,.int .i64 1)] (H++[⟨152,0,[.int .i64 t,.int .i64 s,.bool ii,.bool n]⟩,⟨141,1,[.int .i64 va,.int .i64 vb,.int .i64 vc,.int .i64 vd]⟩,⟨143,1,[.int .i64 sa,.int .i64 sb]⟩]) _ by
  refine PL.round ?_;refine PW.e ?_;refine PW.c (fun h=> ?_) (fun h=> ?_)
  ·refine PW.skip ?_;refine PW.b ?_;refine PW.e ?_;(repeat refine PW.seq ?_);refine PW.rgv (P:=Tryz.prog) [9,10,59] 78 (.bool (!(r1&&(decide (sa=0)||decide (sa=1))))) ?_ ?_ ?_
   ·rfl
   rotate_left
   ·refine PW.c (fun h=> ?_) (fun h=> ?_);rotate_left
    ·have hb:(r1&&(decide (sa=0)||decide (sa=1)))=true:=by simpa only[qE]using h
     refine PW.skip ?_;refine PW.e ?_;exact PL.at [9,10,59] (h1 hb) rfl rfl
    ·have hb:(r1&&(decide (sa=0)||decide (sa=1)))=false:=by simpa only[qF]using h
     refine PW.e ?_;(refine PW.ret ⟨_,rfl,?_⟩;first|refine .inl ⟨?_,rfl⟩|refine Fin.base (.id' ?_ (.bool _))|refine Fin.base (.id' ?_ (.int _ _)));rw[hr9];clear h1 q1 q2 hso hi hx hr hr9;cases r1<;>simp_all[slot,qB]
   ·clear h1;cases r1<;>simp(disch:=omega) only[go_sem,↓reduceIte,reduceCtorEq]<;>(repeat'(first|((first|refine zh ?_ ?_|refine And.intro ?_ ?_)<;>intro h<;>(try simp only[nqb]at h)<;>simp(disch:=omega) only[go_sem,↓reduceIte,reduceCtorEq,h])|((first|refine VCx.call (q1 _) rfl ?_);simp(disch:=omega) only[go_sem,↓reduceIte,reduceCtorEq])));all_goals(clear q1 q2 hso hi hx hr hr9;(simp_all[slot,qB]<;>first|rfl|omega|(rw[qA];simp;done)|(rw[qA];simp;omega)))
  ·cases h
 intro hb1;refine PL.round ?_;refine PW.e ?_;refine PW.c (fun h=> ?_) (fun h=> ?_)
 ·refine PW.skip ?_;refine PW.b ?_;refine PW.e ?_;(repeat refine PW.seq ?_);refine PW.rgv (P:=Tryz.prog) [9,10,59] 78 (.bool (!(r2&&(decide (sb=0)||decide (sb=1))))) ?_ ?_ ?_
  ·rfl
  ·cases r2<;>simp(disch:=omega) only[go_sem,↓reduceIte,reduceCtorEq]<;>(repeat'(first|((first|refine zh ?_ ?_|refine And.intro ?_ ?_)<;>intro h<;>(try simp only[nqb]at h)<;>simp(disch:=omega) only[go_sem,↓reduceIte,reduceCtorEq,h])|((first|refine VCx.call (q2 _) rfl ?_);simp(disch:=omega) only[go_sem,↓reduceIte,reduceCtorEq])));all_goals(clear q1 q2 hso hi hx hr hr9;(simp_all[slot,qB]<;>first|rfl|omega|(rw[qA];simp;done)|(rw[qA];simp;omega)))
  refine PW.c (fun h=> ?_) (fun h=> ?_)
  ·have hb:(r2&&(decide (sb=0)||decide (sb=1)))=false:=by simpa only[qF]using h
   refine PW.e ?_;(refine PW.ret ⟨_,rfl,?_⟩;first|refine .inl ⟨?_,rfl⟩|refine Fin.base (.id' ?_ (.bool _))|refine Fin.base (.id' ?_ (.int _ _)));rw[hr9];clear q1 q2 hso hi hx hr hr9;cases r1<;>cases r2<;>simp_all[slot,qB]
  ·have hb:(r2&&(decide (sb=0)||decide (sb=1)))=true:=by simpa only[qE]using h
   refine PW.skip ?_;refine PW.e ?_;refine PL.round ?_;refine PW.e ?_;refine PW.u ?_;refine PW.exit ?_;refine PW.e ?_;(refine PW.ret ⟨_,rfl,?_⟩;first|refine .inl ⟨?_,rfl⟩|refine Fin.base (.id' ?_ (.bool _))|refine Fin.base (.id' ?_ (.int _ _)));rw[hr9];clear q1 q2 hso hi hx hr hr9;cases r1<;>cases r2<;>simp_all[slot,qB]
 ·cases h
set_option maxHeartbeats 3200000 in
set_option maxRecDepth 10000 in
theorem zsN(c:Cx)(m:Mb)(used:Bool)(i:Nat)(H:za)(hi:H[i]? =some (mB m)):CallOk Tryz.prog 284 [.agg (cxc c),.ptr i 0 0,.int .i64 1,.bool used] H (.bool (zcB c m.fp used m.ve m.vf m.vg m.vh m.sc m.sd)) H:=by
 have hil:i<H.length:=(qM.1 hi).1;have hso:=fun K=>zmk c m i (H++K) (zae hi);obtain ⟨k,ua,ub,fp,fd,va,vb,vc,vd,ve,vf,vg,vh,sa,sb,sc,sd,dl,ca,cb,cc,cd,ce,cf,lv⟩:=m;simp only [mB,mbc] at hi ⊢;have hx:=fun K=>zae (K:=K) hi;generalize hr:zcB c fp used ve vf vg vh sc sd=r;simp only [zcB] at hr;simp only at hso;generalize fcx c=ff at hso hr;obtain ⟨t,s,ii,n⟩:=c;have dX : decide ("X" = "_") = false := by decide
 have dY : decide ("Y" = "_") = false := by decide
 have q1:=fun H=>zgM ve vf H;have q2:=fun H=>zgM vg vh H;generalize vrg ve vf=r1 at q1 hr;generalize vrg vg vh=r2 at q2 hr;refine CallOk.body (F0:=[(0,.agg [.int .i64 t,.int .i64 s,.bool ii,.bool n]),(1,.ptr i 0 0),(2,.int .i64 1),(3,.bool used)]) Tryz.func284 rfl Tryz.ntmps284 Tryz.results284 rfl kr rfl ?_;refine PW.e ?_;(repeat refine PW.seq ?_);refine PW.view (Vs.place 141) (PW.view (Vs.place 143) ?_);(repeat refine PW.seq ?_);refine PW.drawi [H.length+1,H.length+2,i] [(9,[0]),(10,[1]),(1,[2]),(12,[2]),(13,[2]),(14,[2]),(15,[2]),(16,[2]),(17,[2]),(18,[2]),(19,[2]),(20,[2]),(21,[2]),(22,[2]),(23,[2])] [(9,0),(10,1)] [] mix kr (by simp<;>omega) fun K hK=> ?_;refine sqx hx ?_;refine hK _ _ ?_;clear hK K;refine PW.e ?_;refine PW.c (fun h=> ?_) (fun h=> ?_)
 ·have hu:used=false:=by simpa using h
  subst hu;(repeat refine PW.seq ?_);refine PW.rg rfl fun K hK=> ?_;simp(disch:=omega) only[go_sem,↓reduceIte,reduceCtorEq,↓zlK,↓neV,↓zlL];(repeat'((first|refine zh ?_ ?_|refine zk ?_ ?_|refine zU ?_ ?_|refine VOh_cond ?_ ?_|refine zT ?_ ?_|refine And.intro ?_ ?_)<;>intro h<;>(try simp only[nqb]at h)<;>simp(disch:=omega) only[go_sem,↓reduceIte,reduceCtorEq,↓zlK,↓neV,↓zlL,h]));all_goals(refine hK _ _ ?_;(refine PW.ret ⟨_,rfl,?_⟩;first|refine .inl ⟨?_,rfl⟩|refine Fin.base (.id' ?_ (.bool _))|refine Fin.base (.id' ?_ (.int _ _)));clear hK q1 q2 hso hi hx;subst hr;(simp_all[slot,qB]<;>first|rfl|omega|(rw[qA];simp;done)|(rw[qA];simp;omega)))
 have hu:used=true:=by simpa using h
 subst hu;refine PW.skip ?_;(repeat refine PW.seq ?_);refine PW.rgv (P:=Tryz.prog) [1,4,9,10] 49 (.bool (!fp&&(!(decide (vg=0)&&decide (vh=0))|| !decide (sd=0)))) ?_ ?_ ?_
 ·rfl
 ·simp(disch:=omega) only[go_sem,↓reduceIte,reduceCtorEq,hx,↓zlK,↓neV,↓zlL];(repeat'((first|refine zh ?_ ?_|refine zk ?_ ?_|refine zU ?_ ?_|refine VOh_cond ?_ ?_|refine zT ?_ ?_|refine And.intro ?_ ?_)<;>intro h<;>(try simp only[nqb]at h)<;>simp(disch:=omega) only[go_sem,↓reduceIte,reduceCtorEq,hx,↓zlK,↓neV,↓zlL,h]));all_goals(clear q1 q2 hso hi hx hr;(simp_all[slot,qB]<;>first|rfl|omega|(rw[qA];simp;done)|(rw[qA];simp;omega)))
 refine PW.c (fun h=> ?_) (fun h=> ?_)
 ·refine PW.e ?_;(refine PW.ret ⟨_,rfl,?_⟩;first|refine .inl ⟨?_,rfl⟩|refine Fin.base (.id' ?_ (.bool _))|refine Fin.base (.id' ?_ (.int _ _)));clear q1 q2 hso hi hx;subst hr;(simp_all[slot,qB]<;>first|rfl|omega|(rw[qA];simp;done)|(rw[qA];simp;omega))
 refine PW.skip ?_;(repeat refine PW.seq ?_);refine PW.rgv (P:=Tryz.prog) [9,10] 58 (.bool (!(fp||ff)&& !decide (sc=0))) ?_ ?_ ?_
 ·rfl
 ·refine sqz ?_;(repeat'(first|((first|refine zh ?_ ?_|refine And.intro ?_ ?_)<;>intro h<;>(try simp only[nqb]at h)<;>simp(disch:=omega) only[go_sem,↓reduceIte,reduceCtorEq,hx,h])|((first|refine VCx.call (hso _) rfl ?_);simp(disch:=omega) only[go_sem,↓reduceIte,reduceCtorEq,hx])));all_goals(clear q1 q2 hso hi hx hr;(simp_all[slot,qB]<;>first|rfl|omega|(rw[qA];simp;done)|(rw[qA];simp;omega)))
 refine PW.c (fun h=> ?_) (fun h=> ?_)
 ·refine PW.e ?_;(refine PW.ret ⟨_,rfl,?_⟩;first|refine .inl ⟨?_,rfl⟩|refine Fin.base (.id' ?_ (.bool _))|refine Fin.base (.id' ?_ (.int _ _)));clear q1 q2 hso hi hx;subst hr;(simp_all[slot,qB]<;>first|rfl|omega|(rw[qA];simp;done)|(rw[qA];simp;omega))
 refine PW.skip ?_;refine PW.e ?_;refine PW.l ?_;have hr9:r=(r1&&(r2&&((decide (sc=0)||decide (sc=1))&&(decide (sd=0)||decide (sd=1))))):=by rename_i hz1 hz2;clear q1 q2 hso hi hx;subst hr;cases fp<;>cases ff<;>simp_all
 suffices h1:(r1&&(decide (sc=0)||decide (sc=1)))=true→PL Tryz.prog _ _ [(9,.ptr (H.length+1) 1 0),(10,.ptr (H.length+2) 1 0),(59,.int .i64 1)] (H++[⟨152,0,[.int .i64 t,.int .i64 s,.bool ii,.bool n]⟩,⟨141,1,[.int .i64 ve,.int .i64 vf,.int .i64 vg,.int .i64 vh]⟩,⟨143,1,[.int .i64 sc,.int .i64 sd]⟩]) _ by
  refine PL.round ?_;refine PW.e ?_;refine PW.c (fun h=> ?_) (fun h=> ?_)
  ·refine PW.skip ?_;refine PW.b ?_;refine PW.e ?_;(repeat refine PW.seq ?_);refine PW.rgv (P:=Tryz.prog) [9,10,59] 78 (.bool (!(r1&&(decide (sc=0)||decide (sc=1))))) ?_ ?_ ?_
   ·rfl
   rotate_left
   ·refine PW.c (fun h=> ?_) (fun h=> ?_);rotate_left
    ·have hb:(r1&&(decide (sc=0)||decide (sc=1)))=true:=by simpa only[qE]using h
     refine PW.skip ?_;refine PW.e ?_;exact PL.at [9,10,59] (h1 hb) rfl rfl
    ·have hb:(r1&&(decide (sc=0)||decide (sc=1)))=false:=by simpa only[qF]using h
     refine PW.e ?_;(refine PW.ret ⟨_,rfl,?_⟩;first|refine .inl ⟨?_,rfl⟩|refine Fin.base (.id' ?_ (.bool _))|refine Fin.base (.id' ?_ (.int _ _)));rw[hr9];clear h1 q1 q2 hso hi hx hr hr9;cases r1<;>simp_all[slot,qB]
   ·clear h1;cases r1<;>simp(disch:=omega) only[go_sem,↓reduceIte,reduceCtorEq]<;>(repeat'(first|((first|refine zh ?_ ?_|refine And.intro ?_ ?_)<;>intro h<;>(try simp only[nqb]at h)<;>simp(disch:=omega) only[go_sem,↓reduceIte,reduceCtorEq,h])|((first|refine VCx.call (q1 _) rfl ?_);simp(disch:=omega) only[go_sem,↓reduceIte,reduceCtorEq])));all_goals(clear q1 q2 hso hi hx hr hr9;(simp_all[slot,qB]<;>first|rfl|omega|(rw[qA];simp;done)|(rw[qA];simp;omega)))
  ·cases h
 intro hb1;refine PL.round ?_;refine PW.e ?_;refine PW.c (fun h=> ?_) (fun h=> ?_)
 ·refine PW.skip ?_;refine PW.b ?_;refine PW.e ?_;(repeat refine PW.seq ?_);refine PW.rgv (P:=Tryz.prog) [9,10,59] 78 (.bool (!(r2&&(decide (sd=0)||decide (sd=1))))) ?_ ?_ ?_
  ·rfl
  ·cases r2<;>simp(disch:=omega) only[go_sem,↓reduceIte,reduceCtorEq]<;>(repeat'(first|((first|refine zh ?_ ?_|refine And.intro ?_ ?_)<;>intro h<;>(try simp only[nqb]at h)<;>simp(disch:=omega) only[go_sem,↓reduceIte,reduceCtorEq,h])|((first|refine VCx.call (q2 _) rfl ?_);simp(disch:=omega) only[go_sem,↓reduceIte,reduceCtorEq])));all_goals(clear q1 q2 hso hi hx hr hr9;(simp_all[slot,qB]<;>first|rfl|omega|(rw[qA];simp;done)|(rw[qA];simp;omega)))
  refine PW.c (fun h=> ?_) (fun h=> ?_)
  ·have hb:(r2&&(decide (sd=0)||decide (sd=1)))=false:=by simpa only[qF]using h
   refine PW.e ?_;(refine PW.ret ⟨_,rfl,?_⟩;first|refine .inl ⟨?_,rfl⟩|refine Fin.base (.id' ?_ (.bool _))|refine Fin.base (.id' ?_ (.int _ _)));rw[hr9];clear q1 q2 hso hi hx hr hr9;cases r1<;>cases r2<;>simp_all[slot,qB]
  ·have hb:(r2&&(decide (sd=0)||decide (sd=1)))=true:=by simpa only[qE]using h
   refine PW.skip ?_;refine PW.e ?_;refine PL.round ?_;refine PW.e ?_;refine PW.u ?_;refine PW.exit ?_;refine PW.e ?_;(refine PW.ret ⟨_,rfl,?_⟩;first|refine .inl ⟨?_,rfl⟩|refine Fin.base (.id' ?_ (.bool _))|refine Fin.base (.id' ?_ (.int _ _)));rw[hr9];clear q1 q2 hso hi hx hr hr9;cases r1<;>cases r2<;>simp_all[slot,qB]
 ·cases h
def zgO(c:Cx)(m:Mb):Bool:=(decide (c.t=2)&& !(m.ua&& !m.ub))||(!m.ua&& !m.ub)
def d0S(c:Cx)(m:Mb):Bool:=zcB c m.fp m.ua m.va m.vb m.vc m.vd m.sa m.sb
def d1S(c:Cx)(m:Mb):Bool:=zcB c m.fp m.ub m.ve m.vf m.vg m.vh m.sc m.sd
def zpF(c:Cx)(m:Mb):Bool:= !(zgO c m)&&(!(m.fp&& !(bcx c))&&(d0S c m&&d1S c m))
set_option maxHeartbeats 3200000 in
set_option maxRecDepth 10000 in
theorem zva(c:Cx)(m:Mb)(i:Nat)(H:za)(hi:H[i]? =some (mB m)):CallOk Tryz.prog 204 [.agg (cxc c),.ptr i 0 0] H (.bool (zpF c m)) H:=by
 have f0:=fun K=>zsO c m m.ua i (H++K) (zae hi);have f1:=fun K=>zsN c m m.ub i (H++K) (zae hi);have bo:=fun H=>zki c H;have hr:zpF c m=(!(zgO c m)&&(!(m.fp&& !(bcx c))&&(d0S c m&&d1S c m))):=rfl;have hub:zgO c m=((decide (c.t=2)&& !(m.ua&& !m.ub))||(!m.ua&& !m.ub)):=rfl;change ∀ K,CallOk _ _ _ _ (.bool (d0S c m)) _ at f0;change ∀ K,CallOk _ _ _ _ (.bool (d1S c m)) _ at f1;generalize zpF c m=r at hr ⊢;generalize d0S c m=e0 at f0 hr;generalize d1S c m=e1 at f1 hr;generalize zgO c m=ux at hub hr;generalize bcx c=bk at bo hr;obtain⟨k,ua,ub,fp,fd,va,vb,vc,vd,ve,vf,vg,vh,sa,sb,sc,sd,dl,ca,cb,cc,cd,ce,cf,lv⟩:=m;obtain⟨t,s,ii,n⟩:=c;simp only[mB,mbc]at hi hr hub f0 f1;have hx:=fun K=>zae (K:=K) hi;refine CallOk.body (F0:=[(0,.agg [.int .i64 t,.int .i64 s,.bool ii,.bool n]),(1,.ptr i 0 0)]) Tryz.func204 rfl Tryz.ntmps204 Tryz.results204 rfl kr rfl ?_;refine PW.e ?_;(repeat refine PW.seq ?_);refine PW.rgv (P:=Tryz.prog) [1,2] 25 (.bool ux) ?_ ?_ ?_
 ·rfl
 ·refine sqx hx ?_;(repeat'((first|refine zh ?_ ?_|refine zk ?_ ?_|refine zU ?_ ?_|refine VOh_cond ?_ ?_|refine zT ?_ ?_|refine And.intro ?_ ?_)<;>intro h<;>(try simp only[nqb]at h)<;>simp(disch:=omega) only[go_sem,↓reduceIte,reduceCtorEq,hx,h]));all_goals(clear f0 f1 bo hi hx hr;cases ua<;>cases ub<;>(simp_all[slot,qB]<;>first|rfl|omega|(rw[qA];simp;done)|(rw[qA];simp;omega)))
 refine PW.c (fun h=> ?_) (fun h=> ?_)
 ·subst h;refine PW.e ?_;(refine PW.ret ⟨_,rfl,?_⟩;first|refine .inl ⟨?_,rfl⟩|refine Fin.base (.id' ?_ (.bool _))|refine Fin.base (.id' ?_ (.int _ _)));rw[hr];rfl
 subst h;refine PW.skip ?_;(repeat refine PW.seq ?_);refine PW.rgv (P:=Tryz.prog) [1,2] 34 (.bool (fp&& !bk)) ?_ ?_ ?_
 ·rfl
 ·refine sqx hx ?_;(repeat'(first|((first|refine zh ?_ ?_|refine And.intro ?_ ?_)<;>intro h<;>(try simp only[nqb]at h)<;>simp(disch:=omega) only[go_sem,↓reduceIte,reduceCtorEq,hx,h])|((first|refine VCx.call (bo _) rfl ?_);simp(disch:=omega) only[go_sem,↓reduceIte,reduceCtorEq,hx])));all_goals(clear f0 f1 bo hi hx hr;(simp_all[slot,qB]<;>first|rfl|omega|(rw[qA];simp;done)|(rw[qA];simp;omega)))
 refine PW.c (fun h=> ?_) (fun h=> ?_)
 ·refine PW.e ?_;(refine PW.ret ⟨_,rfl,?_⟩;first|refine .inl ⟨?_,rfl⟩|refine Fin.base (.id' ?_ (.bool _))|refine Fin.base (.id' ?_ (.int _ _)));rw[hr,h];rfl
 rw[h]at hr;refine PW.skip ?_;refine PW.g hx ?_;refine PW.l ?_;refine PL.round ?_;refine PW.e ?_;refine PW.t ?_;refine PW.skip ?_;refine PW.b ?_;refine PW.e ?_;refine PW.k f0 ?_;refine PW.c (fun h=> ?_) (fun h=> ?_)
 ·have he:e0=false:=by simpa using h
  refine PW.e ?_;(refine PW.ret ⟨_,rfl,?_⟩;first|refine .inl ⟨?_,rfl⟩|refine Fin.base (.id' ?_ (.bool _))|refine Fin.base (.id' ?_ (.int _ _)));rw[hr,he];rfl
 have he:e0=true:=by simpa using h
 refine PW.skip ?_;refine PW.e ?_;refine PL.round ?_;refine PW.e ?_;refine PW.t ?_;refine PW.skip ?_;refine PW.b ?_;refine PW.e ?_;refine PW.k f1 ?_;refine PW.c (fun h=> ?_) (fun h=> ?_)
 ·have he1:e1=false:=by simpa using h
  refine PW.e ?_;(refine PW.ret ⟨_,rfl,?_⟩;first|refine .inl ⟨?_,rfl⟩|refine Fin.base (.id' ?_ (.bool _))|refine Fin.base (.id' ?_ (.int _ _)));rw[hr,he,he1];rfl
 have he1:e1=true:=by simpa using h
 refine PW.skip ?_;refine PW.e ?_;refine PL.round ?_;refine PW.e ?_;refine PW.u ?_;refine PW.exit ?_;refine PW.e ?_;(refine PW.ret ⟨_,rfl,?_⟩;first|refine .inl ⟨?_,rfl⟩|refine Fin.base (.id' ?_ (.bool _))|refine Fin.base (.id' ?_ (.int _ _)));rw[hr,he,he1];rfl
def zjS(c:Cx)(m:Mb):Bool:= !(decide (c.t=1)||zgO c m)&&(!((m.fp&& !(bcx c))||(m.fd&& !(bcx c)))&&(d0S c m&&(d1S c m&&(lvr m.lv&&(fbl (cdl m) m.lv&&(if hlM m then win m.dl 30 else !m.fd&&decide (m.dl=0)))))))
def zwD:List Int:=qC 64 0
def zl384:List Int:=qC 384 0
def zlv(lv:List Int):Bool:=zbk lv 0&&(zbk lv 1&&(zbk lv 2&&(zbk lv 3&&(zbk lv 4&&(zbk lv 5&&true)))))
theorem zvk(xs ys:List PV):za6 Tryz.prog 10 146 (.agg xs) (.agg ys)=if szT Tryz.prog 3=some 1∧xs.length=64∧ys.length=64 then zdt (.int .i64) xs ys else none:=kr
theorem zwY:szT Tryz.prog 3=some 1:=kr
theorem eqBl(bl:List Int)(h:bl.length=64):za6 Tryz.prog 10 146 (.agg (is bl)) (.agg (is zwD))=some (bl==qC 64 0):=by rw[zvk,if_pos ⟨zwY,by rw[zr];exact h,by rw[zr];rfl⟩];exact zgu .i64 bl (qC 64 0) (by rw[h];rfl)
theorem zuk(xs:List PV)(off:Nat):rd Tryz.prog 146 xs off=if off+64≤xs.length then some (.agg ((xs.drop off).take 64))else none:=kr
theorem zzm(lv:List Int)(n:Nat)(hl:lv.length=384)(hn:n<6):rd Tryz.prog 146 (is lv) (n * 64)=some (.agg (is ((lv.drop (n * 64)).take 64))):=by rw[zuk,if_pos (by rw[zr];omega),ze9,zd3]
theorem zwC(n:Nat)(hn:n<6):(zl384.drop (n * 64)).take 64=zwD:=by unfold zl384 zwD;rw[List.drop_replicate,List.take_replicate];congr 1;omega
theorem zsP(xs ys:List PV):za6 Tryz.prog 11 147 (.agg xs) (.agg ys)=zid (za6 Tryz.prog 10) Tryz.prog 146 64 xs ys [0,1,2,3,4,5]:=kr
theorem zck(lv:List Int)(n:Nat)(r:List Nat)(b:Bool)(hl:lv.length=384)(hn:n<6)(hr:zid (za6 Tryz.prog 10) Tryz.prog 146 64 (is lv) (is zl384) r=some b):zid (za6 Tryz.prog 10) Tryz.prog 146 64 (is lv) (is zl384) (n::r)=some (zbk lv n&&b):=by have h1:=zzm lv n hl hn;have h2:=zzm zl384 n (qO) hn;rw[zwC n hn]at h2;have h3:=eqBl _ (zkh lv n hl hn);unfold zid;rw[h1,h2];simp only[h3,hr];rfl
theorem eqLv(lv:List Int)(hl:lv.length=384):za6 Tryz.prog 11 147 (.agg (is lv)) (.agg (is zl384))=some (zlv lv):=by rw[zsP];exact zck lv 0 _ _ hl om (zck lv 1 _ _ hl om (zck lv 2 _ _ hl om (zck lv 3 _ _ hl om (zck lv 4 _ _ hl om (zck lv 5 _ _ hl om rfl)))))
theorem zuj(xs:List PV)(off:Nat):rd Tryz.prog 147 xs off=if off+384≤xs.length then some (.agg ((xs.drop off).take 384))else none:=kr
def zMb:Mb:=⟨0,false,false,false,false,0,0,0,0,0,0,0,0,0,0,0,0,0,false,false,false,false,false,false,zl384⟩
def zmv:List PV:=mbc zMb
theorem zys:zew Tryz.prog 149 []=some (.agg zmv):=kr
def mbF(P:Program):List Field:=match P.underlying 149 with|some (.struct fs)=>fs.toList|_=>[]
def zxF(P:Program):List Field:=(mbF P).take 8
def zxG(P:Program):List Field:=(mbF P).drop 8
theorem zli(eq:TypeId→PV→PV→Option Bool)(P:Program)(xs ys:List PV)(s:List Field)(b:Bool)(hs:zcf eq P xs ys s=some b):∀(r:List Field) (a:Bool),zcf eq P xs ys r=some a→zcf eq P xs ys (r++s)=some (a&&b)
 | [],a,h=>by
  cases h;exact hs
 | f::r,a,h=>by
  rw [List.cons_append];revert h;simp only [zcf];cases decide (f.name = "_") with
  | true=>intro h;cases h
  | false=>
   cases rd P f.type xs f.offset with
   | none=>intro h;cases h
   | some x=>
    cases rd P f.type ys f.offset with
    | none=>intro h;cases h
    | some y=>
     dsimp only;cases eq f.type x y with
     | none=>intro h;cases h
     | some c=>
      dsimp only;cases hq:zcf eq P xs ys r with
      | none=>intro h;cases h
      | some q=>rw[zli eq P xs ys s b hs r q hq];intro h;cases h;simp[Bool.and_assoc]
def zA(m:Mb):Bool:=(m.k==0)&&(((m.ua==false)&&((m.ub==false)&&true))&&((m.fp==false)&&((m.fd==false)&&((((((m.va==0)&&((m.vb==0)&&true))&&(((m.vc==0)&&((m.vd==0)&&true))&&true)))&&(((((m.ve==0)&&((m.vf==0)&&true))&&(((m.vg==0)&&((m.vh==0)&&true))&&true)))&&true))&&((((m.sa==0)&&((m.sb==0)&&true))&&((((m.sc==0)&&((m.sd==0)&&true)))&&true))&&((m.dl==0)&&(((m.ca==false)&&((m.cb==false)&&((m.cc==false)&&((m.cd==false)&&((m.ce==false)&&((m.cf==false)&&true))))))&&true)))))))
def zmb(m:Mb):Bool:=zA m&&(zlv m.lv&&true)
theorem zzt(k:Int)(ua ub fp fd:Bool)(va vb vc vd ve vf vg vh sa sb sc sd dl:Int)(ca cb cc cd ce cf:Bool)(lv:List Int):zcf (za6 Tryz.prog 11) Tryz.prog (mbc ⟨k,ua,ub,fp,fd,va,vb,vc,vd,ve,vf,vg,vh,sa,sb,sc,sd,dl,ca,cb,cc,cd,ce,cf,lv⟩) zmv (zxF Tryz.prog)=some (zA ⟨k,ua,ub,fp,fd,va,vb,vc,vd,ve,vf,vg,vh,sa,sb,sc,sd,dl,ca,cb,cc,cd,ce,cf,lv⟩):=kr
theorem zpp(xs ys:List PV)(x y:PV)(b:Bool)(hx:rd Tryz.prog 147 xs 24=some x)(hy:rd Tryz.prog 147 ys 24=some y)(hb:za6 Tryz.prog 11 147 x y=some b):zcf (za6 Tryz.prog 11) Tryz.prog xs ys (zxG Tryz.prog)=some (b&&true):=by
 have e:zcf (za6 Tryz.prog 11) Tryz.prog xs ys (zxG Tryz.prog)=match rd Tryz.prog 147 xs 24,rd Tryz.prog 147 ys 24 with
   | some a,some b=>match za6 Tryz.prog 11 147 a b with
    | some c=>some (c&&true)
    | none=>none
   | _,_=>none:=kr
 rw[e,hx,hy];simp only[hb]
theorem zsa(m:Mb):(mbc m).drop 24=is m.lv:=rfl
theorem zW(m:Mb)(hl:m.lv.length=384):(mbc m).length=408:=by simp only[mbc,qH,zr,hl]
theorem zzi(m:Mb)(hl:m.lv.length=384):rd Tryz.prog 147 (mbc m) 24=some (.agg (is m.lv)):=by rw[zuj,if_pos (by rw[zW m hl];omega),zsa,List.take_of_length_le (by rw[zr];omega)]
theorem zuE(xs ys:List PV):za6 Tryz.prog 12 149 (.agg xs) (.agg ys)=zcf (za6 Tryz.prog 11) Tryz.prog xs ys ((zxF Tryz.prog)++(zxG Tryz.prog)):=kr
theorem eqMb(m:Mb)(hl:m.lv.length=384):zdE Tryz.prog .eql 149 (.agg (mbc m)) (.agg zmv)=some (.bool (zmb m)):=by
 have e:∀ x y,zdE Tryz.prog .eql 149 x y=match za6 Tryz.prog 12 149 x y with|some b=>peq .eql b|none=>none:=fun x y=>by kernel_rfl
 have hz:zmv=mbc zMb:=rfl;rw[e,zuE,hz,zli _ _ _ _ _ _ (zpp _ _ _ _ _ (zzi m hl) (zzi zMb qO) (eqLv m.lv hl)) (zxF Tryz.prog) (zA m) (zzt ..)];rfl
theorem zpW:zlv zl384=true:=by decide
end Go.Proofs.YtpjlfoficnpfoaaGreatDoor.Sc
