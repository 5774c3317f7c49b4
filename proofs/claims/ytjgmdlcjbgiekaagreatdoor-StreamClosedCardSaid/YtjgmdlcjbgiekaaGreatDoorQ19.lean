/-
  Parts of the proof, put together in one text. No condition.
-/
import Derived.Test.YtjgmdlcjbgiekaaGreatDoorQ18
namespace Go.Proofs.YtjgmdlcjbgiekaaGreatDoor.Lg
set_option linter.all false
open Go.ChangeShapes Go.WideShapes Go.ChangeAt Go.RowKit Pm Sc Lp
theorem zmZ {ps:List PV} (h:Shp Tryz.prog 41 ps):∃ (c b:Bool) (t:Int),ps=[.bool c,.bool b,.int .i64 t]∧(-9223372036854775808≤t∧t≤9223372036854775807):=by
 obtain ⟨pss,rfl,hf⟩:=h.fields Tryz.underlying41
 match pss,hf with
 | [a,b,c],⟨ha,hb,hc,_⟩=>
  obtain ⟨a,rfl⟩:=zcv ha
  obtain ⟨b,rfl⟩:=zcv hb
  obtain ⟨c,rfl,h3⟩:=za1 hc
  exact ⟨a,b,c,rfl,h3⟩
theorem zm0 {ps:List PV} (h:Shp Tryz.prog 39 ps):∃ (p:Pi) (U:List (List UInt8)) (us:List (Int×List UInt8)),ps=cdc p U us∧U.length≤maxLen∧us.length≤maxLen∧∀ u∈us,zhl u.1:=by
 obtain ⟨pss,rfl,hf⟩:=h.fields Tryz.underlying39
 match pss,hf with
 | [p,u,l],⟨hp,hu,hl,_⟩=>
  obtain ⟨p,rfl,_⟩:=zrg hp
  obtain ⟨U,rfl,hU,_⟩:=hu.of_list (enc:=zkm) (good:=fun _=>True) Tryz.underlying36 (fun q hq=>by
   obtain ⟨x,rfl⟩:=zhv hq
   exact ⟨x,rfl,trivial⟩)
  obtain ⟨us,rfl,hm,hg⟩:=hl.of_list (enc:=uq1) (good:=fun u=>zhl u.1) Tryz.underlying37 (fun q hq=>by
   obtain ⟨t,x,rfl,ht⟩:=zos hq
   exact ⟨(t,x),rfl,ht⟩)
  exact ⟨p,U,us,rfl,hU,hm,hg⟩
theorem zou {ps:List PV} (h:Shp Tryz.prog 43 ps):∃ x:It,ps=itc x∧ItOk x:=by
 obtain ⟨pss,rfl,hf⟩:=h.fields Tryz.underlying43
 match pss,hf with
 | [k,s,g,c,p],⟨hk,hs,hg,hc,hp,_⟩=>
  obtain ⟨k,rfl,h1⟩:=za1 hk
  obtain ⟨s,rfl,h2⟩:=zlM hs
  obtain ⟨gc,gb,gt,rfl,h3⟩:=zmZ hg
  obtain ⟨p,U,us,rfl,_,_,h4⟩:=zm0 hc
  obtain ⟨n,rfl,h5⟩:=za1 hp
  exact ⟨⟨k,s,gc,gb,gt,p,U,us,n⟩,by simp [itc],⟨h2,h1,h3,h5,h4⟩⟩
theorem zht {ps:List PV} (h:Shp Tryz.prog 22 ps):∃ l:List It,ps=[.slice (l.flatMap itc) l.length false]∧∀ x∈l,ItOk x:=by
 obtain ⟨l,rfl,_,hg⟩:=h.of_list (enc:=itc) (good:=ItOk) Tryz.underlying22 (fun q hq=>zou hq)
 exact ⟨l,rfl,hg⟩
end Go.Proofs.YtjgmdlcjbgiekaaGreatDoor.Lg
namespace Go.Proofs.YtjgmdlcjbgiekaaGreatDoor.Sc
set_option linter.all false
open Pm Ty Go.RowKit
structure SqL (s:Sq):Prop where
 ia:s.ia.length=64
 ie:s.ie.length=64
theorem SqOk.toL {s:Sq} (h:SqOk s):SqL s:=⟨h.ia,h.ie⟩
theorem zsl (xs ys:List PV):zaP Tryz.prog 11 27 (.agg xs) (.agg ys)=if szT Tryz.prog 5=some 1∧xs.length=64∧ys.length=64 then zdP (.int .u8) xs ys else none:=by kernel_rfl
theorem zvF:szT Tryz.prog 5=some 1:=by kernel_rfl
theorem eqU (p q:List UInt8) (h:p.length=64) (h':q.length=64):zaP Tryz.prog 11 27 (.agg (bs p)) (.agg (bs q))=some (p==q):=by
 rw [zsl,if_pos ⟨zvF,by rw [ze];exact h,by rw [ze];exact h'⟩]
 exact zl1 .u8 p q (by rw [h,h'])
theorem zlW (xs:List PV) (off:Nat):rd Tryz.prog 27 xs off=if off+64≤xs.length then some (.agg ((xs.drop off).take 64)) else none:=by kernel_rfl
theorem zab (s:Sq) (hs:SqL s):(sqc s).length=135:=by
 simp only [sqc,List.length_cons,List.length_append,ze,hs.ia,hs.ie]
theorem zv3 (s:Sq) (hs:SqL s):rd Tryz.prog 27 (sqc s) 7=some (.agg (bs s.ia)):=by
 rw [zlW,if_pos (by rw [zab s hs];omega)]
 rw [show (sqc s).drop 7=bs s.ia++bs s.ie from rfl,zfo _ _ hs.ia]
theorem zv2 (s:Sq) (hs:SqL s):rd Tryz.prog 27 (sqc s) 71=some (.agg (bs s.ie)):=by
 rw [zlW,if_pos (by rw [zab s hs];omega)]
 rw [show (sqc s).drop 71=(bs s.ia++bs s.ie).drop 64 from rfl,zfn _ _ hs.ia,zeg _ hs.ie]
def sqF (P:Program):List Field:=match P.underlying 29 with|some (.struct fs)=>fs.toList|_=>[]
def ztR (P:Program):List Field:=(sqF P).take 6
def ztS (P:Program):List Field:=(sqF P).drop 6
theorem zl2 (eq:TypeId→PV→PV→Option Bool) (P:Program) (xs ys:List PV) (s:List Field) (b:Bool) (hs:zbV eq P xs ys s=some b):∀ (r:List Field) (a:Bool),zbV eq P xs ys r=some a→zbV eq P xs ys (r++s)=some (a&&b)
 | [],a,h=>by
  cases h
  exact hs
 | f::r,a,h=>by
  rw [List.cons_append]
  revert h
  simp only [zbV]
  cases decide (f.name = "_") with
  | true=>intro h;cases h
  | false=>
   cases rd P f.type xs f.offset with
   | none=>intro h;cases h
   | some x=>
    cases rd P f.type ys f.offset with
    | none=>intro h;cases h
    | some y=>
     dsimp only
     cases eq f.type x y with
     | none=>intro h;cases h
     | some c=>
      dsimp only
      cases hq:zbV eq P xs ys r with
      | none=>intro h;cases h
      | some q=>
       rw [zl2 eq P xs ys s b hs r q hq]
       intro h
       cases h
       simp [Bool.and_assoc]
def sqA (s t:Sq):Bool:=(s.w==t.w)&&((s.h==t.h)&&(((s.num==t.num)&&((s.den==t.den)&&true))&&((s.il==t.il)&&((s.br==t.br)&&((s.bf==t.bf)&&true)))))
def sqE (s t:Sq):Bool:=sqA s t&&((s.ia==t.ia)&&((s.ie==t.ie)&&true))
theorem sq6 (a1 a2 a3 a4:Int) (a5:Bool) (a6 a7:Int) (p q:List UInt8) (b1 b2 b3 b4:Int) (b5:Bool) (b6 b7:Int) (p' q':List UInt8):zbV (zaP Tryz.prog 11) Tryz.prog (sqc ⟨a1,a2,a3,a4,a5,a6,a7,p,q⟩) (sqc ⟨b1,b2,b3,b4,b5,b6,b7,p',q'⟩) (ztR Tryz.prog)=some (sqA ⟨a1,a2,a3,a4,a5,a6,a7,p,q⟩ ⟨b1,b2,b3,b4,b5,b6,b7,p',q'⟩):=by kernel_rfl
theorem zrd (xs ys:List PV) (x y x' y':PV) (b b':Bool) (hx:rd Tryz.prog 27 xs 7=some x) (hy:rd Tryz.prog 27 ys 7=some y) (hb:zaP Tryz.prog 11 27 x y=some b) (hx':rd Tryz.prog 27 xs 71=some x') (hy':rd Tryz.prog 27 ys 71=some y') (hb':zaP Tryz.prog 11 27 x' y'=some b'):zbV (zaP Tryz.prog 11) Tryz.prog xs ys (ztS Tryz.prog)=some (b&&(b'&&true)):=by
 have e:zbV (zaP Tryz.prog 11) Tryz.prog xs ys (ztS Tryz.prog)=match rd Tryz.prog 27 xs 7,rd Tryz.prog 27 ys 7 with
   | some a,some b=>match zaP Tryz.prog 11 27 a b with
    | some c=>(match rd Tryz.prog 27 xs 71,rd Tryz.prog 27 ys 71 with
     | some a,some b=>match zaP Tryz.prog 11 27 a b with
      | some c=>some (c&&true)
      | none=>none
     | _,_=>none).map fun q=>c&&q
    | none=>none
   | _,_=>none:=by kernel_rfl
 rw [e,hx,hy,hx',hy']
 simp only [hb,hb',Option.map_some]
theorem zrF (xs ys:List PV):zaP Tryz.prog 12 29 (.agg xs) (.agg ys)=zbV (zaP Tryz.prog 11) Tryz.prog xs ys ((ztR Tryz.prog)++(ztS Tryz.prog)):=by kernel_rfl
structure En where
 f:Int
 l:Int
 ty:Int
 pa:Int
 fu:Int
 sh:Int
def zaW (a b:Pi):Bool:= !(a.st==3)&&(!(b.st==3)&&(!(a.st==b.st)&&((a.ty==b.ty)&&((a.od==b.od)&&((a.tf==b.tf)&&(a.rp==b.rp))))))
def zca (h:Pi):Bool:=h.tf==(h.st==1)
def zt8:Pi:=⟨0,0,0,false,false,false⟩
def hdA (L:List It) (n:Int):Pi:=match L[n.toNat]? with|some x=>x.p|none=>zt8
structure As where
 sq:Sq
 kn:Bool
 op:Int
 rs:Bool
 lk:Int
structure FmY where
 f:Int
 l:Int
 sq:Sq
 hd:Pi
 rs:Bool
 lk:Int
def As.clr (a:As):As:={ a with rs:=true,lk:= -1 }
def As.cmp (a:As) (f l:Int) (h:Pi):As×Option FmY:=({ a with rs:=false,lk:= -1 },some ⟨f,l,a.sq,h,a.rs,a.lk⟩)
def As.pic (L:List It) (a:As) (i:Int) (h:Pi):As×Option FmY:=
 if (a.kn&&zL a.sq h)=false then ({ a with op:= -1 },none)
 else if h.st=3 then As.cmp { a with op:= -1 } i i h
 else if a.op≠-1∧zaW (hdA L a.op) h=true then As.cmp { a with op:= -1 } a.op i (hdA L a.op)
 else if zca h=true then ({ a with op:=i },none)
 else ({ a with op:= -1 },none)
def As.seq (a:As) (s:Sq):As:=if (a.kn&&sqE a.sq s)=true then a else { a.clr with sq:=s,kn:=zbM s }
def As.grp (a:As) (c b:Bool):As:=if c then a.clr else if b then { a with lk:=2 } else { a with lk:=0 }
def As.fin (a:As):As:={ a.clr with kn:=false }
def As.item (L:List It) (a:As) (i:Int) (x:It):As×Option FmY:=
 if x.k=3 then a.pic L i x.p
 else if x.k=1 then (As.seq { a with op:= -1 } x.s,none)
 else if x.k=2 then (As.grp { a with op:= -1 } x.gc x.gb,none)
 else if x.k=4 then (As.fin { a with op:= -1 },none)
 else ({ a with op:= -1 },none)
abbrev Ent:=En×Sq×Pi
def zS (v:Int) (e:Ent):Ent:=({ e.1 with sh:=v },e.2)
structure Dp where
 en:List Ent
 old:Int
 new:Int
 wt:Bool
 lk:Int
 sh:Int
def Dp.show (d:Dp) (n:Int):Dp:={ d with en:=d.en.modify n.toNat (zS d.sh),sh:=d.sh+1 }
def Dp.flush (d:Dp):Dp:=if d.wt then { d.show d.new with wt:=false } else d
def fmE (f:FmY) (pa fu:Int):Ent:=(⟨f.f,f.l,f.hd.ty,pa,fu,0⟩,f.sq,f.hd)
def Dp.frame (d:Dp) (f:FmY):Dp:=
 if f.hd.ty=3 then
  if d.lk≠0∨d.old= -1∨d.new= -1 then d
  else Dp.show { d with en:=d.en++[fmE f d.old d.new] } d.en.length
 else if f.hd.ty=2∧d.new= -1 then d
 else
  let e:=Dp.flush { d with en:=d.en++[fmE f d.new (-1)] }
  { e with old:=e.new,new:=d.en.length,wt:=true,lk:=max 0 (e.lk - 1) }
def Dp.res (d:Dp) (rs:Bool):Dp:=if rs then { d.flush with old:= -1,new:= -1,lk:=0 } else d
def Dp.lnk (d:Dp) (lk:Int):Dp:=if lk≠-1 then { d with lk:=lk } else d
def Dp.step (d:Dp) (f:FmY):Dp:=((d.res f.rs).lnk f.lk).frame f
def Dp.stepO (d:Dp):Option FmY→Dp
 | none=>d
 | some f=>d.step f
def as0 (z:Sq):As:=⟨z,false,-1,false,-1⟩
def dp0:Dp:=⟨[],-1,-1,false,0,0⟩
def sq0:Sq:=⟨0,0,0,0,false,0,0,List.replicate 64 0,List.replicate 64 0⟩
def asN (L:List It) (a:As):Int→List It→As
 | _,[]=>a
 | i,x::r=>asN L (a.item L i x).1 (i+1) r
def dpN (L:List It) (a:As) (d:Dp):Int→List It→Dp
 | _,[]=>d
 | i,x::r=>dpN L (a.item L i x).1 (d.stepO (a.item L i x).2) (i+1) r
def zZ (L:List It):List Ent:=(dpN L (as0 sq0) dp0 0 L).flush.en
structure Wk where
 hd:Bool
 sq:Sq
 old:Int
 new:Int
 wt:Bool
 op:Int
 no:Int
 sh:Int
 out:List En
 sk:Bool
def zvZ (v:Int) (e:En):En:={ e with sh:=v }
def Wk.disp (w:Wk):Wk:=if w.wt then { w with out:=w.out.modify w.new.toNat (zvZ w.sh),sh:=w.sh+1 } else w
def Wk.reset (w:Wk):Wk:={ w.disp with old:= -1,new:= -1,wt:=false,no:=0 }
def Wk.drop (w:Wk):Wk:={ w with sk:=w.sk||decide (0≤w.op),op:= -1 }
def Wk.frame (w:Wk) (f l ty:Int):Wk:=
 if ty=3 then
  if w.no>0∨w.old<0∨w.new<0 then { w with sk:=true }
  else { w with out:=w.out++[⟨f,l,ty,w.old,w.new,w.sh⟩],sh:=w.sh+1 }
 else if ty=2∧w.new<0 then { w with sk:=true }
 else
  let v:=Wk.disp { w with out:=w.out++[⟨f,l,ty,w.new,-1,0⟩] }
  { v with old:=v.new,new:=w.out.length,wt:=true,no:=max 0 (v.no - 1) }
def Wk.picture (L:List It) (w:Wk) (i:Int) (h:Pi):Wk:=
 let pr:=decide (0≤w.op)&&zaW (hdA L (max w.op 0)) h
 if (!w.hd||(!(zL w.sq h)||(!(h.st==3)&&(!pr&& !(zca h)))))=true then { w.drop with sk:=true }
 else if h.st=3 then w.drop.frame i i h.ty
 else if pr=true then Wk.frame { w with op:= -1 } w.op i (hdA L w.op).ty
 else { w.drop with op:=i }
def Wk.seq (w:Wk) (s:Sq):Wk:=if (!w.hd|| !(sqE w.sq s))=true then { w.reset with hd:=zbM s,sq:=s } else w
def Wk.grp (w:Wk) (c b:Bool):Wk:=if c then w.reset else if b then { w with no:=2 } else { w with no:=0 }
def Wk.step (L:List It) (w:Wk) (i:Int) (x:It):Wk:=
 if x.k=3 then w.picture L i x.p
 else if x.k=1 then w.drop.seq x.s
 else if x.k=2 then w.drop.grp x.gc x.gb
 else if x.k=4 then { w.drop.reset with hd:=false }
 else w.drop
def zne (a:As) (d:Dp):Dp:=(d.res a.rs).lnk a.lk
structure Same (w:Wk) (a:As) (d:Dp):Prop where
 hd:w.hd=a.kn
 sq:w.sq=a.sq
 op:w.op=a.op
 opr:w.op= -1∨0≤w.op
 old:w.old=(zne a d).old
 new:w.new=(zne a d).new
 wt:w.wt=(zne a d).wt
 no:w.no=(zne a d).lk
 sh:w.sh=(zne a d).sh
 out:w.out=(zne a d).en.map (·.1)
 nor:0≤w.no
 oldr: -1≤w.old
 newr: -1≤w.new
theorem map_set (en:List Ent) (n:Nat) (v:Int):(en.modify n (zS v)).map (·.1)=(en.map (·.1)).modify n (zvZ v):=by
 induction en generalizing n with
 | nil=>cases n<;>rfl
 | cons e r ih=>cases n with
  | zero=>rfl
  | succ n=>simp only [List.modify_succ_cons,List.map_cons,ih]
theorem zbh (d:Dp):d.flush.old=d.old∧d.flush.new=d.new∧d.flush.wt=false∧d.flush.lk=d.lk:=by
 unfold Dp.flush Dp.show
 cases h:d.wt<;>simp [h]
theorem zok {a b:Sq} (h:sqE a b=true):a=b:=by
 obtain ⟨a1,a2,a3,a4,a5,a6,a7,a8,a9⟩:=a
 obtain ⟨b1,b2,b3,b4,b5,b6,b7,b8,b9⟩:=b
 simp only [sqE,sqA,Bool.and_eq_true,beq_iff_eq] at h
 simp_all
def cur (L:List It) (n:Nat):Sq:=(L.take n).foldl (fun q x=>if x.k=1 then x.s else q) sq0
theorem zg3 {L:List It} {n:Nat} (h:n<L.length):cur L (n+1)=if L[n].k=1 then L[n].s else cur L n:=by
 unfold cur
 rw [List.take_succ,List.getElem?_eq_getElem h,List.foldl_append]
 rfl
theorem zgS {L:List It} {n:Nat} (h:n<L.length):hdA L (n:Int)=L[n].p:=by
 unfold hdA
 rw [Int.toNat_natCast,List.getElem?_eq_getElem h]
def FOk (L:List It) (f l:Int) (sq:Sq) (hd:Pi):Prop:=
 ∃ (n m:Nat) (hn:n<L.length) (hm:m<L.length),f=(n:Int)∧l=(m:Int)∧((m=n∧hd.st=3)∨(m=n+1∧zca hd=true∧zaW hd L[m].p=true∧zL sq L[m].p=true))∧L[n].k=3∧L[m].k=3∧hd=L[n].p∧sq=cur L n∧zL sq hd=true
def zqQ (L:List It) (a:As) (i:Nat):Prop:=
 a.sq=cur L i∧(a.op= -1∨∃ (o:Nat) (ho:o<L.length),a.op=(o:Int)∧o+1=i∧L[o].k=3∧zca L[o].p=true∧zL a.sq L[o].p=true)
theorem ztr (L:List It):zqQ L (as0 sq0) 0:=⟨by unfold cur;rfl,.inl rfl⟩
theorem zny {L:List It} {a:As} {i:Nat} (h:zqQ L a i) (hi:i<L.length):zqQ L (a.item L (i:Int) L[i]).1 (i+1)∧∀ f,(a.item L (i:Int) L[i]).2=some f→FOk L f.f f.l f.sq f.hd:=by
 obtain ⟨hs,ho⟩:=h
 have hc:=zg3 hi
 have nope:∀ {b:As},b.sq=a.sq→b.op= -1→L[i].k≠1→zqQ L b (i+1):=fun h1 h2 h3=>⟨by rw [h1,hs,hc,if_neg h3],.inl h2⟩
 unfold As.item
 by_cases k3:L[i].k=3
 ·rw [if_pos k3]
  have k1:L[i].k≠1:=by omega
  unfold As.pic
  by_cases hv:(a.kn&&zL a.sq L[i].p)=false
  ·rw [if_pos hv]
   exact ⟨nope rfl rfl k1,fun f hf=>by cases hf⟩
  rw [if_neg hv]
  have hv':zL a.sq L[i].p=true:=by
   cases h1:a.kn<;>cases h2:zL a.sq L[i].p<;>simp_all
  by_cases hw:L[i].p.st=3
  ·rw [if_pos hw]
   refine ⟨nope rfl rfl k1,fun f hf=> ?_⟩
   unfold As.cmp at hf
   injection hf with hf
   subst hf
   exact ⟨i,i,hi,hi,rfl,rfl,.inl ⟨rfl,hw⟩,k3,k3,rfl,hs,hv'⟩
  rw [if_neg hw]
  by_cases hp:a.op≠-1∧zaW (hdA L a.op) L[i].p=true
  ·rw [if_pos hp]
   refine ⟨nope rfl rfl k1,fun f hf=> ?_⟩
   unfold As.cmp at hf
   injection hf with hf
   subst hf
   rcases ho with h1|⟨o,hol,e1,e2,e3,e4,e5⟩
   ·exact absurd h1 hp.1
   ·have h2:=hp.2
    rw [e1,zgS hol] at h2
    subst e2
    have ec:cur L (o+1)=cur L o:=by rw [zg3 hol,if_neg (by omega)]
    refine ⟨o,o+1,hol,hi,e1,rfl,.inr ⟨rfl,?_,?_,hv'⟩,e3,k3,?_,hs.trans ec,?_⟩
    ·show zca (hdA L a.op)=true
     rw [e1,zgS hol];exact e4
    ·show zaW (hdA L a.op) _=true
     rw [e1,zgS hol];exact h2
    ·show hdA L a.op=_
     rw [e1,zgS hol]
    ·show zL a.sq (hdA L a.op)=true
     rw [e1,zgS hol];exact e5
  rw [if_neg hp]
  by_cases hl:zca L[i].p=true
  ·rw [if_pos hl]
   exact ⟨⟨by show a.sq=_;rw [hs,hc,if_neg k1],.inr ⟨i,hi,rfl,rfl,k3,hl,hv'⟩⟩,fun f hf=>by cases hf⟩
  ·rw [if_neg hl]
   exact ⟨nope rfl rfl k1,fun f hf=>by cases hf⟩
 rw [if_neg k3]
 by_cases k1:L[i].k=1
 ·rw [if_pos k1]
  refine ⟨?_,fun f hf=>by cases hf⟩
  unfold As.seq
  dsimp only
  by_cases he:(a.kn&&sqE a.sq L[i].s)=true
  ·rw [if_pos he]
   rw [Bool.and_eq_true] at he
   exact ⟨by rw [hc,if_pos k1];exact zok he.2,.inl rfl⟩
  ·rw [if_neg he]
   exact ⟨by rw [hc,if_pos k1],.inl rfl⟩
 rw [if_neg k1]
 by_cases k2:L[i].k=2
 ·rw [if_pos k2]
  refine ⟨?_,fun f hf=>by cases hf⟩
  unfold As.grp
  split
  ·exact nope rfl rfl k1
  ·split<;>exact nope rfl rfl k1
 rw [if_neg k2]
 split
 ·exact ⟨nope rfl rfl k1,fun f hf=>by cases hf⟩
 ·exact ⟨nope rfl rfl k1,fun f hf=>by cases hf⟩
def EOk (L:List It) (j:Nat) (e:Ent):Prop:=FOk L e.1.f e.1.l e.2.1 e.2.2∧e.1.ty=e.2.2.ty∧(-1≤e.1.pa∧e.1.pa<j)∧(-1≤e.1.fu∧e.1.fu<j)∧(e.1.ty=3→0≤e.1.pa∧0≤e.1.fu)∧(e.1.ty=2→0≤e.1.pa)∧(e.1.ty≠3→e.1.fu= -1)
theorem EOk.set {L:List It} {j:Nat} {e:Ent} (h:EOk L j e) (v:Int):EOk L j (zS v e):=h
structure DInv (L:List It) (d:Dp):Prop where
 e:∀ (j:Nat) (x:Ent),d.en[j]? =some x→EOk L j x
 old: -1≤d.old∧d.old<d.en.length
 new: -1≤d.new∧d.new<d.en.length
 wn:d.wt=true→0≤d.new
 sh:d.sh=d.en.length - (if d.wt then 1 else 0)
 s:∀ (j:Nat) (x:Ent),d.en[j]? =some x→(d.wt=true∧(j:Int)=d.new)∨(0≤x.1.sh∧x.1.sh<d.sh)
 i:∀ (j k:Nat) (x y:Ent),d.en[j]? =some x→d.en[k]? =some y→¬(d.wt=true∧(j:Int)=d.new)→¬(d.wt=true∧(k:Int)=d.new)→x.1.sh=y.1.sh→j=k
theorem zto (L:List It):DInv L dp0:=⟨fun j x h=>by simp [dp0] at h,by simp [dp0],by simp [dp0],fun h=>by simp [dp0] at h,by simp [dp0],fun j x h=>by simp [dp0] at h,fun j k x y h=>by simp [dp0] at h⟩
theorem zff {L:List It} {en:List Ent} {n:Nat} {sh:Int} {w:Nat→Prop} (hwn:¬ w n) (hsn:0≤sh) (he:∀ (j:Nat) (x:Ent),en[j]? =some x→EOk L j x)
  (hs:∀ (j:Nat) (x:Ent),en[j]? =some x→j=n∨w j∨(0≤x.1.sh∧x.1.sh<sh)) (hi:∀ (j k:Nat) (x y:Ent),en[j]? =some x→en[k]? =some y→j≠n→k≠n→¬ w j→¬ w k→x.1.sh=y.1.sh→j=k):
  (∀ (j:Nat) (x:Ent),(en.modify n (zS sh))[j]? =some x→EOk L j x)∧(∀ (j:Nat) (x:Ent),(en.modify n (zS sh))[j]? =some x→w j∨(0≤x.1.sh∧x.1.sh<sh+1))∧(∀ (j k:Nat) (x y:Ent),(en.modify n (zS sh))[j]? =some x→(en.modify n (zS sh))[k]? =some y→¬ w j→¬ w k→x.1.sh=y.1.sh→j=k):=by
 have at1:∀ (j:Nat) (x:Ent),(en.modify n (zS sh))[j]? =some x→∃ y,en[j]? =some y∧((j=n∧x=zS sh y)∨(j≠n∧x=y)):=fun j x h=>by
  rw [List.getElem?_modify] at h
  cases hy:en[j]? with
  | none=>rw [hy] at h;cases h
  | some y=>
   rw [hy] at h
   refine ⟨y,rfl,?_⟩
   by_cases hj:n=j
   ·subst hj
    simp at h
    exact .inl ⟨rfl,h.symm⟩
   ·simp [hj] at h
    exact .inr ⟨fun e=>hj e.symm,h.symm⟩
 refine ⟨fun j x h=> ?_,fun j x h=> ?_,fun j k x y hx hy wj wk hxy=> ?_⟩
 ·obtain ⟨y,hy,h1|h1⟩:=at1 j x h
  ·rw [h1.2];exact (he j y hy).set sh
  ·rw [h1.2];exact he j y hy
 ·obtain ⟨y,hy,h1|h1⟩:=at1 j x h
  ·rw [h1.2];right;show 0≤sh∧sh<sh+1;omega
  ·rcases hs j y hy with h2|h2|h2
   ·exact absurd h2 h1.1
   ·exact .inl h2
   ·rw [h1.2];right;omega
 ·obtain ⟨x',hx',a1|a1⟩:=at1 j x hx
  ·obtain ⟨y',hy',b1|b1⟩:=at1 k y hy
   ·rw [a1.1,b1.1]
   ·exfalso
    rcases hs k y' hy' with h2|h2|h2
    ·exact b1.1 h2
    ·exact wk h2
    ·rw [a1.2,b1.2] at hxy
     have:sh=y'.1.sh:=hxy
     omega
  ·obtain ⟨y',hy',b1|b1⟩:=at1 k y hy
   ·exfalso
    rcases hs j x' hx' with h2|h2|h2
    ·exact a1.1 h2
    ·exact wj h2
    ·rw [a1.2,b1.2] at hxy
     have:x'.1.sh=sh:=hxy
     omega
   ·rw [a1.2,b1.2] at hxy
    exact hi j k x' y' hx' hy' a1.1 b1.1 wj wk hxy
theorem zc1 {L:List It} {d:Dp} (h:DInv L d):DInv L d.flush∧d.flush.wt=false:=by
 unfold Dp.flush
 cases hw:d.wt with
 | false=>rw [if_neg (by simp)];exact ⟨h,hw⟩
 | true=>
  rw [if_pos rfl]
  refine ⟨?_,rfl⟩
  have hn:=h.new
  have hn0:=h.wn hw
  have hsh:=h.sh
  rw [hw,if_pos rfl] at hsh
  obtain ⟨g1,g2,g3⟩:=zff (L:=L) (en:=d.en) (n:=d.new.toNat) (sh:=d.sh) (w:=fun _=>False) (fun h=>h) (by omega) h.e (fun j x hx=>by
   rcases h.s j x hx with h1|h1
   ·exact .inl (by omega)
   ·exact .inr (.inr h1)) (fun j k x y hx hy h1 h2 _ _ h3=>h.i j k x y hx hy (fun h4=>h1 (by omega)) (fun h4=>h2 (by omega)) h3)
  have hl:(d.en.modify d.new.toNat (zS d.sh)).length=d.en.length:=by simp
  refine ⟨g1,?_,?_,fun h=>(by cases h),?_,fun j x hx=>.inr ?_,fun j k x y hx hy _ _ h3=>g3 j k x y hx hy (fun h=>h) (fun h=>h) h3⟩
  ·show -1≤d.old∧d.old<((d.en.modify d.new.toNat (zS d.sh)).length:Int)
   rw [hl];exact h.old
  ·show -1≤d.new∧d.new<((d.en.modify d.new.toNat (zS d.sh)).length:Int)
   rw [hl];exact h.new
  ·show d.sh+1=((d.en.modify d.new.toNat (zS d.sh)).length:Int) - (if false=true then 1 else 0)
   rw [hl,if_neg (by simp)];omega
  ·rcases g2 j x hx with h1|h1
   ·cases h1
   ·exact h1
theorem zql {L:List It} {d:Dp} (h:DInv L d) (rs:Bool) (lk:Int):DInv L ((d.res rs).lnk lk):=by
 have h1:DInv L (d.res rs):=by
  unfold Dp.res
  cases rs with
  | false=>rw [if_neg (by simp)];exact h
  | true=>
   rw [if_pos rfl]
   obtain ⟨g,gw⟩:=zc1 h
   refine ⟨g.e,⟨Int.le_refl _,by show (-1:Int)<_;omega⟩,⟨Int.le_refl _,by show (-1:Int)<_;omega⟩,fun e=> ?_,?_,fun j x hx=> ?_,fun j k x y hx hy _ _ h3=> ?_⟩
   ·have e':d.flush.wt=true:=e
    rw [gw] at e';cases e'
   ·exact g.sh
   ·rcases g.s j x hx with h1|h1
    ·rw [gw] at h1;cases h1.1
    ·exact .inr h1
   ·exact g.i j k x y hx hy (by rw [gw];simp) (by rw [gw];simp) h3
 unfold Dp.lnk
 split
 ·exact ⟨h1.e,h1.old,h1.new,h1.wn,h1.sh,h1.s,h1.i⟩
 ·exact h1
theorem zal {α:Type} {l:List α} {a x:α} {j:Nat} (h:(l++[a])[j]? =some x):(j<l.length∧l[j]? =some x)∨(j=l.length∧x=a):=by
 by_cases hj:j<l.length
 ·rw [List.getElem?_append_left hj] at h
  exact .inl ⟨hj,h⟩
 ·rw [List.getElem?_append_right (by omega)] at h
  cases hk:j - l.length with
  | zero=>
   rw [hk] at h
   simp at h
   exact .inr ⟨by omega,h.symm⟩
  | succ k=>rw [hk] at h;simp at h
theorem zlj {L:List It} {d:Dp} {f:FmY} (h:DInv L d) (hf:FOk L f.f f.l f.sq f.hd):DInv L (d.frame f):=by
 have ho:=h.old
 have hn:=h.new
 have hsh:=h.sh
 unfold Dp.frame
 by_cases h3:f.hd.ty=3
 ·rw [if_pos h3]
  by_cases hc:d.lk≠0∨d.old= -1∨d.new= -1
  ·rw [if_pos hc];exact h
  rw [if_neg hc]
  have ho0:0≤d.old:=by omega
  have hn0:0≤d.new:=by omega
  obtain ⟨g1,g2,g3⟩:=zff (L:=L) (en:=d.en++[fmE f d.old d.new]) (n:=d.en.length) (sh:=d.sh) (w:=fun j=>d.wt=true∧(j:Int)=d.new) (fun h=>by omega) (by rw [hsh];split<;>omega)
   (fun j x hx=>by
    rcases zal hx with ⟨_,h1⟩|⟨h1,h2⟩
    ·exact h.e j x h1
    ·rw [h2,h1]
     exact ⟨hf,rfl,⟨by show -1≤d.old;omega,by show d.old<_;omega⟩,⟨by show -1≤d.new;omega,by show d.new<_;omega⟩,fun _=>⟨ho0,hn0⟩,fun _=>ho0,fun e=>absurd h3 e⟩)
   (fun j x hx=>by
    rcases zal hx with ⟨_,h1⟩|⟨h1,h2⟩
    ·rcases h.s j x h1 with h2|h2
     ·exact .inr (.inl h2)
     ·exact .inr (.inr h2)
    ·exact .inl h1)
   (fun j k x y hx hy j1 k1 wj wk hxy=>by
    rcases zal hx with ⟨_,h1⟩|⟨h1,_⟩
    ·rcases zal hy with ⟨_,h2⟩|⟨h2,_⟩
     ·exact h.i j k x y h1 h2 wj wk hxy
     ·exact absurd h2 k1
    ·exact absurd h1 j1)
  have hl:((d.en++[fmE f d.old d.new]).modify d.en.length (zS d.sh)).length=d.en.length+1:=by simp
  refine ⟨?_,?_,?_,h.wn,?_,?_,?_⟩
  ·intro j x hx
   exact g1 j x (by simpa [Dp.show] using hx)
  ·show -1≤d.old∧d.old<(((d.en++[fmE f d.old d.new]).modify ((d.en.length:Nat):Int).toNat (zS d.sh)).length:Int)
   rw [Int.toNat_natCast,hl];omega
  ·show -1≤d.new∧d.new<(((d.en++[fmE f d.old d.new]).modify ((d.en.length:Nat):Int).toNat (zS d.sh)).length:Int)
   rw [Int.toNat_natCast,hl];omega
  ·show d.sh+1=(((d.en++[fmE f d.old d.new]).modify ((d.en.length:Nat):Int).toNat (zS d.sh)).length:Int) - (if d.wt=true then 1 else 0)
   rw [Int.toNat_natCast,hl,hsh];split<;>omega
  ·intro j x hx
   exact g2 j x (by simpa [Dp.show] using hx)
  ·intro j k x y hx hy wj wk hxy
   exact g3 j k x y (by simpa [Dp.show] using hx) (by simpa [Dp.show] using hy) wj wk hxy
 rw [if_neg h3]
 by_cases hc:f.hd.ty=2∧d.new= -1
 ·rw [if_pos hc];exact h
 rw [if_neg hc]
 have hE:EOk L d.en.length (fmE f d.new (-1)):=⟨hf,rfl,⟨by show -1≤d.new;omega,by show d.new<_;omega⟩,⟨Int.le_refl _,by show (-1:Int)<_;omega⟩,fun e=>absurd e h3,fun e=>by
  have e':f.hd.ty=2:=e
  show 0≤d.new
  by_cases h1:d.new= -1
  ·exact absurd ⟨e',h1⟩ hc
  ·omega,fun _=>rfl⟩
 have hall:∀ (j:Nat) (x:Ent),(d.en++[fmE f d.new (-1)])[j]? =some x→EOk L j x:=fun j x hx=>by
  rcases zal hx with ⟨_,h1⟩|⟨h1,h2⟩
  ·exact h.e j x h1
  ·rw [h2,h1];exact hE
 dsimp only
 cases hw:d.wt with
 | false=>
  have e:Dp.flush { d with en:=d.en++[fmE f d.new (-1)] }={ d with en:=d.en++[fmE f d.new (-1)] }:=by
   unfold Dp.flush
   show (if d.wt=true then _ else _)=_
   rw [hw,if_neg (by simp)]
  rw [hw] at e
  rw [e]
  rw [hw,if_neg (by simp)] at hsh
  refine ⟨hall,?_,?_,fun _=> ?_,?_,?_,?_⟩
  ·show -1≤d.new∧d.new<((d.en++[fmE f d.new (-1)]).length:Int)
   rw [List.length_append];simp only [List.length_cons,List.length_nil];omega
  ·show (-1:Int)≤(d.en.length:Int)∧(d.en.length:Int)<((d.en++[fmE f d.new (-1)]).length:Int)
   rw [List.length_append];simp only [List.length_cons,List.length_nil];omega
  ·show (0:Int)≤(d.en.length:Int);omega
  ·show d.sh=((d.en++[fmE f d.new (-1)]).length:Int) - (if true=true then 1 else 0)
   rw [List.length_append,if_pos rfl];simp only [List.length_cons,List.length_nil];omega
  ·intro j x hx
   rcases zal hx with ⟨_,h1⟩|⟨h1,_⟩
   ·rcases h.s j x h1 with h2|h2
    ·rw [hw] at h2;cases h2.1
    ·exact .inr h2
   ·exact .inl ⟨rfl,by show (j:Int)=(d.en.length:Int);omega⟩
  ·intro j k x y hx hy wj wk hxy
   rcases zal hx with ⟨_,h1⟩|⟨h1,_⟩
   ·rcases zal hy with ⟨_,h2⟩|⟨h2,_⟩
    ·exact h.i j k x y h1 h2 (by rw [hw];simp) (by rw [hw];simp) hxy
    ·exact absurd ⟨rfl,by show (k:Int)=(d.en.length:Int);omega⟩ wk
   ·exact absurd ⟨rfl,by show (j:Int)=(d.en.length:Int);omega⟩ wj
 | true=>
  have hn0:=h.wn hw
  rw [hw,if_pos rfl] at hsh
  have e:Dp.flush { d with en:=d.en++[fmE f d.new (-1)] }={ d with en:=(d.en++[fmE f d.new (-1)]).modify d.new.toNat (zS d.sh),sh:=d.sh+1,wt:=false }:=by
   unfold Dp.flush
   show (if d.wt=true then _ else _)=_
   rw [hw,if_pos rfl]
   rfl
  rw [hw] at e
  rw [e]
  obtain ⟨g1,g2,g3⟩:=zff (L:=L) (en:=d.en++[fmE f d.new (-1)]) (n:=d.new.toNat) (sh:=d.sh) (w:=fun j=>j=d.en.length) (by show ¬ d.new.toNat=d.en.length;omega) (by omega) hall
   (fun j x hx=>by
    rcases zal hx with ⟨_,h1⟩|⟨h1,_⟩
    ·rcases h.s j x h1 with h2|h2
     ·exact .inl (by omega)
     ·exact .inr (.inr h2)
    ·exact .inr (.inl h1))
   (fun j k x y hx hy j1 k1 wj wk hxy=>by
    rcases zal hx with ⟨_,h1⟩|⟨h1,_⟩
    ·rcases zal hy with ⟨_,h2⟩|⟨h2,_⟩
     ·exact h.i j k x y h1 h2 (fun h4=>j1 (by omega)) (fun h4=>k1 (by omega)) hxy
     ·exact absurd h2 wk
    ·exact absurd h1 wj)
  have hl:((d.en++[fmE f d.new (-1)]).modify d.new.toNat (zS d.sh)).length=d.en.length+1:=by simp
  refine ⟨g1,?_,?_,fun _=> ?_,?_,?_,?_⟩
  ·show -1≤d.new∧d.new<(((d.en++[fmE f d.new (-1)]).modify d.new.toNat (zS d.sh)).length:Int)
   rw [hl];omega
  ·show (-1:Int)≤(d.en.length:Int)∧(d.en.length:Int)<(((d.en++[fmE f d.new (-1)]).modify d.new.toNat (zS d.sh)).length:Int)
   rw [hl];omega
  ·show (0:Int)≤(d.en.length:Int);omega
  ·show d.sh+1=(((d.en++[fmE f d.new (-1)]).modify d.new.toNat (zS d.sh)).length:Int) - (if true=true then 1 else 0)
   rw [hl,if_pos rfl];omega
  ·intro j x hx
   rcases g2 j x hx with h1|h1
   ·exact .inl ⟨rfl,by show (j:Int)=(d.en.length:Int);omega⟩
   ·exact .inr h1
  ·intro j k x y hx hy wj wk hxy
   exact g3 j k x y hx hy (fun e=>wj ⟨rfl,by show (j:Int)=(d.en.length:Int);omega⟩) (fun e=>wk ⟨rfl,by show (k:Int)=(d.en.length:Int);omega⟩) hxy
structure SInv (L:List It) (es:List Ent):Prop where
 e:∀ (j:Nat) (x:Ent),es[j]? =some x→EOk L j x
 s:∀ (j:Nat) (x:Ent),es[j]? =some x→0≤x.1.sh∧x.1.sh<es.length
 i:∀ (j k:Nat) (x y:Ent),es[j]? =some x→es[k]? =some y→x.1.sh=y.1.sh→j=k
theorem ziI {L:List It}:∀ (l:List It) (a:As) (d:Dp) (i:Nat),L.drop i=l→zqQ L a i→DInv L d→DInv L (dpN L a d (i:Int) l)
 | [],_,d,_,_,_,hd=>hd
 | x::r,a,d,i,hl,ha,hd=>by
  have hi:i<L.length:=by
   rcases Nat.lt_or_ge i L.length with h|h
   ·exact h
   ·rw [List.drop_of_length_le h] at hl;cases hl
  rw [List.drop_eq_getElem_cons hi] at hl
  injection hl with h1 h2
  obtain ⟨g1,g2⟩:=zny ha hi
  rw [h1] at g1 g2
  rw [dpN]
  have e:(i:Int)+1=((i+1:Nat):Int):=by omega
  rw [e]
  refine ziI r _ _ (i+1) h2 g1 ?_
  cases hf:(a.item L (i:Int) x).2 with
  | none=>exact hd
  | some f=>exact zlj (zql hd f.rs f.lk) (g2 f hf)
theorem zbB (L:List It):SInv L (zZ L):=by
 have h:DInv L (dpN L (as0 sq0) dp0 0 L):=ziI L (as0 sq0) dp0 0 (by simp) (ztr L) (zto L)
 obtain ⟨g,gw⟩:=zc1 h
 have hs:=g.sh
 rw [gw,if_neg (by simp)] at hs
 refine ⟨g.e,fun j x hx=> ?_,fun j k x y hx hy h3=>g.i j k x y hx hy (by rw [gw];simp) (by rw [gw];simp) h3⟩
 rcases g.s j x hx with h1|h1
 ·rw [gw] at h1;cases h1.1
 ·have:((zZ L).length:Int)=(Dp.flush (dpN L (as0 sq0) dp0 0 L)).en.length:=rfl
  omega
structure Cx where
 t:Int
 s:Int
 i:Bool
 n:Bool
def cxc (c:Cx):List PV:=[.int .i64 c.t,.int .i64 c.s,.bool c.i,.bool c.n]
def vcx (c:Cx):Bool:=decide (1≤c.t)&&(decide (c.t≤3)&&(decide (1≤c.s)&&(decide (c.s≤3)&&(if c.s=3 then !c.n else c.i))))
def fcx (c:Cx):Bool:=decide (c.s≠3)
def bcx (c:Cx):Bool:=c.i&&decide (c.s=3)
structure Mb where
 k:Int
 ua:Bool
 ub:Bool
 fp:Bool
 fd:Bool
 va:Int
 vb:Int
 vc:Int
 vd:Int
 ve:Int
 vf:Int
 vg:Int
 vh:Int
 sa:Int
 sb:Int
 sc:Int
 sd:Int
 dl:Int
 ca:Bool
 cb:Bool
 cc:Bool
 cd:Bool
 ce:Bool
 cf:Bool
 lv:List Int
def mbc (m:Mb):List PV:=.int .i64 m.k:: .bool m.ua:: .bool m.ub:: .bool m.fp:: .bool m.fd:: .int .i64 m.va:: .int .i64 m.vb:: .int .i64 m.vc:: .int .i64 m.vd:: .int .i64 m.ve:: .int .i64 m.vf:: .int .i64 m.vg:: .int .i64 m.vh:: .int .i64 m.sa:: .int .i64 m.sb:: .int .i64 m.sc:: .int .i64 m.sd:: .int .i64 m.dl:: .bool m.ca:: .bool m.cb:: .bool m.cc:: .bool m.cd:: .bool m.ce:: .bool m.cf::is m.lv
def mB (m:Mb):Blk:=⟨154,0,mbc m⟩
def zi0 (m:Mb):Bool:=m.ca||(m.cb||(m.cc||(m.cd||(m.ce||m.cf))))
def hlM (m:Mb):Bool:=decide (m.k=1)||zi0 m
def win (x n:Int):Bool:=decide (-n≤x)&&decide (x≤n)
def fch (c:Cx) (m:Mb):Bool:=if hlM m then (bcx c|| !m.fd)&&win m.dl 30 else !m.fd&&decide (m.dl=0)
theorem zkl (c:Cx) (H:za):CallOk Tryz.prog 182 [.agg (cxc c)] H (.bool (vcx c)) H:=by
 obtain ⟨t,s,i,n⟩:=c
 refine CallOk.body (F0:=[(0,.agg [.int .i64 t,.int .i64 s,.bool i,.bool n])]) Tryz.func182 rfl Tryz.ntmps182 Tryz.results182 rfl (by kernel_rfl) rfl ?_
 (repeat' (first|refine PW.seq ?_|refine PW.skip ?_|refine PW.block ?_|((first|refine PW.rg rfl fun K hK=> ?_|refine PW.draw mix (by kernel_rfl) fun K hK=> ?_);simp (disch:=omega) only [go_sem,↓reduceIte,reduceCtorEq])|((first|refine zj ?_ ?_|refine zn ?_ ?_|refine And.intro ?_ ?_)<;>intro h<;>(try simp only [nqb] at h)<;>simp (disch:=omega) only [go_sem,↓reduceIte,reduceCtorEq,h])|(refine hK _ _ ?_;clear hK K)|(refine PW.cond (t:=_) rfl (fun h=> ?_) (fun h=> ?_)<;>(try (cases h;done))<;>(try simp only [nqb] at h))))
 all_goals ((refine PW.ret ⟨_,rfl,?_⟩;first|refine .inl ⟨?_,rfl⟩|refine Fin.base (.id' ?_ (.bool _))|refine Fin.base (.id' ?_ (.int _ _)));(simp_all [vcx,slot,Nat.beq]<;>first|rfl|omega|(rw [Bool.eq_iff_iff];simp;done)|(rw [Bool.eq_iff_iff];simp;omega)))
theorem zlg (c:Cx) (H:za):CallOk Tryz.prog 215 [.agg (cxc c)] H (.bool (fcx c)) H:=by
 obtain ⟨t,s,i,n⟩:=c
 refine CallOk.body (F0:=[(0,.agg [.int .i64 t,.int .i64 s,.bool i,.bool n])]) Tryz.func215 rfl Tryz.ntmps215 Tryz.results215 rfl (by kernel_rfl) rfl ?_
 (repeat' (first|refine PW.seq ?_|refine PW.skip ?_|refine PW.block ?_|((first|refine PW.rg rfl fun K hK=> ?_|refine PW.draw mix (by kernel_rfl) fun K hK=> ?_);simp (disch:=omega) only [go_sem,↓reduceIte,reduceCtorEq])|((first|refine zj ?_ ?_|refine zn ?_ ?_|refine And.intro ?_ ?_)<;>intro h<;>(try simp only [nqb] at h)<;>simp (disch:=omega) only [go_sem,↓reduceIte,reduceCtorEq,h])|(refine hK _ _ ?_;clear hK K)|(refine PW.cond (t:=_) rfl (fun h=> ?_) (fun h=> ?_)<;>(try (cases h;done))<;>(try simp only [nqb] at h))))
 all_goals ((refine PW.ret ⟨_,rfl,?_⟩;first|refine .inl ⟨?_,rfl⟩|refine Fin.base (.id' ?_ (.bool _))|refine Fin.base (.id' ?_ (.int _ _)));(simp_all [fcx,slot,Nat.beq]<;>first|rfl|omega|(rw [Bool.eq_iff_iff];simp;done)|(rw [Bool.eq_iff_iff];simp;omega)))
theorem ziT (c:Cx) (H:za):CallOk Tryz.prog 259 [.agg (cxc c)] H (.bool (bcx c)) H:=by
 obtain ⟨t,s,i,n⟩:=c
 refine CallOk.body (F0:=[(0,.agg [.int .i64 t,.int .i64 s,.bool i,.bool n])]) Tryz.func259 rfl Tryz.ntmps259 Tryz.results259 rfl (by kernel_rfl) rfl ?_
 (repeat' (first|refine PW.seq ?_|refine PW.skip ?_|refine PW.block ?_|((first|refine PW.rg rfl fun K hK=> ?_|refine PW.draw mix (by kernel_rfl) fun K hK=> ?_);simp (disch:=omega) only [go_sem,↓reduceIte,reduceCtorEq])|((first|refine zj ?_ ?_|refine zn ?_ ?_|refine And.intro ?_ ?_)<;>intro h<;>(try simp only [nqb] at h)<;>simp (disch:=omega) only [go_sem,↓reduceIte,reduceCtorEq,h])|(refine hK _ _ ?_;clear hK K)|(refine PW.cond (t:=_) rfl (fun h=> ?_) (fun h=> ?_)<;>(try (cases h;done))<;>(try simp only [nqb] at h))))
 all_goals ((refine PW.ret ⟨_,rfl,?_⟩;first|refine .inl ⟨?_,rfl⟩|refine Fin.base (.id' ?_ (.bool _))|refine Fin.base (.id' ?_ (.int _ _)));(simp_all [bcx,slot,Nat.beq]<;>first|rfl|omega|(rw [Bool.eq_iff_iff];simp;done)|(rw [Bool.eq_iff_iff];simp;omega)))
theorem zdd (x n:Int) (H:za) (hn:0≤n∧n≤10000):CallOk Tryz.prog 255 [.int .i64 x,.int .i64 n] H (.bool (win x n)) H:=by
 refine CallOk.body (F0:=[(0,.int .i64 x),(1,.int .i64 n)]) Tryz.func255 rfl Tryz.ntmps255 Tryz.results255 rfl (by kernel_rfl) rfl ?_
 (repeat' (first|refine PW.seq ?_|refine PW.skip ?_|refine PW.block ?_|((first|refine PW.rg rfl fun K hK=> ?_|refine PW.draw mix (by kernel_rfl) fun K hK=> ?_);simp (disch:=omega) only [go_sem,↓reduceIte,reduceCtorEq])|((first|refine zj ?_ ?_|refine zn ?_ ?_|refine And.intro ?_ ?_)<;>intro h<;>(try simp only [nqb] at h)<;>simp (disch:=omega) only [go_sem,↓reduceIte,reduceCtorEq,h])|(refine hK _ _ ?_;clear hK K)|(refine PW.cond (t:=_) rfl (fun h=> ?_) (fun h=> ?_)<;>(try (cases h;done))<;>(try simp only [nqb] at h))))
 all_goals ((refine PW.ret ⟨_,rfl,?_⟩;first|refine .inl ⟨?_,rfl⟩|refine Fin.base (.id' ?_ (.bool _))|refine Fin.base (.id' ?_ (.int _ _)));(simp_all [win,slot,Nat.beq]<;>first|rfl|omega|(rw [Bool.eq_iff_iff];simp;done)|(rw [Bool.eq_iff_iff];simp;omega)))
def vrg (x y:Int):Bool:=win x 63&&win y 63
end Go.Proofs.YtjgmdlcjbgiekaaGreatDoor.Sc
