/-
  Parts of the proof. No condition.
-/
import Derived.Test.YtleejngibkbjnaaGreatDoorW07
import Derived.Test.YtleejngibkbjnaaGreatDoorW31
set_option linter.all false
set_option maxRecDepth 100000
set_option maxHeartbeats 32000000
namespace Go.Proofs.YtleejngibkbjnaaGreatDoor.Sc
open Pm Ty Go.RowKit
structure En where
 f:Int
 l:Int
 ty:Int
 pa:Int
 fu:Int
 sh:Int
def za4(a b:Pi):Bool:= !(a.st==3)&&(!(b.st==3)&&(!(a.st==b.st)&&((a.ty==b.ty)&&((a.od==b.od)&&((a.tf==b.tf)&&(a.rp==b.rp))))))
def zbn(h:Pi):Bool:=h.tf==(h.st==1)
def zz5:Pi:=⟨0,0,0,false,false,false⟩
def hdA(L:List It)(n:Int):Pi:=match L[n.toNat]? with|some x=>x.p|none=>zz5
structure As where
 sq:Sq
 kn:Bool
 op:Int
 rs:Bool
 lk:Int
structure FmY where
 f:Int
 l:Int
 sq:Sq
 hd:Pi
 rs:Bool
 lk:Int
def As.clr(a:As):As:={ a with rs:=true,lk:= -1 }
def As.cmp(a:As)(f l:Int)(h:Pi):As×Option FmY:=({ a with rs:=false,lk:= -1 },some ⟨f,l,a.sq,h,a.rs,a.lk⟩)
def As.pic(L:List It)(a:As)(i:Int)(h:Pi):As×Option FmY:=
 if(a.kn&&zB a.sq h)=false then({ a with op:= -1 },none)
 else if h.st=3 then As.cmp { a with op:= -1 } i i h
 else if a.op≠-1/\za4 (hdA L a.op) h=true then As.cmp { a with op:= -1 } a.op i (hdA L a.op)
 else if zbn h=true then({ a with op:=i },none)
 else({ a with op:= -1 },none)
def As.seq(a:As)(s:Sq):As:=if(a.kn&&sqE a.sq s)=true then a else{ a.clr with sq:=s,kn:=zbJ s }
def As.grp(a:As)(c b:Bool):As:=if c then a.clr else if b then{ a with lk:=2 }else{ a with lk:=0 }
def As.fin(a:As):As:={ a.clr with kn:=false }
def As.item(L:List It)(a:As)(i:Int)(x:It):As×Option FmY:=
 if x.k=3 then a.pic L i x.p
 else if x.k=1 then(As.seq { a with op:= -1 } x.s,none)
 else if x.k=2 then(As.grp { a with op:= -1 } x.gc x.gb,none)
 else if x.k=4 then(As.fin { a with op:= -1 },none)
 else({ a with op:= -1 },none)
abbrev Ent:=En×Sq×Pi
def zc3(v:Int)(e:Ent):Ent:=({ e.1 with sh:=v },e.2)
structure Dp where
 en:List Ent
 old:Int
 new:Int
 wt:Bool
 lk:Int
 sh:Int
def Dp.show(d:Dp)(n:Int):Dp:={ d with en:=d.en.modify n.toNat (zc3 d.sh),sh:=d.sh+1 }
def Dp.flush(d:Dp):Dp:=if d.wt then{ d.show d.new with wt:=false }else d
def fmE(f:FmY)(pa fu:Int):Ent:=(⟨f.f,f.l,f.hd.ty,pa,fu,0⟩,f.sq,f.hd)
def Dp.frame(d:Dp)(f:FmY):Dp:=
 if f.hd.ty=3 then
  if d.lk≠0\/d.old= -1\/d.new= -1 then d
  else Dp.show { d with en:=d.en++[fmE f d.old d.new] } d.en.length
 else if f.hd.ty=2/\d.new= -1 then d
 else
  let e:=Dp.flush { d with en:=d.en++[fmE f d.new (-1)] }
  { e with old:=e.new,new:=d.en.length,wt:=true,lk:=max 0 (e.lk - 1) }
def Dp.res(d:Dp)(rs:Bool):Dp:=if rs then{ d.flush with old:= -1,new:= -1,lk:=0 }else d
def Dp.lnk(d:Dp)(lk:Int):Dp:=if lk≠-1 then{ d with lk:=lk }else d
def Dp.step(d:Dp)(f:FmY):Dp:=((d.res f.rs).lnk f.lk).frame f
def Dp.stepO(d:Dp):Option FmY->Dp
 | none=>d
 | some f=>d.step f
def as0(z:Sq):As:=⟨z,false,-1,false,-1⟩
def dp0:Dp:=⟨[],-1,-1,false,0,0⟩
def sq0:Sq:=⟨0,0,0,0,false,0,0,List.replicate 64 0,List.replicate 64 0⟩
def asN(L:List It)(a:As):Int->List It->As
 | _,[]=>a
 | i,x::r=>asN L (a.item L i x).1 (i+1) r
def dpN(L:List It)(a:As)(d:Dp):Int->List It->Dp
 | _,[]=>d
 | i,x::r=>dpN L (a.item L i x).1 (d.stepO (a.item L i x).2) (i+1) r
def zd7(L:List It):List Ent:=(dpN L (as0 sq0) dp0 0 L).flush.en
structure Wk where
 hd:Bool
 sq:Sq
 old:Int
 new:Int
 wt:Bool
 op:Int
 no:Int
 sh:Int
 out:List En
 sk:Bool
def zfz(v:Int)(e:En):En:={ e with sh:=v }
def Wk.disp(w:Wk):Wk:=if w.wt then{ w with out:=w.out.modify w.new.toNat (zfz w.sh),sh:=w.sh+1 }else w
def Wk.reset(w:Wk):Wk:={ w.disp with old:= -1,new:= -1,wt:=false,no:=0 }
def Wk.drop(w:Wk):Wk:={ w with sk:=w.sk||decide (0<=w.op),op:= -1 }
def Wk.frame(w:Wk)(f l ty:Int):Wk:=
 if ty=3 then
  if w.no>0\/w.old<0\/w.new<0 then{ w with sk:=true }
  else{ w with out:=w.out++[⟨f,l,ty,w.old,w.new,w.sh⟩],sh:=w.sh+1 }
 else if ty=2/\w.new<0 then{ w with sk:=true }
 else
  let v:=Wk.disp { w with out:=w.out++[⟨f,l,ty,w.new,-1,0⟩] }
  { v with old:=v.new,new:=w.out.length,wt:=true,no:=max 0 (v.no - 1) }
def Wk.picture(L:List It)(w:Wk)(i:Int)(h:Pi):Wk:=
 let pr:=decide (0<=w.op)&&za4 (hdA L (max w.op 0)) h
 if(!w.hd||(!(zB w.sq h)||(!(h.st==3)&&(!pr&& !(zbn h)))))=true then{ w.drop with sk:=true }
 else if h.st=3 then w.drop.frame i i h.ty
 else if pr=true then Wk.frame { w with op:= -1 } w.op i (hdA L w.op).ty
 else{ w.drop with op:=i }
def Wk.seq(w:Wk)(s:Sq):Wk:=if(!w.hd|| !(sqE w.sq s))=true then{ w.reset with hd:=zbJ s,sq:=s }else w
def Wk.grp(w:Wk)(c b:Bool):Wk:=if c then w.reset else if b then{ w with no:=2 }else{ w with no:=0 }
def Wk.step(L:List It)(w:Wk)(i:Int)(x:It):Wk:=
 if x.k=3 then w.picture L i x.p
 else if x.k=1 then w.drop.seq x.s
 else if x.k=2 then w.drop.grp x.gc x.gb
 else if x.k=4 then{ w.drop.reset with hd:=false }
 else w.drop
def wkN(L:List It)(w:Wk):Int->List It->Wk
 | _,[]=>w
 | i,x::r=>wkN L (w.step L i x) (i+1) r
def wk0:Wk:=⟨false,sq0,-1,-1,false,-1,0,0,[],false⟩
def zd3(L:List It):Wk:=(wkN L wk0 0 L).drop.reset
def zcN(a:As)(d:Dp):Dp:=(d.res a.rs).lnk a.lk
structure Same(w:Wk)(a:As)(d:Dp):Prop where
 hd:w.hd=a.kn
 sq:w.sq=a.sq
 op:w.op=a.op
 opr:w.op= -1\/0<=w.op
 old:w.old=(zcN a d).old
 new:w.new=(zcN a d).new
 wt:w.wt=(zcN a d).wt
 no:w.no=(zcN a d).lk
 sh:w.sh=(zcN a d).sh
 out:w.out=(zcN a d).en.map (·.1)
 nor:0<=w.no
 oldr: -1<=w.old
 newr: -1<=w.new
theorem map_set(en:List Ent)(n:Nat)(v:Int):(en.modify n (zc3 v)).map (·.1)=(en.map (·.1)).modify n (zfz v):=by
 induction en generalizing n with
 | nil=>cases n<;>rfl
 | cons e r ih=>cases n with
  | zero=>rfl
  | succ n=>simp only[List.modify_succ_cons,dV,ih]
theorem zjK{w:Wk}{d:Dp}(h1:w.new=d.new)(h2:w.wt=d.wt)(h3:w.sh=d.sh)(h4:w.out=d.en.map (·.1)):
  w.disp.out=d.flush.en.map (·.1)/\w.disp.sh=d.flush.sh:=by
 unfold Wk.disp Dp.flush;rw[<-h2];cases w.wt with
 | false=>exact⟨h4,h3⟩
 | true=>exact⟨by simp only[wN,Dp.show];rw[map_set,h4,h1,h3],by simp only[wN,Dp.show];rw[h3]⟩
theorem zf1(d:Dp):d.flush.old=d.old/\d.flush.new=d.new/\d.flush.wt=false/\d.flush.lk=d.lk:=by grind[Dp.flush,Dp.show]
theorem zev(w:Wk):w.disp.old=w.old/\w.disp.new=w.new/\w.disp.wt=w.wt/\w.disp.no=w.no/\w.disp.hd=w.hd/\w.disp.sq=w.sq/\w.disp.op=w.op/\w.disp.sk=w.sk:=by grind[Wk.disp]
theorem znJ(a:As)(d:Dp):(zcN a d).flush.en=d.flush.en/\(zcN a d).flush.sh=d.flush.sh:=by grind[zcN,Dp.lnk,Dp.res,Dp.flush,Dp.show]
theorem zdB{w:Wk}{a:As}{d:Dp}(h:Same w a d):Same w.reset a.clr d:=by
 obtain⟨p1,p2⟩:=zjK h.new h.wt h.sh h.out;obtain⟨q1,q2⟩:=znJ a d;obtain⟨r1,r2,r3,r4⟩:=zf1 d;obtain⟨s1,s2,s3,s4,s5,s6,s7,s8⟩:=zev w;have e:zcN a.clr d={ d.flush with old:= -1,new:= -1,lk:=0 }:=by rfl
 refine⟨?_,?_,?_,?_,?_,?_,?_,?_,?_,?_,?_,?_,?_⟩
 .exact s5.trans h.hd
 .exact s6.trans h.sq
 .exact s7.trans h.op
 .have:=h.opr;rw[show w.reset.op=w.disp.op from rfl,s7];exact this
 .rw[e];rfl
 .rw[e];rfl
 .rw[e];exact r3.symm
 .rw[e];rfl
 .rw[e];exact p2.trans q2
 .rw[e];exact p1.trans (by rw[q1])
 .exact rN _
 .exact rN _
 .exact rN _
theorem zgG{w:Wk}{a:As}{d:Dp}(h:Same w a d):Same w.drop { a with op:= -1 } d:=⟨h.hd,h.sq,rfl,.inl rfl,h.old,h.new,h.wt,h.no,h.sh,h.out,h.nor,h.oldr,h.newr⟩
theorem ziE{w:Wk}{a:As}{d:Dp}(h:Same w a d)(f l:Int)(hp:Pi):Same (w.frame f l hp.ty) { a with rs:=false,lk:= -1 } (d.step ⟨f,l,a.sq,hp,a.rs,a.lk⟩):=by
 have e:∀ x,zcN { a with rs:=false,lk:= -1 } x=x:=λx=>by rfl
 have es:d.step ⟨f,l,a.sq,hp,a.rs,a.lk⟩=(zcN a d).frame ⟨f,l,a.sq,hp,a.rs,a.lk⟩:=rfl;obtain⟨h1,h2,h3,h4,h5,h6,h7,h8,h9,h10,h11,h12,h13⟩:=h;rw[es];generalize zcN a d=p at *;have hlen:(w.out.length:Int)=(p.en.length:Int):=by simp_all
 unfold Wk.frame Dp.frame;dsimp only;by_cases ht:hp.ty=3
 .rw[gD ht,gD ht];by_cases hc:p.lk≠0\/p.old= -1\/p.new= -1
  .rw[gD hc,gD om];exact⟨h1,h2,h3,h4,by rw[e];exact h5,by rw[e];exact h6,by rw[e];exact h7,by rw[e];exact h8,by rw[e];exact h9,by rw[e];exact h10,h11,h12,h13⟩
  .rw[gC hc,gC om];refine⟨h1,h2,h3,h4,by rw[e];exact h5,by rw[e];exact h6,by rw[e];exact h7,by rw[e];exact h8,?_,?_,h11,h12,h13⟩
   .simp_all[Dp.show]
   .rw[e];simp only[Dp.show,uV,fmE];rw[map_set,rQ,<-h10,h5,h6,h9,ht];simp_all[List.modify_eq_take_drop,zfz]
 .rw[gC ht,gC ht];by_cases hc:hp.ty=2/\p.new= -1
  .rw[gD hc,gD om];exact⟨h1,h2,h3,h4,by rw[e];exact h5,by rw[e];exact h6,by rw[e];exact h7,by rw[e];exact h8,by rw[e];exact h9,by rw[e];exact h10,h11,h12,h13⟩
  .rw[gC hc,gC om];obtain⟨g1,g2⟩:=zjK (w:={ w with out:=w.out++[⟨f,l,hp.ty,w.new,-1,0⟩] }) (d:={ p with en:=p.en++[fmE ⟨f,l,a.sq,hp,a.rs,a.lk⟩ p.new (-1)] }) h6 h7 h9 (by simp[h10,h6,fmE]);obtain⟨r1,r2,r3,r4⟩:=zf1 { p with en:=p.en++[fmE ⟨f,l,a.sq,hp,a.rs,a.lk⟩ p.new (-1)] };obtain⟨s1,s2,s3,s4,s5,s6,s7,s8⟩:=zev { w with out:=w.out++[⟨f,l,hp.ty,w.new,-1,0⟩] };refine⟨?_,?_,?_,?_,?_,?_,?_,?_,?_,?_,?_,?_,?_⟩;all_goals grind
theorem zsI{L:List It}{w:Wk}{a:As}{d:Dp}(h:Same w a d)(i:Int)(hi:0<=i)(hp:Pi):Same (w.picture L i hp) (a.pic L i hp).1 (d.stepO (a.pic L i hp).2):=by
 have hd:=zgG h;have hs:∀{v b x},Same v b x->Same { v with sk:=true } b x:=λh=>⟨h.1,h.2,h.3,h.4,h.5,h.6,h.7,h.8,h.9,h.10,h.11,h.12,h.13⟩;unfold Wk.picture As.pic;dsimp only;rw[h.hd,h.sq];by_cases hv:(a.kn&&zB a.sq hp)=false
 .rw[gD hv,gD (by cases hk:a.kn<;>simp_all)];exact hs hd
 rw[gC hv];have hv':a.kn=true/\zB a.sq hp=true:=by simp_all
 by_cases h3:hp.st=3
 .rw[gD h3,gC (by simp[hv',h3]),gD h3];exact ziE hd i i hp
 simp only[gC h3];by_cases ho:a.op≠-1/\za4 (hdA L a.op) hp=true
 .have h0:0<=a.op:=by have:=h.opr;have:=h.op;omega
  have e0:max w.op 0=a.op:=by rw[h.op];omega
  have e1:(decide (0<=w.op)&&za4 (hdA L (max w.op 0)) hp)=true:=by rw[e0,ho.2];simp[h.op,h0]
  rw[gD ho,gC (by simp[hv',e1]),gD e1];have h':Same { w with op:= -1 } { a with op:= -1 } d:=⟨h.hd,h.sq,rfl,.inl rfl,h.old,h.new,h.wt,h.no,h.sh,h.out,h.nor,h.oldr,h.newr⟩;have:=ziE h' w.op i (hdA L w.op);rw[h.op,h.hd,h.sq]at this;rw[h.op];exact this
 .have e1:(decide (0<=w.op)&&za4 (hdA L (max w.op 0)) hp)=false:=by
   by_cases h0:0<=w.op
   .have e0:max w.op 0=a.op:=by rw[<-h.op];omega
    grind
   .simp[h0]
  rw[gC ho];by_cases hl:zbn hp=true
  .rw[gD hl,gC (by simp[hv',hl]),gC (by rw[e1];simp)];exact⟨hd.1,hd.2,rfl,.inr hi,hd.5,hd.6,hd.7,hd.8,hd.9,hd.10,hd.11,hd.12,hd.13⟩
  .rw[gC hl,gD (by simp[hv',h3,e1,hl])];exact hs hd
theorem zp3{L:List It}{w:Wk}{a:As}{d:Dp}(h:Same w a d)(i:Int)(hi:0<=i)(x:It):Same (w.step L i x) (a.item L i x).1 (d.stepO (a.item L i x).2):=by
 have hd:=zgG h;unfold Wk.step As.item;by_cases h3:x.k=3
 .simp_all[zsI]
 rw[gC h3,gC h3];by_cases h1:x.k=1
 .rw[gD h1,gD h1];unfold Wk.seq As.seq;rw[hd.hd,hd.sq];by_cases hk:(a.kn&&sqE a.sq x.s)=true
  .have hk':a.kn=true/\sqE a.sq x.s=true:=by simp_all
   rw[gD hk,gC (by simp[hk'])];exact hd
  .rw[gC hk,gD (by cases h':a.kn<;>simp_all)];have:=zdB hd;exact⟨rfl,rfl,this.3,this.4,this.5,this.6,this.7,this.8,this.9,this.10,this.11,this.12,this.13⟩
 rw[gC h1,gC h1];by_cases h2:x.k=2
 .rw[gD h2,gD h2];unfold Wk.grp As.grp;cases x.gc with
  | true=>exact zdB hd
  | false=>
   have lk:∀ n,0<=n->Same { w.drop with no:=n } { ({ a with op:= -1 }:As)with lk:=n } d:=λn hn=>by
    have e:∀ b:As,b.rs=a.rs->b.lk=n->zcN b d={ d.res a.rs with lk:=n }:=λb e1 e2=>by grind[zcN,Dp.lnk]
    have e':∀ y:Dp,y=d.res a.rs->(zcN a d).old=y.old/\(zcN a d).new=y.new/\(zcN a d).wt=y.wt/\(zcN a d).sh=y.sh/\(zcN a d).en=y.en:=λy hy=>by grind[zcN,Dp.lnk]
    obtain⟨q1,q2,q3,q4,q5⟩:=e' _ rfl;refine⟨hd.1,hd.2,hd.3,hd.4,?_,?_,?_,?_,?_,?_,hn,hd.12,hd.13⟩
    .rw[e { ({ a with op:= -1 }:As)with lk:=n } rfl rfl];exact h.old.trans q1
    .rw[e { ({ a with op:= -1 }:As)with lk:=n } rfl rfl];exact h.new.trans q2
    .rw[e { ({ a with op:= -1 }:As)with lk:=n } rfl rfl];exact h.wt.trans q3
    .simp_all
    .rw[e { ({ a with op:= -1 }:As)with lk:=n } rfl rfl];exact h.sh.trans q4
    .rw[e { ({ a with op:= -1 }:As)with lk:=n } rfl rfl];exact h.out.trans (by rw[q5])
   cases x.gb with
   | true=>exact lk 2 om
   | false=>exact lk 0 om
 rw[gC h2,gC h2];by_cases h4:x.k=4
 .rw[gD h4,gD h4];have:=zdB hd;exact⟨rfl,this.2,this.3,this.4,this.5,this.6,this.7,this.8,this.9,this.10,this.11,this.12,this.13⟩
 .rw[gC h4,gC h4];exact hd
theorem zlX(L:List It):∀(r:List It) (i:Int) (w:Wk) (a:As) (d:Dp),0<=i->Same w a d->Same (wkN L w i r) (asN L a i r) (dpN L a d i r)
 | [],_,_,_,_,_,h=>h
 | x::r,i,w,a,d,hi,h=>zlX L r (i+1) _ _ _ om (zp3 h i hi x)
theorem zp1(L:List It):(zd7 L).map (·.1)=(zd3 L).out:=by
 have h0:Same wk0 (as0 sq0) dp0:=⟨rfl,rfl,rfl,.inl rfl,rfl,rfl,rfl,rfl,rfl,rfl,by decide,by decide,by decide⟩;have h:=zlX L L 0 _ _ _ (rN _) h0;have h2:=(zdB (zgG h)).out;have h3:zcN (As.clr { asN L (as0 sq0) 0 L with op:= -1 }) (dpN L (as0 sq0) dp0 0 L)={ (dpN L (as0 sq0) dp0 0 L).flush with old:= -1,new:= -1,lk:=0 }:=by rfl
 rw[h3]at h2;exact h2.symm
theorem zx1{a b:Sq}(h:sqE a b=true):a=b:=by obtain⟨a1,a2,a3,a4,a5,a6,a7,a8,a9⟩:=a;simp_all[sqE,sqA,gB]
def cur(L:List It)(n:Nat):Sq:=(L.take n).foldl (λq x=>if x.k=1 then x.s else q) sq0
theorem zf4{L:List It}{n:Nat}(h:n<L.length):cur L (n+1)=if L[n].k=1 then L[n].s else cur L n:=by grind[cur,List.take_succ,List.getElem?_eq_getElem]
theorem ztx{L:List It}{n:Nat}(h:n<L.length):hdA L (n:Int)=L[n].p:=by unfold hdA;simp_all
def FOk(L:List It)(f l:Int)(sq:Sq)(hd:Pi):Prop:=∃(n m:Nat) (hn:n<L.length) (hm:m<L.length),f=(n:Int)/\l=(m:Int)/\((m=n/\hd.st=3)\/(m=n+1/\zbn hd=true/\za4 hd L[m].p=true/\zB sq L[m].p=true))/\L[n].k=3/\L[m].k=3/\hd=L[n].p/\sq=cur L n/\zB sq hd=true
def zuI(L:List It)(a:As)(i:Nat):Prop:=a.sq=cur L i/\(a.op= -1\/∃(o:Nat) (ho:o<L.length),a.op=(o:Int)/\o+1=i/\L[o].k=3/\zbn L[o].p=true/\zB a.sq L[o].p=true)
theorem zAC(L:List It):zuI L (as0 sq0) 0:=⟨by unfold cur;rfl,.inl rfl⟩
theorem zqT{L:List It}{a:As}{i:Nat}(h:zuI L a i)(hi:i<L.length):zuI L (a.item L (i:Int) L[i]).1 (i+1)/\∀ f,(a.item L (i:Int) L[i]).2=some f->FOk L f.f f.l f.sq f.hd:=by
 obtain⟨hs,ho⟩:=h;have hc:=zf4 hi;have nope:∀{b:As},b.sq=a.sq->b.op= -1->L[i].k≠1->zuI L b (i+1):=λh1 h2 h3=>⟨by rw[h1,hs,hc,gC h3],.inl h2⟩;unfold As.item;by_cases k3:L[i].k=3
 .rw[gD k3];have k1:L[i].k≠1:=om;unfold As.pic;by_cases hv:(a.kn&&zB a.sq L[i].p)=false
  .simp_all
  rw[gC hv];have hv':zB a.sq L[i].p=true:=by simp_all
  by_cases hw:L[i].p.st=3
  .rw[gD hw];refine⟨nope rfl rfl k1,λf hf=> ?_⟩;unfold As.cmp at hf;injection hf with hf;subst hf;exact⟨i,i,hi,hi,rfl,rfl,.inl ⟨rfl,hw⟩,k3,k3,rfl,hs,hv'⟩
  rw[gC hw];by_cases hp:a.op≠-1/\za4 (hdA L a.op) L[i].p=true
  .rw[gD hp];refine⟨nope rfl rfl k1,λf hf=> ?_⟩;unfold As.cmp at hf;injection hf with hf;subst hf;rcases ho with h1|⟨o,hol,e1,e2,e3,e4,e5⟩
   .omega
   .have h2:=hp.2;rw[e1,ztx hol]at h2;subst e2;have ec:cur L (o+1)=cur L o:=by rw[zf4 hol,gC om]
    refine⟨o,o+1,hol,hi,e1,rfl,.inr ⟨rfl,?_,?_,hv'⟩,e3,k3,?_,hs.trans ec,?_⟩;all_goals simp_all[zbn,hdA,ztx,za4,zB]
  rw[gC hp];by_cases hl:zbn L[i].p=true
  .rw[gD hl];exact⟨⟨by show a.sq=_;rw[hs,hc,gC k1],.inr ⟨i,hi,rfl,rfl,k3,hl,hv'⟩⟩,λf hf=>by cases hf⟩
  simp_all
 rw[gC k3];by_cases k1:L[i].k=1
 .rw[gD k1];refine⟨?_,λf hf=>by cases hf⟩;unfold As.seq;dsimp only;by_cases he:(a.kn&&sqE a.sq L[i].s)=true
  .rw[gD he];rw[gB]at he;exact⟨by rw[hc,gD k1];exact zx1 he.2,.inl rfl⟩
  .rw[gC he];exact⟨by rw[hc,gD k1],.inl rfl⟩
 rw[gC k1];by_cases k2:L[i].k=2
 .rw[gD k2];refine⟨?_,λf hf=>by cases hf⟩;unfold As.grp;split
  .exact nope rfl rfl k1
  grind
 rw[gC k2];split
 .exact⟨nope rfl rfl k1,λf hf=>by cases hf⟩
 .exact⟨nope rfl rfl k1,λf hf=>by cases hf⟩
def EOk(L:List It)(j:Nat)(e:Ent):Prop:=FOk L e.1.f e.1.l e.2.1 e.2.2/\e.1.ty=e.2.2.ty/\(-1<=e.1.pa/\e.1.pa<j)/\(-1<=e.1.fu/\e.1.fu<j)/\(e.1.ty=3->0<=e.1.pa/\0<=e.1.fu)/\(e.1.ty=2->0<=e.1.pa)/\(e.1.ty≠3->e.1.fu= -1)
theorem EOk.set{L:List It}{j:Nat}{e:Ent}(h:EOk L j e)(v:Int):EOk L j (zc3 v e):=h
structure DInv(L:List It)(d:Dp):Prop where
 e:∀(j:Nat) (x:Ent),d.en[j]? =some x->EOk L j x
 old: -1<=d.old/\d.old<d.en.length
 new: -1<=d.new/\d.new<d.en.length
 wn:d.wt=true->0<=d.new
 sh:d.sh=d.en.length - (if d.wt then 1 else 0)
 s:∀(j:Nat) (x:Ent),d.en[j]? =some x->(d.wt=true/\(j:Int)=d.new)\/(0<=x.1.sh/\x.1.sh<d.sh)
 i:∀(j k:Nat) (x y:Ent),d.en[j]? =some x->d.en[k]? =some y->¬(d.wt=true/\(j:Int)=d.new)->¬(d.wt=true/\(k:Int)=d.new)->x.1.sh=y.1.sh->j=k
theorem zAr(L:List It):DInv L dp0:=⟨λj x h=>by simp[dp0]at h,by simp[dp0],by simp[dp0],λh=>by simp[dp0]at h,by simp[dp0],λj x h=>by simp[dp0]at h,λj k x y h=>by simp[dp0]at h⟩
theorem zgI{L:List It}{en:List Ent}{n:Nat}{sh:Int}{w:Nat->Prop}(hwn:¬ w n)(hsn:0<=sh)(he:∀(j:Nat) (x:Ent),en[j]? =some x->EOk L j x)
  (hs:∀(j:Nat) (x:Ent),en[j]? =some x->j=n\/w j\/(0<=x.1.sh/\x.1.sh<sh)) (hi:∀(j k:Nat) (x y:Ent),en[j]? =some x->en[k]? =some y->j≠n->k≠n->¬ w j->¬ w k->x.1.sh=y.1.sh->j=k):
  (∀(j:Nat) (x:Ent),(en.modify n (zc3 sh))[j]? =some x->EOk L j x)/\(∀(j:Nat) (x:Ent),(en.modify n (zc3 sh))[j]? =some x->w j\/(0<=x.1.sh/\x.1.sh<sh+1))/\(∀(j k:Nat) (x y:Ent),(en.modify n (zc3 sh))[j]? =some x->(en.modify n (zc3 sh))[k]? =some y->¬ w j->¬ w k->x.1.sh=y.1.sh->j=k):=by
 have at1:∀(j:Nat) (x:Ent),(en.modify n (zc3 sh))[j]? =some x->∃ y,en[j]? =some y/\((j=n/\x=zc3 sh y)\/(j≠n/\x=y)):=λj x h=>by grind
 refine⟨λj x h=> ?_,λj x h=> ?_,λj k x y hx hy wj wk hxy=> ?_⟩
 .obtain⟨y,hy,h1|h1⟩:=at1 j x h
  .rw[h1.2];exact(he j y hy).set sh
  .rw[h1.2];exact he j y hy
 .obtain⟨y,hy,h1|h1⟩:=at1 j x h
  .rw[h1.2];right;show 0<=sh/\sh<sh+1;omega
  .rcases hs j y hy with h2|h2|h2
   .exact absurd h2 h1.1
   .exact .inl h2
   .rw[h1.2];right;omega
 .obtain⟨x',hx',a1|a1⟩:=at1 j x hx
  .obtain⟨y',hy',b1|b1⟩:=at1 k y hy
   .rw[a1.1,b1.1]
   .exfalso;rcases hs k y' hy' with h2|h2|h2
    .exact b1.1 h2
    .exact wk h2
    .rw[a1.2,b1.2]at hxy;have:sh=y'.1.sh:=hxy;omega
  .obtain⟨y',hy',b1|b1⟩:=at1 k y hy
   .exfalso;rcases hs j x' hx' with h2|h2|h2
    .exact a1.1 h2
    .exact wj h2
    .rw[a1.2,b1.2]at hxy;have:x'.1.sh=sh:=hxy;omega
   .rw[a1.2,b1.2]at hxy;exact hi j k x' y' hx' hy' a1.1 b1.1 wj wk hxy
theorem ziQ{L:List It}{d:Dp}(h:DInv L d):DInv L d.flush/\d.flush.wt=false:=by
 unfold Dp.flush;cases hw:d.wt with
 | false=>rw[gC sp];exact⟨h,hw⟩
 | true=>
  rw[gD rfl];refine⟨?_,rfl⟩;have hn:=h.new;have hn0:=h.wn hw;have hsh:=h.sh;rw[hw,gD rfl]at hsh;obtain⟨g1,g2,g3⟩:=zgI (L:=L) (en:=d.en) (n:=d.new.toNat) (sh:=d.sh) (w:=λ_=>False) (λh=>h) om h.e (λj x hx=>by
   rcases h.s j x hx with h1|h1
   .exact .inl om
   .exact .inr (.inr h1)) (λj k x y hx hy h1 h2 _ _ h3=>h.i j k x y hx hy (λh4=>h1 om) (λh4=>h2 om) h3)
  have hl:(d.en.modify d.new.toNat (zc3 d.sh)).length=d.en.length:=by simp
  refine⟨g1,?_,?_,λh=>(by cases h),?_,λj x hx=>.inr ?_,λj k x y hx hy _ _ h3=>g3 j k x y hx hy (λh=>h) (λh=>h) h3⟩
  .show -1<=d.old/\d.old<((d.en.modify d.new.toNat (zc3 d.sh)).length:Int);rw[hl];exact h.old
  .show -1<=d.new/\d.new<((d.en.modify d.new.toNat (zc3 d.sh)).length:Int);omega
  .show d.sh+1=((d.en.modify d.new.toNat (zc3 d.sh)).length:Int) - (if false=true then 1 else 0);grind
  .rcases g2 j x hx with h1|h1
   .cases h1
   .exact h1
theorem zt6{L:List It}{d:Dp}(h:DInv L d)(rs:Bool)(lk:Int):DInv L ((d.res rs).lnk lk):=by
 have h1:DInv L (d.res rs):=by
  unfold Dp.res;cases rs with
  | false=>rw[gC sp];exact h
  | true=>
   rw[gD rfl];obtain⟨g,gw⟩:=ziQ h;refine⟨g.e,⟨rN _,by show(-1:Int)<_;omega⟩,⟨rN _,by show(-1:Int)<_;omega⟩,λe=> ?_,?_,λj x hx=> ?_,λj k x y hx hy _ _ h3=> ?_⟩
   .simp_all
   .exact g.sh
   .rcases g.s j x hx with h1|h1;all_goals simp_all
   .exact g.i j k x y hx hy (by rw[gw];simp) (by rw[gw];simp) h3
 unfold Dp.lnk;split
 .exact⟨h1.e,h1.old,h1.new,h1.wn,h1.sh,h1.s,h1.i⟩
 .exact h1
theorem zbH{α:Type}{l:List α}{a x:α}{j:Nat}(h:(l++[a])[j]? =some x):(j<l.length/\l[j]? =some x)\/(j=l.length/\x=a):=by grind
theorem zob{L:List It}{d:Dp}{f:FmY}(h:DInv L d)(hf:FOk L f.f f.l f.sq f.hd):DInv L (d.frame f):=by
 have ho:=h.old;have hn:=h.new;have hsh:=h.sh;unfold Dp.frame;by_cases h3:f.hd.ty=3
 .rw[gD h3];by_cases hc:d.lk≠0\/d.old= -1\/d.new= -1
  .simp_all
  rw[gC hc];have ho0:0<=d.old:=om;have hn0:0<=d.new:=om;obtain⟨g1,g2,g3⟩:=zgI (L:=L) (en:=d.en++[fmE f d.old d.new]) (n:=d.en.length) (sh:=d.sh) (w:=λj=>d.wt=true/\(j:Int)=d.new) (λh=>om) (by rw[hsh];split<;>omega)
   (λj x hx=>by
    rcases zbH hx with⟨_,h1⟩|⟨h1,h2⟩
    .exact h.e j x h1
    .rw[h2,h1];exact⟨hf,rfl,⟨by show -1<=d.old;omega,by show d.old<_;omega⟩,⟨by show -1<=d.new;omega,by show d.new<_;omega⟩,λ_=>⟨ho0,hn0⟩,λ_=>ho0,λe=>absurd h3 e⟩)
   (λj x hx=>by
    rcases zbH hx with⟨_,h1⟩|⟨h1,h2⟩
    .rcases h.s j x h1 with h2|h2
     .exact .inr (.inl h2)
     .exact .inr (.inr h2)
    .exact .inl h1)
   (λj k x y hx hy j1 k1 wj wk hxy=>by
    rcases zbH hx with⟨_,h1⟩|⟨h1,_⟩
    .rcases zbH hy with⟨_,h2⟩|⟨h2,_⟩
     .exact h.i j k x y h1 h2 wj wk hxy
     .exact absurd h2 k1
    .exact absurd h1 j1)
  have hl:((d.en++[fmE f d.old d.new]).modify d.en.length (zc3 d.sh)).length=d.en.length+1:=by simp
  refine⟨?_,?_,?_,h.wn,?_,?_,?_⟩
  .intro j x hx;exact g1 j x (by simpa[Dp.show]using hx)
  .show -1<=d.old/\d.old<(((d.en++[fmE f d.old d.new]).modify ((d.en.length:Nat):Int).toNat (zc3 d.sh)).length:Int);rw[uV,hl];omega
  .show -1<=d.new/\d.new<(((d.en++[fmE f d.old d.new]).modify ((d.en.length:Nat):Int).toNat (zc3 d.sh)).length:Int);rw[uV,hl];omega
  .show d.sh+1=(((d.en++[fmE f d.old d.new]).modify ((d.en.length:Nat):Int).toNat (zc3 d.sh)).length:Int) - (if d.wt=true then 1 else 0);grind
  .intro j x hx;exact g2 j x (by simpa[Dp.show]using hx)
  .intro j k x y hx hy wj wk hxy;exact g3 j k x y (by simpa[Dp.show]using hx) (by simpa[Dp.show]using hy) wj wk hxy
 rw[gC h3];by_cases hc:f.hd.ty=2/\d.new= -1
 .simp_all
 rw[gC hc];have hE:EOk L d.en.length (fmE f d.new (-1)):=⟨hf,rfl,⟨by show -1<=d.new;omega,by show d.new<_;omega⟩,⟨rN _,by show(-1:Int)<_;omega⟩,λe=>absurd e h3,λe=>by
  have e':f.hd.ty=2:=e;show 0<=d.new;by_cases h1:d.new= -1
  .exact absurd ⟨e',h1⟩ hc
  .omega,λ_=>rfl⟩
 have hall:∀(j:Nat) (x:Ent),(d.en++[fmE f d.new (-1)])[j]? =some x->EOk L j x:=λj x hx=>by
  rcases zbH hx with⟨_,h1⟩|⟨h1,h2⟩
  .exact h.e j x h1
  simp_all
 dsimp only;cases hw:d.wt with
 | false=>
  have e:Dp.flush { d with en:=d.en++[fmE f d.new (-1)] }={ d with en:=d.en++[fmE f d.new (-1)] }:=by simp_all[Dp.flush]
  rw[hw]at e;rw[e];rw[hw,gC sp]at hsh;refine⟨hall,?_,?_,λ_=> ?_,?_,?_,?_⟩
  .grind
  .grind
  .show(0:Int)<=(d.en.length:Int);omega
  .simp_all
  .intro j x hx;rcases zbH hx with⟨_,h1⟩|⟨h1,_⟩
   .rcases h.s j x h1 with h2|h2;all_goals simp_all
   simp_all
  .intro j k x y hx hy wj wk hxy;rcases zbH hx with⟨_,h1⟩|⟨h1,_⟩
   .rcases zbH hy with⟨_,h2⟩|⟨h2,_⟩
    .exact h.i j k x y h1 h2 (by rw[hw];simp) (by rw[hw];simp) hxy
    simp_all
   simp_all
 | true=>
  have hn0:=h.wn hw;rw[hw,gD rfl]at hsh;have e:Dp.flush { d with en:=d.en++[fmE f d.new (-1)] }={ d with en:=(d.en++[fmE f d.new (-1)]).modify d.new.toNat (zc3 d.sh),sh:=d.sh+1,wt:=false }:=by unfold Dp.flush;show(if d.wt=true then _ else _)=_;rw[hw,gD rfl];rfl
  rw[hw]at e;rw[e];obtain⟨g1,g2,g3⟩:=zgI (L:=L) (en:=d.en++[fmE f d.new (-1)]) (n:=d.new.toNat) (sh:=d.sh) (w:=λj=>j=d.en.length) (by show ¬ d.new.toNat=d.en.length;omega) om hall
   (λj x hx=>by
    rcases zbH hx with⟨_,h1⟩|⟨h1,_⟩
    .rcases h.s j x h1 with h2|h2
     .exact .inl om
     .exact .inr (.inr h2)
    .exact .inr (.inl h1))
   (λj k x y hx hy j1 k1 wj wk hxy=>by
    rcases zbH hx with⟨_,h1⟩|⟨h1,_⟩
    .rcases zbH hy with⟨_,h2⟩|⟨h2,_⟩
     .exact h.i j k x y h1 h2 (λh4=>j1 om) (λh4=>k1 om) hxy
     .exact absurd h2 wk
    .exact absurd h1 wj)
  have hl:((d.en++[fmE f d.new (-1)]).modify d.new.toNat (zc3 d.sh)).length=d.en.length+1:=by simp
  refine⟨g1,?_,?_,λ_=> ?_,?_,?_,?_⟩
  .grind
  .grind
  .show(0:Int)<=(d.en.length:Int);omega
  .grind
  .grind
  .intro j k x y hx hy wj wk hxy;exact g3 j k x y hx hy (λe=>wj ⟨rfl,by show(j:Int)=(d.en.length:Int);omega⟩) (λe=>wk ⟨rfl,by show(k:Int)=(d.en.length:Int);omega⟩) hxy
structure SInv(L:List It)(es:List Ent):Prop where
 e:∀(j:Nat) (x:Ent),es[j]? =some x->EOk L j x
 s:∀(j:Nat) (x:Ent),es[j]? =some x->0<=x.1.sh/\x.1.sh<es.length
 i:∀(j k:Nat) (x y:Ent),es[j]? =some x->es[k]? =some y->x.1.sh=y.1.sh->j=k
theorem zpB{L:List It}:∀(l:List It) (a:As) (d:Dp) (i:Nat),L.drop i=l->zuI L a i->DInv L d->DInv L (dpN L a d (i:Int) l)
 | [],_,d,_,_,_,hd=>hd
 | x::r,a,d,i,hl,ha,hd=>by
  have hi:i<L.length:=by grind[Nat.lt_or_ge,List.drop_of_length_le]
  rw[vY hi]at hl;injection hl with h1 h2;obtain⟨g1,g2⟩:=zqT ha hi;rw[h1]at g1 g2;rw[dpN];have e:(i:Int)+1=((i+1:Nat):Int):=om;rw[e];refine zpB r _ _ (i+1) h2 g1 ?_;cases hf:(a.item L (i:Int) x).2 with
  | none=>exact hd
  | some f=>exact zob (zt6 hd f.rs f.lk) (g2 f hf)
theorem zh1(L:List It):SInv L (zd7 L):=by have h:DInv L (dpN L (as0 sq0) dp0 0 L):=zpB L (as0 sq0) dp0 0 sp (zAC L) (zAr L);obtain⟨g,gw⟩:=ziQ h;have hs:=g.sh;rw[gw,gC sp]at hs;refine⟨g.e,λj x hx=> ?_,λj k x y hx hy h3=>g.i j k x y hx hy (by rw[gw];simp) (by rw[gw];simp) h3⟩;rcases g.s j x hx with h1|h1;all_goals simp_all[zd7,Dp.flush,dpN,as0,sq0,dp0]
end Go.Proofs.YtleejngibkbjnaaGreatDoor.Sc
