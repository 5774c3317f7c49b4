/-
  Parts of the proof, put together in one text. No condition.
-/
import Derived.Test.YtpjlfoficnpfoaaGreatDoorV08
open Bool renaming eq_iff_iff → qA
open Int renaming toNat_natCast → qF, le_refl → qI
open List renaming take_of_length_le → qC, replicate → qD, getElem?_eq_getElem → qE, getElem?_eq_none → qG, length_cons → qH, replicate_succ → qJ, length_append → qK, ext_getElem? → qN, not_mem_nil → qP, length_nil → qR, getElem?_eq_some_iff → qS, getElem?_append_left → qT, mem_cons → qU
open Nat renaming beq → qB, le_refl → qL, mod_lt → qM, one_mul → qQ
open Option renaming map_some → qO
namespace Go.Proofs.YtpjlfoficnpfoaaGreatDoor.Sc
set_option linter.all false
open Pm Ty Go.RowKit
structure SqL(s:Sq):Prop where
 ia:s.ia.length=64
 ie:s.ie.length=64
theorem SqOk.toL{s:Sq}(h:SqOk s):SqL s:=⟨h.ia,h.ie⟩
theorem znd(xs ys:List PV):zc4 Tryz.prog 11 27 (.agg xs) (.agg ys)=if szT Tryz.prog 5=some 1∧xs.length=64∧ys.length=64 then zeg (.int .u8) xs ys else none:=kr
theorem zwt:szT Tryz.prog 5=some 1:=kr
theorem eqU(p q:List UInt8)(h:p.length=64)(h':q.length=64):zc4 Tryz.prog 11 27 (.agg (bs p)) (.agg (bs q))=some (p==q):=by rw[znd,if_pos ⟨zwt,by rw[zc];exact h,by rw[zc];exact h'⟩];exact zmW .u8 p q (by rw[h,h'])
theorem zmM(xs:List PV)(off:Nat):rd Tryz.prog 27 xs off=if off+64≤xs.length then some (.agg ((xs.drop off).take 64))else none:=kr
theorem zB(s:Sq)(hs:SqL s):(sqc s).length=135:=by simp only[sqc,qH,qK,zc,hs.ia,hs.ie]
theorem zwK(s:Sq)(hs:SqL s):rd Tryz.prog 27 (sqc s) 7=some (.agg (bs s.ia)):=by rw[zmM,if_pos (by rw[zB s hs];omega)];rw[show(sqc s).drop 7=bs s.ia++bs s.ie from rfl,zeR _ _ hs.ia]
theorem zwJ(s:Sq)(hs:SqL s):rd Tryz.prog 27 (sqc s) 71=some (.agg (bs s.ie)):=by rw[zmM,if_pos (by rw[zB s hs];omega)];rw[show(sqc s).drop 71=(bs s.ia++bs s.ie).drop 64 from rfl,zeQ _ _ hs.ia,zei _ hs.ie]
def sqF(P:Program):List Field:=match P.underlying 29 with|some (.struct fs)=>fs.toList|_=>[]
def zuP(P:Program):List Field:=(sqF P).take 6
def zuQ(P:Program):List Field:=(sqF P).drop 6
theorem zmX(eq:TypeId→PV→PV→Option Bool)(P:Program)(xs ys:List PV)(s:List Field)(b:Bool)(hs:zex eq P xs ys s=some b):∀(r:List Field) (a:Bool),zex eq P xs ys r=some a→zex eq P xs ys (r++s)=some (a&&b)
 | [],a,h=>by
  cases h;exact hs
 | f::r,a,h=>by
  rw [List.cons_append];revert h;simp only [zex];cases decide (f.name = "_") with
  | true=>intro h;cases h
  | false=>
   cases rd P f.type xs f.offset with
   | none=>intro h;cases h
   | some x=>
    cases rd P f.type ys f.offset with
    | none=>intro h;cases h
    | some y=>
     dsimp only;cases eq f.type x y with
     | none=>intro h;cases h
     | some c=>
      dsimp only;cases hq:zex eq P xs ys r with
      | none=>intro h;cases h
      | some q=>rw[zmX eq P xs ys s b hs r q hq];intro h;cases h;simp[Bool.and_assoc]
def sqA(s t:Sq):Bool:=(s.w==t.w)&&((s.h==t.h)&&(((s.num==t.num)&&((s.den==t.den)&&true))&&((s.il==t.il)&&((s.br==t.br)&&((s.bf==t.bf)&&true)))))
def sqE(s t:Sq):Bool:=sqA s t&&((s.ia==t.ia)&&((s.ie==t.ie)&&true))
theorem sq6(a1 a2 a3 a4:Int)(a5:Bool)(a6 a7:Int)(p q:List UInt8)(b1 b2 b3 b4:Int)(b5:Bool)(b6 b7:Int)(p' q':List UInt8):zex (zc4 Tryz.prog 11) Tryz.prog (sqc ⟨a1,a2,a3,a4,a5,a6,a7,p,q⟩) (sqc ⟨b1,b2,b3,b4,b5,b6,b7,p',q'⟩) (zuP Tryz.prog)=some (sqA ⟨a1,a2,a3,a4,a5,a6,a7,p,q⟩ ⟨b1,b2,b3,b4,b5,b6,b7,p',q'⟩):=kr
theorem zsh(xs ys:List PV)(x y x' y':PV)(b b':Bool)(hx:rd Tryz.prog 27 xs 7=some x)(hy:rd Tryz.prog 27 ys 7=some y)(hb:zc4 Tryz.prog 11 27 x y=some b)(hx':rd Tryz.prog 27 xs 71=some x')(hy':rd Tryz.prog 27 ys 71=some y')(hb':zc4 Tryz.prog 11 27 x' y'=some b'):zex (zc4 Tryz.prog 11) Tryz.prog xs ys (zuQ Tryz.prog)=some (b&&(b'&&true)):=by
 have e:zex (zc4 Tryz.prog 11) Tryz.prog xs ys (zuQ Tryz.prog)=match rd Tryz.prog 27 xs 7,rd Tryz.prog 27 ys 7 with
   | some a,some b=>match zc4 Tryz.prog 11 27 a b with
    | some c=>(match rd Tryz.prog 27 xs 71,rd Tryz.prog 27 ys 71 with
     | some a,some b=>match zc4 Tryz.prog 11 27 a b with
      | some c=>some (c&&true)
      | none=>none
     | _,_=>none).map fun q=>c&&q
    | none=>none
   | _,_=>none:=kr
 rw[e,hx,hy,hx',hy'];simp only[hb,hb',qO]
theorem zsF(xs ys:List PV):zc4 Tryz.prog 12 29 (.agg xs) (.agg ys)=zex (zc4 Tryz.prog 11) Tryz.prog xs ys ((zuP Tryz.prog)++(zuQ Tryz.prog)):=kr
structure En where
 f:Int
 l:Int
 ty:Int
 pa:Int
 fu:Int
 sh:Int
def zbT(a b:Pi):Bool:= !(a.st==3)&&(!(b.st==3)&&(!(a.st==b.st)&&((a.ty==b.ty)&&((a.od==b.od)&&((a.tf==b.tf)&&(a.rp==b.rp))))))
def zcc(h:Pi):Bool:=h.tf==(h.st==1)
def zvb:Pi:=⟨0,0,0,false,false,false⟩
def hdA(L:List It)(n:Int):Pi:=match L[n.toNat]? with|some x=>x.p|none=>zvb
structure As where
 sq:Sq
 kn:Bool
 op:Int
 rs:Bool
 lk:Int
structure FmY where
 f:Int
 l:Int
 sq:Sq
 hd:Pi
 rs:Bool
 lk:Int
def As.clr(a:As):As:={ a with rs:=true,lk:= -1 }
def As.cmp(a:As)(f l:Int)(h:Pi):As×Option FmY:=({ a with rs:=false,lk:= -1 },some ⟨f,l,a.sq,h,a.rs,a.lk⟩)
def As.pic(L:List It)(a:As)(i:Int)(h:Pi):As×Option FmY:=
 if(a.kn&&zH a.sq h)=false then({ a with op:= -1 },none)
 else if h.st=3 then As.cmp { a with op:= -1 } i i h
 else if a.op≠-1∧zbT (hdA L a.op) h=true then As.cmp { a with op:= -1 } a.op i (hdA L a.op)
 else if zcc h=true then({ a with op:=i },none)
 else({ a with op:= -1 },none)
def As.seq(a:As)(s:Sq):As:=if(a.kn&&sqE a.sq s)=true then a else{ a.clr with sq:=s,kn:=za6 s }
def As.grp(a:As)(c b:Bool):As:=if c then a.clr else if b then{ a with lk:=2 }else{ a with lk:=0 }
def As.fin(a:As):As:={ a.clr with kn:=false }
def As.item(L:List It)(a:As)(i:Int)(x:It):As×Option FmY:=
 if x.k=3 then a.pic L i x.p
 else if x.k=1 then(As.seq { a with op:= -1 } x.s,none)
 else if x.k=2 then(As.grp { a with op:= -1 } x.gc x.gb,none)
 else if x.k=4 then(As.fin { a with op:= -1 },none)
 else({ a with op:= -1 },none)
abbrev Ent:=En×Sq×Pi
def zM(v:Int)(e:Ent):Ent:=({ e.1 with sh:=v },e.2)
structure Dp where
 en:List Ent
 old:Int
 new:Int
 wt:Bool
 lk:Int
 sh:Int
def Dp.show(d:Dp)(n:Int):Dp:={ d with en:=d.en.modify n.toNat (zM d.sh),sh:=d.sh+1 }
def Dp.flush(d:Dp):Dp:=if d.wt then{ d.show d.new with wt:=false }else d
def fmE(f:FmY)(pa fu:Int):Ent:=(⟨f.f,f.l,f.hd.ty,pa,fu,0⟩,f.sq,f.hd)
def Dp.frame(d:Dp)(f:FmY):Dp:=
 if f.hd.ty=3 then
  if d.lk≠0∨d.old= -1∨d.new= -1 then d
  else Dp.show { d with en:=d.en++[fmE f d.old d.new] } d.en.length
 else if f.hd.ty=2∧d.new= -1 then d
 else
  let e:=Dp.flush { d with en:=d.en++[fmE f d.new (-1)] }
  { e with old:=e.new,new:=d.en.length,wt:=true,lk:=max 0 (e.lk - 1) }
def Dp.res(d:Dp)(rs:Bool):Dp:=if rs then{ d.flush with old:= -1,new:= -1,lk:=0 }else d
def Dp.lnk(d:Dp)(lk:Int):Dp:=if lk≠-1 then{ d with lk:=lk }else d
def Dp.step(d:Dp)(f:FmY):Dp:=((d.res f.rs).lnk f.lk).frame f
def Dp.stepO(d:Dp):Option FmY→Dp
 | none=>d
 | some f=>d.step f
def as0(z:Sq):As:=⟨z,false,-1,false,-1⟩
def dp0:Dp:=⟨[],-1,-1,false,0,0⟩
def sq0:Sq:=⟨0,0,0,0,false,0,0,qD 64 0,qD 64 0⟩
def asN(L:List It)(a:As):Int→List It→As
 | _,[]=>a
 | i,x::r=>asN L (a.item L i x).1 (i+1) r
def dpN(L:List It)(a:As)(d:Dp):Int→List It→Dp
 | _,[]=>d
 | i,x::r=>dpN L (a.item L i x).1 (d.stepO (a.item L i x).2) (i+1) r
def zaa(L:List It):List Ent:=(dpN L (as0 sq0) dp0 0 L).flush.en
structure Wk where
 hd:Bool
 sq:Sq
 old:Int
 new:Int
 wt:Bool
 op:Int
 no:Int
 sh:Int
 out:List En
 sk:Bool
def zcB(v:Int)(e:En):En:={ e with sh:=v }
def Wk.disp(w:Wk):Wk:=if w.wt then{ w with out:=w.out.modify w.new.toNat (zcB w.sh),sh:=w.sh+1 }else w
def Wk.reset(w:Wk):Wk:={ w.disp with old:= -1,new:= -1,wt:=false,no:=0 }
def Wk.drop(w:Wk):Wk:={ w with sk:=w.sk||decide (0≤w.op),op:= -1 }
def Wk.frame(w:Wk)(f l ty:Int):Wk:=
 if ty=3 then
  if w.no>0∨w.old<0∨w.new<0 then{ w with sk:=true }
  else{ w with out:=w.out++[⟨f,l,ty,w.old,w.new,w.sh⟩],sh:=w.sh+1 }
 else if ty=2∧w.new<0 then{ w with sk:=true }
 else
  let v:=Wk.disp { w with out:=w.out++[⟨f,l,ty,w.new,-1,0⟩] }
  { v with old:=v.new,new:=w.out.length,wt:=true,no:=max 0 (v.no - 1) }
def Wk.picture(L:List It)(w:Wk)(i:Int)(h:Pi):Wk:=
 let pr:=decide (0≤w.op)&&zbT (hdA L (max w.op 0)) h
 if(!w.hd||(!(zH w.sq h)||(!(h.st==3)&&(!pr&& !(zcc h)))))=true then{ w.drop with sk:=true }
 else if h.st=3 then w.drop.frame i i h.ty
 else if pr=true then Wk.frame { w with op:= -1 } w.op i (hdA L w.op).ty
 else{ w.drop with op:=i }
def Wk.seq(w:Wk)(s:Sq):Wk:=if(!w.hd|| !(sqE w.sq s))=true then{ w.reset with hd:=za6 s,sq:=s }else w
def Wk.grp(w:Wk)(c b:Bool):Wk:=if c then w.reset else if b then{ w with no:=2 }else{ w with no:=0 }
def Wk.step(L:List It)(w:Wk)(i:Int)(x:It):Wk:=
 if x.k=3 then w.picture L i x.p
 else if x.k=1 then w.drop.seq x.s
 else if x.k=2 then w.drop.grp x.gc x.gb
 else if x.k=4 then{ w.drop.reset with hd:=false }
 else w.drop
def wkN(L:List It)(w:Wk):Int→List It→Wk
 | _,[]=>w
 | i,x::r=>wkN L (w.step L i x) (i+1) r
def wk0:Wk:=⟨false,sq0,-1,-1,false,-1,0,0,[],false⟩
def zaO(L:List It):Wk:=(wkN L wk0 0 L).drop.reset
def zbQ(a:As)(d:Dp):Dp:=(d.res a.rs).lnk a.lk
structure Same(w:Wk)(a:As)(d:Dp):Prop where
 hd:w.hd=a.kn
 sq:w.sq=a.sq
 op:w.op=a.op
 opr:w.op= -1∨0≤w.op
 old:w.old=(zbQ a d).old
 new:w.new=(zbQ a d).new
 wt:w.wt=(zbQ a d).wt
 no:w.no=(zbQ a d).lk
 sh:w.sh=(zbQ a d).sh
 out:w.out=(zbQ a d).en.map (·.1)
 nor:0≤w.no
 oldr: -1≤w.old
 newr: -1≤w.new
theorem map_set(en:List Ent)(n:Nat)(v:Int):(en.modify n (zM v)).map (·.1)=(en.map (·.1)).modify n (zcB v):=by
 induction en generalizing n with
 | nil=>cases n<;>rfl
 | cons e r ih=>cases n with
  | zero=>rfl
  | succ n=>simp only[List.modify_succ_cons,List.map_cons,ih]
theorem ziF{w:Wk}{d:Dp}(h1:w.new=d.new)(h2:w.wt=d.wt)(h3:w.sh=d.sh)(h4:w.out=d.en.map (·.1)):
  w.disp.out=d.flush.en.map (·.1)∧w.disp.sh=d.flush.sh:=by
 unfold Wk.disp Dp.flush;rw[←h2];cases w.wt with
 | false=>exact⟨h4,h3⟩
 | true=>exact⟨by simp only[if_true,Dp.show];rw[map_set,h4,h1,h3],by simp only[if_true,Dp.show];rw[h3]⟩
theorem za1(d:Dp):d.flush.old=d.old∧d.flush.new=d.new∧d.flush.wt=false∧d.flush.lk=d.lk:=by unfold Dp.flush Dp.show;cases h:d.wt<;>simp[h]
theorem zdb(w:Wk):w.disp.old=w.old∧w.disp.new=w.new∧w.disp.wt=w.wt∧w.disp.no=w.no∧w.disp.hd=w.hd∧w.disp.sq=w.sq∧w.disp.op=w.op∧w.disp.sk=w.sk:=by unfold Wk.disp;cases h:w.wt<;>simp[h]
theorem zlZ(a:As)(d:Dp):(zbQ a d).flush.en=d.flush.en∧(zbQ a d).flush.sh=d.flush.sh:=by unfold zbQ Dp.lnk Dp.res Dp.flush Dp.show;cases a.rs<;>cases h:d.wt<;>by_cases h2:a.lk= -1<;>simp[h,h2]
theorem zcY{w:Wk}{a:As}{d:Dp}(h:Same w a d):Same w.reset a.clr d:=by
 obtain⟨p1,p2⟩:=ziF h.new h.wt h.sh h.out;obtain⟨q1,q2⟩:=zlZ a d;obtain⟨r1,r2,r3,r4⟩:=za1 d;obtain⟨s1,s2,s3,s4,s5,s6,s7,s8⟩:=zdb w;have e:zbQ a.clr d={ d.flush with old:= -1,new:= -1,lk:=0 }:=by simp[zbQ,As.clr,Dp.res,Dp.lnk]
 refine⟨?_,?_,?_,?_,?_,?_,?_,?_,?_,?_,?_,?_,?_⟩
 ·exact s5.trans h.hd
 ·exact s6.trans h.sq
 ·exact s7.trans h.op
 ·have:=h.opr;rw[show w.reset.op=w.disp.op from rfl,s7];exact this
 ·rw[e];rfl
 ·rw[e];rfl
 ·rw[e];exact r3.symm
 ·rw[e];rfl
 ·rw[e];exact p2.trans q2
 ·rw[e];exact p1.trans (by rw[q1])
 ·exact qI _
 ·exact qI _
 ·exact qI _
theorem zfV{w:Wk}{a:As}{d:Dp}(h:Same w a d):Same w.drop { a with op:= -1 } d:=⟨h.hd,h.sq,rfl,.inl rfl,h.old,h.new,h.wt,h.no,h.sh,h.out,h.nor,h.oldr,h.newr⟩
theorem zhE{w:Wk}{a:As}{d:Dp}(h:Same w a d)(f l:Int)(hp:Pi):Same (w.frame f l hp.ty) { a with rs:=false,lk:= -1 } (d.step ⟨f,l,a.sq,hp,a.rs,a.lk⟩):=by
 have e:∀ x,zbQ { a with rs:=false,lk:= -1 } x=x:=fun x=>by simp[zbQ,Dp.res,Dp.lnk]
 have es:d.step ⟨f,l,a.sq,hp,a.rs,a.lk⟩=(zbQ a d).frame ⟨f,l,a.sq,hp,a.rs,a.lk⟩:=rfl;obtain⟨h1,h2,h3,h4,h5,h6,h7,h8,h9,h10,h11,h12,h13⟩:=h;rw[es];generalize zbQ a d=p at *;have hlen:(w.out.length:Int)=(p.en.length:Int):=by rw[h10,List.length_map]
 unfold Wk.frame Dp.frame;dsimp only;by_cases ht:hp.ty=3
 ·rw[if_pos ht,if_pos ht];by_cases hc:p.lk≠0∨p.old= -1∨p.new= -1
  ·rw[if_pos hc,if_pos om];exact⟨h1,h2,h3,h4,by rw[e];exact h5,by rw[e];exact h6,by rw[e];exact h7,by rw[e];exact h8,by rw[e];exact h9,by rw[e];exact h10,h11,h12,h13⟩
  ·rw[if_neg hc,if_neg om];refine⟨h1,h2,h3,h4,by rw[e];exact h5,by rw[e];exact h6,by rw[e];exact h7,by rw[e];exact h8,?_,?_,h11,h12,h13⟩
   ·rw[e];simp only[Dp.show];rw[h9]
   ·rw[e];simp only[Dp.show,qF,fmE];rw[map_set,List.map_append,←h10,h5,h6,h9,ht];rw[show p.en.length=w.out.length from om];simp[List.modify_eq_take_drop,zcB]
 ·rw[if_neg ht,if_neg ht];by_cases hc:hp.ty=2∧p.new= -1
  ·rw[if_pos hc,if_pos om];exact⟨h1,h2,h3,h4,by rw[e];exact h5,by rw[e];exact h6,by rw[e];exact h7,by rw[e];exact h8,by rw[e];exact h9,by rw[e];exact h10,h11,h12,h13⟩
  ·rw[if_neg hc,if_neg om];obtain⟨g1,g2⟩:=ziF (w:={ w with out:=w.out++[⟨f,l,hp.ty,w.new,-1,0⟩] }) (d:={ p with en:=p.en++[fmE ⟨f,l,a.sq,hp,a.rs,a.lk⟩ p.new (-1)] }) h6 h7 h9 (by simp[h10,h6,fmE]);obtain⟨r1,r2,r3,r4⟩:=za1 { p with en:=p.en++[fmE ⟨f,l,a.sq,hp,a.rs,a.lk⟩ p.new (-1)] };obtain⟨s1,s2,s3,s4,s5,s6,s7,s8⟩:=zdb { w with out:=w.out++[⟨f,l,hp.ty,w.new,-1,0⟩] };refine⟨?_,?_,?_,?_,?_,?_,?_,?_,?_,?_,?_,?_,?_⟩
   ·exact s5.trans h1
   ·exact s6.trans h2
   ·exact s7.trans h3
   ·show Wk.op (Wk.disp _)= -1∨0≤Wk.op (Wk.disp _);rw[s7];exact h4
   ·rw[e];exact s2.trans (h6.trans r2.symm)
   ·rw[e];exact hlen
   ·rw[e]
   ·rw[e];show max 0 (Wk.no (Wk.disp _) - 1)=max 0 (Dp.lk (Dp.flush _) - 1);rw[s4,r4];show max 0 (w.no - 1)=max 0 (p.lk - 1);rw[h8]
   ·rw[e];exact g2
   ·rw[e];exact g1
   ·exact Int.le_max_left _ _
   ·show -1≤Wk.new (Wk.disp _);rw[s2];exact h13
   ·show -1≤(w.out.length:Int);omega
theorem zqk{L:List It}{w:Wk}{a:As}{d:Dp}(h:Same w a d)(i:Int)(hi:0≤i)(hp:Pi):Same (w.picture L i hp) (a.pic L i hp).1 (d.stepO (a.pic L i hp).2):=by
 have hd:=zfV h;have hs:∀{v b x},Same v b x→Same { v with sk:=true } b x:=fun h=>⟨h.1,h.2,h.3,h.4,h.5,h.6,h.7,h.8,h.9,h.10,h.11,h.12,h.13⟩;unfold Wk.picture As.pic;dsimp only;rw[h.hd,h.sq];by_cases hv:(a.kn&&zH a.sq hp)=false
 ·rw[if_pos hv,if_pos (by cases hk:a.kn<;>simp_all)];exact hs hd
 rw[if_neg hv];have hv':a.kn=true∧zH a.sq hp=true:=by simpa using hv
 by_cases h3:hp.st=3
 ·rw[if_pos h3,if_neg (by simp[hv',h3]),if_pos h3];exact zhE hd i i hp
 simp only[if_neg h3];by_cases ho:a.op≠-1∧zbT (hdA L a.op) hp=true
 ·have h0:0≤a.op:=by have:=h.opr;have:=h.op;omega
  have e0:max w.op 0=a.op:=by rw[h.op];omega
  have e1:(decide (0≤w.op)&&zbT (hdA L (max w.op 0)) hp)=true:=by rw[e0,ho.2];simp[h.op,h0]
  rw[if_pos ho,if_neg (by simp[hv',e1]),if_pos e1];have h':Same { w with op:= -1 } { a with op:= -1 } d:=⟨h.hd,h.sq,rfl,.inl rfl,h.old,h.new,h.wt,h.no,h.sh,h.out,h.nor,h.oldr,h.newr⟩;have:=zhE h' w.op i (hdA L w.op);rw[h.op,h.hd,h.sq]at this;rw[h.op];exact this
 ·have e1:(decide (0≤w.op)&&zbT (hdA L (max w.op 0)) hp)=false:=by
   by_cases h0:0≤w.op
   ·have e0:max w.op 0=a.op:=by rw[←h.op];omega
    have h1:a.op≠-1:=by rw[←h.op];omega
    rw[e0];simp only[not_and,Bool.not_eq_true]at ho;rw[ho h1,Bool.and_false]
   ·simp[h0]
  rw[if_neg ho];by_cases hl:zcc hp=true
  ·rw[if_pos hl,if_neg (by simp[hv',hl]),if_neg (by rw[e1];simp)];exact⟨hd.1,hd.2,rfl,.inr hi,hd.5,hd.6,hd.7,hd.8,hd.9,hd.10,hd.11,hd.12,hd.13⟩
  ·rw[if_neg hl,if_pos (by simp[hv',h3,e1,hl])];exact hs hd
theorem znN{L:List It}{w:Wk}{a:As}{d:Dp}(h:Same w a d)(i:Int)(hi:0≤i)(x:It):Same (w.step L i x) (a.item L i x).1 (d.stepO (a.item L i x).2):=by
 have hd:=zfV h;unfold Wk.step As.item;by_cases h3:x.k=3
 ·rw[if_pos h3,if_pos h3];exact zqk h i hi x.p
 rw[if_neg h3,if_neg h3];by_cases h1:x.k=1
 ·rw[if_pos h1,if_pos h1];unfold Wk.seq As.seq;rw[hd.hd,hd.sq];by_cases hk:(a.kn&&sqE a.sq x.s)=true
  ·have hk':a.kn=true∧sqE a.sq x.s=true:=by simpa using hk
   rw[if_pos hk,if_neg (by simp[hk'])];exact hd
  ·rw[if_neg hk,if_pos (by cases h':a.kn<;>simp_all)];have:=zcY hd;exact⟨rfl,rfl,this.3,this.4,this.5,this.6,this.7,this.8,this.9,this.10,this.11,this.12,this.13⟩
 rw[if_neg h1,if_neg h1];by_cases h2:x.k=2
 ·rw[if_pos h2,if_pos h2];unfold Wk.grp As.grp;cases x.gc with
  | true=>exact zcY hd
  | false=>
   have lk:∀ n,0≤n→Same { w.drop with no:=n } { ({ a with op:= -1 }:As)with lk:=n } d:=fun n hn=>by
    have e:∀ b:As,b.rs=a.rs→b.lk=n→zbQ b d={ d.res a.rs with lk:=n }:=fun b e1 e2=>by unfold zbQ Dp.lnk;rw[e1,e2,if_pos om]
    have e':∀ y:Dp,y=d.res a.rs→(zbQ a d).old=y.old∧(zbQ a d).new=y.new∧(zbQ a d).wt=y.wt∧(zbQ a d).sh=y.sh∧(zbQ a d).en=y.en:=fun y hy=>by subst hy;unfold zbQ Dp.lnk;split<;>exact⟨rfl,rfl,rfl,rfl,rfl⟩
    obtain⟨q1,q2,q3,q4,q5⟩:=e' _ rfl;refine⟨hd.1,hd.2,hd.3,hd.4,?_,?_,?_,?_,?_,?_,hn,hd.12,hd.13⟩
    ·rw[e { ({ a with op:= -1 }:As)with lk:=n } rfl rfl];exact h.old.trans q1
    ·rw[e { ({ a with op:= -1 }:As)with lk:=n } rfl rfl];exact h.new.trans q2
    ·rw[e { ({ a with op:= -1 }:As)with lk:=n } rfl rfl];exact h.wt.trans q3
    ·rw[e { ({ a with op:= -1 }:As)with lk:=n } rfl rfl]
    ·rw[e { ({ a with op:= -1 }:As)with lk:=n } rfl rfl];exact h.sh.trans q4
    ·rw[e { ({ a with op:= -1 }:As)with lk:=n } rfl rfl];exact h.out.trans (by rw[q5])
   cases x.gb with
   | true=>exact lk 2 om
   | false=>exact lk 0 om
 rw[if_neg h2,if_neg h2];by_cases h4:x.k=4
 ·rw[if_pos h4,if_pos h4];have:=zcY hd;exact⟨rfl,this.2,this.3,this.4,this.5,this.6,this.7,this.8,this.9,this.10,this.11,this.12,this.13⟩
 ·rw[if_neg h4,if_neg h4];exact hd
theorem zkt(L:List It):∀(r:List It) (i:Int) (w:Wk) (a:As) (d:Dp),0≤i→Same w a d→Same (wkN L w i r) (asN L a i r) (dpN L a d i r)
 | [],_,_,_,_,_,h=>h
 | x::r,i,w,a,d,hi,h=>zkt L r (i+1) _ _ _ om (znN h i hi x)
theorem zdZ(L:List It):(zaa L).map (·.1)=(zaO L).out:=by
 have h0:Same wk0 (as0 sq0) dp0:=⟨rfl,rfl,rfl,.inl rfl,rfl,rfl,rfl,rfl,rfl,rfl,by decide,by decide,by decide⟩;have h:=zkt L L 0 _ _ _ (qI _) h0;have h2:=(zcY (zfV h)).out;have h3:zbQ (As.clr { asN L (as0 sq0) 0 L with op:= -1 }) (dpN L (as0 sq0) dp0 0 L)={ (dpN L (as0 sq0) dp0 0 L).flush with old:= -1,new:= -1,lk:=0 }:=by simp[zbQ,As.clr,Dp.res,Dp.lnk]
 rw[h3]at h2;exact h2.symm
theorem zuR{a b:Sq}(h:sqE a b=true):a=b:=by obtain⟨a1,a2,a3,a4,a5,a6,a7,a8,a9⟩:=a;obtain⟨b1,b2,b3,b4,b5,b6,b7,b8,b9⟩:=b;simp only[sqE,sqA,Bool.and_eq_true,beq_iff_eq]at h;simp_all
def cur(L:List It)(n:Nat):Sq:=(L.take n).foldl (fun q x=>if x.k=1 then x.s else q) sq0
theorem zfk{L:List It}{n:Nat}(h:n<L.length):cur L (n+1)=if L[n].k=1 then L[n].s else cur L n:=by unfold cur;rw[List.take_succ,qE h,List.foldl_append];rfl
theorem zfQ{L:List It}{n:Nat}(h:n<L.length):hdA L (n:Int)=L[n].p:=by unfold hdA;rw[qF,qE h]
def FOk(L:List It)(f l:Int)(sq:Sq)(hd:Pi):Prop:=∃(n m:Nat) (hn:n<L.length) (hm:m<L.length),f=(n:Int)∧l=(m:Int)∧((m=n∧hd.st=3)∨(m=n+1∧zcc hd=true∧zbT hd L[m].p=true∧zH sq L[m].p=true))∧L[n].k=3∧L[m].k=3∧hd=L[n].p∧sq=cur L n∧zH sq hd=true
def zrQ(L:List It)(a:As)(i:Nat):Prop:=a.sq=cur L i∧(a.op= -1∨∃(o:Nat) (ho:o<L.length),a.op=(o:Int)∧o+1=i∧L[o].k=3∧zcc L[o].p=true∧zH a.sq L[o].p=true)
theorem zxm(L:List It):zrQ L (as0 sq0) 0:=⟨by unfold cur;rfl,.inl rfl⟩
theorem zov{L:List It}{a:As}{i:Nat}(h:zrQ L a i)(hi:i<L.length):zrQ L (a.item L (i:Int) L[i]).1 (i+1)∧∀ f,(a.item L (i:Int) L[i]).2=some f→FOk L f.f f.l f.sq f.hd:=by
 obtain⟨hs,ho⟩:=h;have hc:=zfk hi;have nope:∀{b:As},b.sq=a.sq→b.op= -1→L[i].k≠1→zrQ L b (i+1):=fun h1 h2 h3=>⟨by rw[h1,hs,hc,if_neg h3],.inl h2⟩;unfold As.item;by_cases k3:L[i].k=3
 ·rw[if_pos k3];have k1:L[i].k≠1:=om;unfold As.pic;by_cases hv:(a.kn&&zH a.sq L[i].p)=false
  ·rw[if_pos hv];exact⟨nope rfl rfl k1,fun f hf=>by cases hf⟩
  rw[if_neg hv];have hv':zH a.sq L[i].p=true:=by cases h1:a.kn<;>cases h2:zH a.sq L[i].p<;>simp_all
  by_cases hw:L[i].p.st=3
  ·rw[if_pos hw];refine⟨nope rfl rfl k1,fun f hf=> ?_⟩;unfold As.cmp at hf;injection hf with hf;subst hf;exact⟨i,i,hi,hi,rfl,rfl,.inl ⟨rfl,hw⟩,k3,k3,rfl,hs,hv'⟩
  rw[if_neg hw];by_cases hp:a.op≠-1∧zbT (hdA L a.op) L[i].p=true
  ·rw[if_pos hp];refine⟨nope rfl rfl k1,fun f hf=> ?_⟩;unfold As.cmp at hf;injection hf with hf;subst hf;rcases ho with h1|⟨o,hol,e1,e2,e3,e4,e5⟩
   ·exact absurd h1 hp.1
   ·have h2:=hp.2;rw[e1,zfQ hol]at h2;subst e2;have ec:cur L (o+1)=cur L o:=by rw[zfk hol,if_neg om]
    refine⟨o,o+1,hol,hi,e1,rfl,.inr ⟨rfl,?_,?_,hv'⟩,e3,k3,?_,hs.trans ec,?_⟩
    ·show zcc (hdA L a.op)=true;rw[e1,zfQ hol];exact e4
    ·show zbT (hdA L a.op) _=true;rw[e1,zfQ hol];exact h2
    ·show hdA L a.op=_;rw[e1,zfQ hol]
    ·show zH a.sq (hdA L a.op)=true;rw[e1,zfQ hol];exact e5
  rw[if_neg hp];by_cases hl:zcc L[i].p=true
  ·rw[if_pos hl];exact⟨⟨by show a.sq=_;rw[hs,hc,if_neg k1],.inr ⟨i,hi,rfl,rfl,k3,hl,hv'⟩⟩,fun f hf=>by cases hf⟩
  ·rw[if_neg hl];exact⟨nope rfl rfl k1,fun f hf=>by cases hf⟩
 rw[if_neg k3];by_cases k1:L[i].k=1
 ·rw[if_pos k1];refine⟨?_,fun f hf=>by cases hf⟩;unfold As.seq;dsimp only;by_cases he:(a.kn&&sqE a.sq L[i].s)=true
  ·rw[if_pos he];rw[Bool.and_eq_true]at he;exact⟨by rw[hc,if_pos k1];exact zuR he.2,.inl rfl⟩
  ·rw[if_neg he];exact⟨by rw[hc,if_pos k1],.inl rfl⟩
 rw[if_neg k1];by_cases k2:L[i].k=2
 ·rw[if_pos k2];refine⟨?_,fun f hf=>by cases hf⟩;unfold As.grp;split
  ·exact nope rfl rfl k1
  ·split<;>exact nope rfl rfl k1
 rw[if_neg k2];split
 ·exact⟨nope rfl rfl k1,fun f hf=>by cases hf⟩
 ·exact⟨nope rfl rfl k1,fun f hf=>by cases hf⟩
def EOk(L:List It)(j:Nat)(e:Ent):Prop:=FOk L e.1.f e.1.l e.2.1 e.2.2∧e.1.ty=e.2.2.ty∧(-1≤e.1.pa∧e.1.pa<j)∧(-1≤e.1.fu∧e.1.fu<j)∧(e.1.ty=3→0≤e.1.pa∧0≤e.1.fu)∧(e.1.ty=2→0≤e.1.pa)∧(e.1.ty≠3→e.1.fu= -1)
theorem EOk.set{L:List It}{j:Nat}{e:Ent}(h:EOk L j e)(v:Int):EOk L j (zM v e):=h
structure DInv(L:List It)(d:Dp):Prop where
 e:∀(j:Nat) (x:Ent),d.en[j]? =some x→EOk L j x
 old: -1≤d.old∧d.old<d.en.length
 new: -1≤d.new∧d.new<d.en.length
 wn:d.wt=true→0≤d.new
 sh:d.sh=d.en.length - (if d.wt then 1 else 0)
 s:∀(j:Nat) (x:Ent),d.en[j]? =some x→(d.wt=true∧(j:Int)=d.new)∨(0≤x.1.sh∧x.1.sh<d.sh)
 i:∀(j k:Nat) (x y:Ent),d.en[j]? =some x→d.en[k]? =some y→¬(d.wt=true∧(j:Int)=d.new)→¬(d.wt=true∧(k:Int)=d.new)→x.1.sh=y.1.sh→j=k
theorem zxb(L:List It):DInv L dp0:=⟨fun j x h=>by simp[dp0]at h,by simp[dp0],by simp[dp0],fun h=>by simp[dp0]at h,by simp[dp0],fun j x h=>by simp[dp0]at h,fun j k x y h=>by simp[dp0]at h⟩
theorem zfY{L:List It}{en:List Ent}{n:Nat}{sh:Int}{w:Nat→Prop}(hwn:¬ w n)(hsn:0≤sh)(he:∀(j:Nat) (x:Ent),en[j]? =some x→EOk L j x)
  (hs:∀(j:Nat) (x:Ent),en[j]? =some x→j=n∨w j∨(0≤x.1.sh∧x.1.sh<sh)) (hi:∀(j k:Nat) (x y:Ent),en[j]? =some x→en[k]? =some y→j≠n→k≠n→¬ w j→¬ w k→x.1.sh=y.1.sh→j=k):
  (∀(j:Nat) (x:Ent),(en.modify n (zM sh))[j]? =some x→EOk L j x)∧(∀(j:Nat) (x:Ent),(en.modify n (zM sh))[j]? =some x→w j∨(0≤x.1.sh∧x.1.sh<sh+1))∧(∀(j k:Nat) (x y:Ent),(en.modify n (zM sh))[j]? =some x→(en.modify n (zM sh))[k]? =some y→¬ w j→¬ w k→x.1.sh=y.1.sh→j=k):=by
 have at1:∀(j:Nat) (x:Ent),(en.modify n (zM sh))[j]? =some x→∃ y,en[j]? =some y∧((j=n∧x=zM sh y)∨(j≠n∧x=y)):=fun j x h=>by
  rw[List.getElem?_modify]at h;cases hy:en[j]? with
  | none=>rw[hy]at h;cases h
  | some y=>
   rw[hy]at h;refine⟨y,rfl,?_⟩;by_cases hj:n=j
   ·subst hj;simp at h;exact .inl ⟨rfl,h.symm⟩
   ·simp[hj]at h;exact .inr ⟨fun e=>hj e.symm,h.symm⟩
 refine⟨fun j x h=> ?_,fun j x h=> ?_,fun j k x y hx hy wj wk hxy=> ?_⟩
 ·obtain⟨y,hy,h1|h1⟩:=at1 j x h
  ·rw[h1.2];exact(he j y hy).set sh
  ·rw[h1.2];exact he j y hy
 ·obtain⟨y,hy,h1|h1⟩:=at1 j x h
  ·rw[h1.2];right;show 0≤sh∧sh<sh+1;omega
  ·rcases hs j y hy with h2|h2|h2
   ·exact absurd h2 h1.1
   ·exact .inl h2
   ·rw[h1.2];right;omega
 ·obtain⟨x',hx',a1|a1⟩:=at1 j x hx
  ·obtain⟨y',hy',b1|b1⟩:=at1 k y hy
   ·rw[a1.1,b1.1]
   ·exfalso;rcases hs k y' hy' with h2|h2|h2
    ·exact b1.1 h2
    ·exact wk h2
    ·rw[a1.2,b1.2]at hxy;have:sh=y'.1.sh:=hxy;omega
  ·obtain⟨y',hy',b1|b1⟩:=at1 k y hy
   ·exfalso;rcases hs j x' hx' with h2|h2|h2
    ·exact a1.1 h2
    ·exact wj h2
    ·rw[a1.2,b1.2]at hxy;have:x'.1.sh=sh:=hxy;omega
   ·rw[a1.2,b1.2]at hxy;exact hi j k x' y' hx' hy' a1.1 b1.1 wj wk hxy
theorem zhP{L:List It}{d:Dp}(h:DInv L d):DInv L d.flush∧d.flush.wt=false:=by
 unfold Dp.flush;cases hw:d.wt with
 | false=>rw[if_neg sp];exact⟨h,hw⟩
 | true=>
  rw[if_pos rfl];refine⟨?_,rfl⟩;have hn:=h.new;have hn0:=h.wn hw;have hsh:=h.sh;rw[hw,if_pos rfl]at hsh;obtain⟨g1,g2,g3⟩:=zfY (L:=L) (en:=d.en) (n:=d.new.toNat) (sh:=d.sh) (w:=fun _=>False) (fun h=>h) om h.e (fun j x hx=>by
   rcases h.s j x hx with h1|h1
   ·exact .inl om
   ·exact .inr (.inr h1)) (fun j k x y hx hy h1 h2 _ _ h3=>h.i j k x y hx hy (fun h4=>h1 om) (fun h4=>h2 om) h3)
  have hl:(d.en.modify d.new.toNat (zM d.sh)).length=d.en.length:=by simp
  refine⟨g1,?_,?_,fun h=>(by cases h),?_,fun j x hx=>.inr ?_,fun j k x y hx hy _ _ h3=>g3 j k x y hx hy (fun h=>h) (fun h=>h) h3⟩
  ·show -1≤d.old∧d.old<((d.en.modify d.new.toNat (zM d.sh)).length:Int);rw[hl];exact h.old
  ·show -1≤d.new∧d.new<((d.en.modify d.new.toNat (zM d.sh)).length:Int);rw[hl];exact h.new
  ·show d.sh+1=((d.en.modify d.new.toNat (zM d.sh)).length:Int) - (if false=true then 1 else 0);rw[hl,if_neg sp];omega
  ·rcases g2 j x hx with h1|h1
   ·cases h1
   ·exact h1
theorem zrg{L:List It}{d:Dp}(h:DInv L d)(rs:Bool)(lk:Int):DInv L ((d.res rs).lnk lk):=by
 have h1:DInv L (d.res rs):=by
  unfold Dp.res;cases rs with
  | false=>rw[if_neg sp];exact h
  | true=>
   rw[if_pos rfl];obtain⟨g,gw⟩:=zhP h;refine⟨g.e,⟨qI _,by show(-1:Int)<_;omega⟩,⟨qI _,by show(-1:Int)<_;omega⟩,fun e=> ?_,?_,fun j x hx=> ?_,fun j k x y hx hy _ _ h3=> ?_⟩
   ·have e':d.flush.wt=true:=e;rw[gw]at e';cases e'
   ·exact g.sh
   ·rcases g.s j x hx with h1|h1
    ·rw[gw]at h1;cases h1.1
    ·exact .inr h1
   ·exact g.i j k x y hx hy (by rw[gw];simp) (by rw[gw];simp) h3
 unfold Dp.lnk;split
 ·exact⟨h1.e,h1.old,h1.new,h1.wn,h1.sh,h1.s,h1.i⟩
 ·exact h1
theorem zat{α:Type}{l:List α}{a x:α}{j:Nat}(h:(l++[a])[j]? =some x):(j<l.length∧l[j]? =some x)∨(j=l.length∧x=a):=by
 by_cases hj:j<l.length
 ·rw[qT hj]at h;exact .inl ⟨hj,h⟩
 ·rw[List.getElem?_append_right om]at h;cases hk:j - l.length with
  | zero=>
   rw[hk]at h;simp at h;exact .inr ⟨om,h.symm⟩
  | succ k=>rw[hk]at h;simp at h
theorem zmj{L:List It}{d:Dp}{f:FmY}(h:DInv L d)(hf:FOk L f.f f.l f.sq f.hd):DInv L (d.frame f):=by
 have ho:=h.old;have hn:=h.new;have hsh:=h.sh;unfold Dp.frame;by_cases h3:f.hd.ty=3
 ·rw[if_pos h3];by_cases hc:d.lk≠0∨d.old= -1∨d.new= -1
  ·rw[if_pos hc];exact h
  rw[if_neg hc];have ho0:0≤d.old:=om;have hn0:0≤d.new:=om;obtain⟨g1,g2,g3⟩:=zfY (L:=L) (en:=d.en++[fmE f d.old d.new]) (n:=d.en.length) (sh:=d.sh) (w:=fun j=>d.wt=true∧(j:Int)=d.new) (fun h=>om) (by rw[hsh];split<;>omega)
   (fun j x hx=>by
    rcases zat hx with⟨_,h1⟩|⟨h1,h2⟩
    ·exact h.e j x h1
    ·rw[h2,h1];exact⟨hf,rfl,⟨by show -1≤d.old;omega,by show d.old<_;omega⟩,⟨by show -1≤d.new;omega,by show d.new<_;omega⟩,fun _=>⟨ho0,hn0⟩,fun _=>ho0,fun e=>absurd h3 e⟩)
   (fun j x hx=>by
    rcases zat hx with⟨_,h1⟩|⟨h1,h2⟩
    ·rcases h.s j x h1 with h2|h2
     ·exact .inr (.inl h2)
     ·exact .inr (.inr h2)
    ·exact .inl h1)
   (fun j k x y hx hy j1 k1 wj wk hxy=>by
    rcases zat hx with⟨_,h1⟩|⟨h1,_⟩
    ·rcases zat hy with⟨_,h2⟩|⟨h2,_⟩
     ·exact h.i j k x y h1 h2 wj wk hxy
     ·exact absurd h2 k1
    ·exact absurd h1 j1)
  have hl:((d.en++[fmE f d.old d.new]).modify d.en.length (zM d.sh)).length=d.en.length+1:=by simp
  refine⟨?_,?_,?_,h.wn,?_,?_,?_⟩
  ·intro j x hx;exact g1 j x (by simpa[Dp.show]using hx)
  ·show -1≤d.old∧d.old<(((d.en++[fmE f d.old d.new]).modify ((d.en.length:Nat):Int).toNat (zM d.sh)).length:Int);rw[qF,hl];omega
  ·show -1≤d.new∧d.new<(((d.en++[fmE f d.old d.new]).modify ((d.en.length:Nat):Int).toNat (zM d.sh)).length:Int);rw[qF,hl];omega
  ·show d.sh+1=(((d.en++[fmE f d.old d.new]).modify ((d.en.length:Nat):Int).toNat (zM d.sh)).length:Int) - (if d.wt=true then 1 else 0);rw[qF,hl,hsh];split<;>omega
  ·intro j x hx;exact g2 j x (by simpa[Dp.show]using hx)
  ·intro j k x y hx hy wj wk hxy;exact g3 j k x y (by simpa[Dp.show]using hx) (by simpa[Dp.show]using hy) wj wk hxy
 rw[if_neg h3];by_cases hc:f.hd.ty=2∧d.new= -1
 ·rw[if_pos hc];exact h
 rw[if_neg hc];have hE:EOk L d.en.length (fmE f d.new (-1)):=⟨hf,rfl,⟨by show -1≤d.new;omega,by show d.new<_;omega⟩,⟨qI _,by show(-1:Int)<_;omega⟩,fun e=>absurd e h3,fun e=>by
  have e':f.hd.ty=2:=e;show 0≤d.new;by_cases h1:d.new= -1
  ·exact absurd ⟨e',h1⟩ hc
  ·omega,fun _=>rfl⟩
 have hall:∀(j:Nat) (x:Ent),(d.en++[fmE f d.new (-1)])[j]? =some x→EOk L j x:=fun j x hx=>by
  rcases zat hx with⟨_,h1⟩|⟨h1,h2⟩
  ·exact h.e j x h1
  ·rw[h2,h1];exact hE
 dsimp only;cases hw:d.wt with
 | false=>
  have e:Dp.flush { d with en:=d.en++[fmE f d.new (-1)] }={ d with en:=d.en++[fmE f d.new (-1)] }:=by unfold Dp.flush;show(if d.wt=true then _ else _)=_;rw[hw,if_neg sp]
  rw[hw]at e;rw[e];rw[hw,if_neg sp]at hsh;refine⟨hall,?_,?_,fun _=> ?_,?_,?_,?_⟩
  ·show -1≤d.new∧d.new<((d.en++[fmE f d.new (-1)]).length:Int);rw[qK];simp only[qH,qR];omega
  ·show(-1:Int)≤(d.en.length:Int)∧(d.en.length:Int)<((d.en++[fmE f d.new (-1)]).length:Int);rw[qK];simp only[qH,qR];omega
  ·show(0:Int)≤(d.en.length:Int);omega
  ·show d.sh=((d.en++[fmE f d.new (-1)]).length:Int) - (if true=true then 1 else 0);rw[qK,if_pos rfl];simp only[qH,qR];omega
  ·intro j x hx;rcases zat hx with⟨_,h1⟩|⟨h1,_⟩
   ·rcases h.s j x h1 with h2|h2
    ·rw[hw]at h2;cases h2.1
    ·exact .inr h2
   ·exact .inl ⟨rfl,by show(j:Int)=(d.en.length:Int);omega⟩
  ·intro j k x y hx hy wj wk hxy;rcases zat hx with⟨_,h1⟩|⟨h1,_⟩
   ·rcases zat hy with⟨_,h2⟩|⟨h2,_⟩
    ·exact h.i j k x y h1 h2 (by rw[hw];simp) (by rw[hw];simp) hxy
    ·exact absurd ⟨rfl,by show(k:Int)=(d.en.length:Int);omega⟩ wk
   ·exact absurd ⟨rfl,by show(j:Int)=(d.en.length:Int);omega⟩ wj
 | true=>
  have hn0:=h.wn hw;rw[hw,if_pos rfl]at hsh;have e:Dp.flush { d with en:=d.en++[fmE f d.new (-1)] }={ d with en:=(d.en++[fmE f d.new (-1)]).modify d.new.toNat (zM d.sh),sh:=d.sh+1,wt:=false }:=by unfold Dp.flush;show(if d.wt=true then _ else _)=_;rw[hw,if_pos rfl];rfl
  rw[hw]at e;rw[e];obtain⟨g1,g2,g3⟩:=zfY (L:=L) (en:=d.en++[fmE f d.new (-1)]) (n:=d.new.toNat) (sh:=d.sh) (w:=fun j=>j=d.en.length) (by show ¬ d.new.toNat=d.en.length;omega) om hall
   (fun j x hx=>by
    rcases zat hx with⟨_,h1⟩|⟨h1,_⟩
    ·rcases h.s j x h1 with h2|h2
     ·exact .inl om
     ·exact .inr (.inr h2)
    ·exact .inr (.inl h1))
   (fun j k x y hx hy j1 k1 wj wk hxy=>by
    rcases zat hx with⟨_,h1⟩|⟨h1,_⟩
    ·rcases zat hy with⟨_,h2⟩|⟨h2,_⟩
     ·exact h.i j k x y h1 h2 (fun h4=>j1 om) (fun h4=>k1 om) hxy
     ·exact absurd h2 wk
    ·exact absurd h1 wj)
  have hl:((d.en++[fmE f d.new (-1)]).modify d.new.toNat (zM d.sh)).length=d.en.length+1:=by simp
  refine⟨g1,?_,?_,fun _=> ?_,?_,?_,?_⟩
  ·show -1≤d.new∧d.new<(((d.en++[fmE f d.new (-1)]).modify d.new.toNat (zM d.sh)).length:Int);rw[hl];omega
  ·show(-1:Int)≤(d.en.length:Int)∧(d.en.length:Int)<(((d.en++[fmE f d.new (-1)]).modify d.new.toNat (zM d.sh)).length:Int);rw[hl];omega
  ·show(0:Int)≤(d.en.length:Int);omega
  ·show d.sh+1=(((d.en++[fmE f d.new (-1)]).modify d.new.toNat (zM d.sh)).length:Int) - (if true=true then 1 else 0);rw[hl,if_pos rfl];omega
  ·intro j x hx;rcases g2 j x hx with h1|h1
   ·exact .inl ⟨rfl,by show(j:Int)=(d.en.length:Int);omega⟩
   ·exact .inr h1
  ·intro j k x y hx hy wj wk hxy;exact g3 j k x y hx hy (fun e=>wj ⟨rfl,by show(j:Int)=(d.en.length:Int);omega⟩) (fun e=>wk ⟨rfl,by show(k:Int)=(d.en.length:Int);omega⟩) hxy
structure SInv(L:List It)(es:List Ent):Prop where
 e:∀(j:Nat) (x:Ent),es[j]? =some x→EOk L j x
 s:∀(j:Nat) (x:Ent),es[j]? =some x→0≤x.1.sh∧x.1.sh<es.length
 i:∀(j k:Nat) (x y:Ent),es[j]? =some x→es[k]? =some y→x.1.sh=y.1.sh→j=k
theorem znj{L:List It}:∀(l:List It) (a:As) (d:Dp) (i:Nat),L.drop i=l→zrQ L a i→DInv L d→DInv L (dpN L a d (i:Int) l)
 | [],_,d,_,_,_,hd=>hd
 | x::r,a,d,i,hl,ha,hd=>by
  have hi:i<L.length:=by
   rcases Nat.lt_or_ge i L.length with h|h
   ·exact h
   ·rw[List.drop_of_length_le h]at hl;cases hl
  rw[List.drop_eq_getElem_cons hi]at hl;injection hl with h1 h2;obtain⟨g1,g2⟩:=zov ha hi;rw[h1]at g1 g2;rw[dpN];have e:(i:Int)+1=((i+1:Nat):Int):=om;rw[e];refine znj r _ _ (i+1) h2 g1 ?_;cases hf:(a.item L (i:Int) x).2 with
  | none=>exact hd
  | some f=>exact zmj (zrg hd f.rs f.lk) (g2 f hf)
theorem zgY(L:List It):SInv L (zaa L):=by
 have h:DInv L (dpN L (as0 sq0) dp0 0 L):=znj L (as0 sq0) dp0 0 sp (zxm L) (zxb L);obtain⟨g,gw⟩:=zhP h;have hs:=g.sh;rw[gw,if_neg sp]at hs;refine⟨g.e,fun j x hx=> ?_,fun j k x y hx hy h3=>g.i j k x y hx hy (by rw[gw];simp) (by rw[gw];simp) h3⟩;rcases g.s j x hx with h1|h1
 ·rw[gw]at h1;cases h1.1
 ·have:((zaa L).length:Int)=(Dp.flush (dpN L (as0 sq0) dp0 0 L)).en.length:=rfl;omega
structure Cx where
 t:Int
 s:Int
 i:Bool
 n:Bool
def cxc(c:Cx):List PV:=[.int .i64 c.t,.int .i64 c.s,.bool c.i,.bool c.n]
def vcx(c:Cx):Bool:=decide (1≤c.t)&&(decide (c.t≤3)&&(decide (1≤c.s)&&(decide (c.s≤3)&&(if c.s=3 then !c.n else c.i))))
def fcx(c:Cx):Bool:=decide (c.s≠3)
def bcx(c:Cx):Bool:=c.i&&decide (c.s=3)
structure Mb where
 k:Int
 ua:Bool
 ub:Bool
 fp:Bool
 fd:Bool
 va:Int
 vb:Int
 vc:Int
 vd:Int
 ve:Int
 vf:Int
 vg:Int
 vh:Int
 sa:Int
 sb:Int
 sc:Int
 sd:Int
 dl:Int
 ca:Bool
 cb:Bool
 cc:Bool
 cd:Bool
 ce:Bool
 cf:Bool
 lv:List Int
def mbc(m:Mb):List PV:=.int .i64 m.k:: .bool m.ua:: .bool m.ub:: .bool m.fp:: .bool m.fd:: .int .i64 m.va:: .int .i64 m.vb:: .int .i64 m.vc:: .int .i64 m.vd:: .int .i64 m.ve:: .int .i64 m.vf:: .int .i64 m.vg:: .int .i64 m.vh:: .int .i64 m.sa:: .int .i64 m.sb:: .int .i64 m.sc:: .int .i64 m.sd:: .int .i64 m.dl:: .bool m.ca:: .bool m.cb:: .bool m.cc:: .bool m.cd:: .bool m.ce:: .bool m.cf::is m.lv
def mB(m:Mb):Blk:=⟨149,0,mbc m⟩
def zlm(m:Mb):Bool:=m.ca||(m.cb||(m.cc||(m.cd||(m.ce||m.cf))))
def hlM(m:Mb):Bool:=decide (m.k=1)||zlm m
def win(x n:Int):Bool:=decide (-n≤x)&&decide (x≤n)
theorem zuq(c:Cx)(H:za):CallOk Tryz.prog 178 [.agg (cxc c)] H (.bool (vcx c)) H:=by obtain⟨t,s,i,n⟩:=c;refine CallOk.body (F0:=[(0,.agg [.int .i64 t,.int .i64 s,.bool i,.bool n])]) Tryz.func178 rfl Tryz.ntmps178 Tryz.results178 rfl kr rfl ?_;(repeat'(first|refine PW.seq ?_|refine PW.skip ?_|refine PW.block ?_|((first|refine PW.rg rfl fun K hK=> ?_|refine PW.draw mix kr fun K hK=> ?_);simp(disch:=omega) only[go_sem,↓reduceIte,reduceCtorEq])|((first|refine zh ?_ ?_|refine ze ?_ ?_|refine And.intro ?_ ?_)<;>intro h<;>(try simp only[nqb]at h)<;>simp(disch:=omega) only[go_sem,↓reduceIte,reduceCtorEq,h])|(refine hK _ _ ?_;clear hK K)|(refine PW.cond (t:=_) rfl (fun h=> ?_) (fun h=> ?_)<;>(try(cases h;done))<;>(try simp only[nqb]at h))));all_goals((refine PW.ret ⟨_,rfl,?_⟩;first|refine .inl ⟨?_,rfl⟩|refine Fin.base (.id' ?_ (.bool _))|refine Fin.base (.id' ?_ (.int _ _)));(simp_all[vcx,slot,qB]<;>first|rfl|omega|(rw[qA];simp;done)|(rw[qA];simp;omega)))
theorem zrY(c:Cx)(H:za):CallOk Tryz.prog 192 [.agg (cxc c)] H (.bool (vcx c)) H:=by obtain⟨t,s,i,n⟩:=c;refine CallOk.body (F0:=[(0,.agg [.int .i64 t,.int .i64 s,.bool i,.bool n])]) Tryz.func192 rfl Tryz.ntmps192 Tryz.results192 rfl kr rfl ?_;(repeat'(first|refine PW.seq ?_|refine PW.skip ?_|refine PW.block ?_|((first|refine PW.rg rfl fun K hK=> ?_|refine PW.draw mix kr fun K hK=> ?_);simp(disch:=omega) only[go_sem,↓reduceIte,reduceCtorEq])|((first|refine zh ?_ ?_|refine ze ?_ ?_|refine And.intro ?_ ?_)<;>intro h<;>(try simp only[nqb]at h)<;>simp(disch:=omega) only[go_sem,↓reduceIte,reduceCtorEq,h])|(refine hK _ _ ?_;clear hK K)|(refine PW.cond (t:=_) rfl (fun h=> ?_) (fun h=> ?_)<;>(try(cases h;done))<;>(try simp only[nqb]at h))));all_goals((refine PW.ret ⟨_,rfl,?_⟩;first|refine .inl ⟨?_,rfl⟩|refine Fin.base (.id' ?_ (.bool _))|refine Fin.base (.id' ?_ (.int _ _)));cases i<;>cases n<;>(simp_all[vcx,slot,qB]<;>first|rfl|omega|(rw[qA];simp;done)|(rw[qA];simp;omega)))
theorem zvJ(c:Cx)(H:za):CallOk Tryz.prog 211 [.agg (cxc c)] H (.bool (fcx c)) H:=by obtain⟨t,s,i,n⟩:=c;refine CallOk.body (F0:=[(0,.agg [.int .i64 t,.int .i64 s,.bool i,.bool n])]) Tryz.func211 rfl Tryz.ntmps211 Tryz.results211 rfl kr rfl ?_;(repeat'(first|refine PW.seq ?_|refine PW.skip ?_|refine PW.block ?_|((first|refine PW.rg rfl fun K hK=> ?_|refine PW.draw mix kr fun K hK=> ?_);simp(disch:=omega) only[go_sem,↓reduceIte,reduceCtorEq])|((first|refine zh ?_ ?_|refine ze ?_ ?_|refine And.intro ?_ ?_)<;>intro h<;>(try simp only[nqb]at h)<;>simp(disch:=omega) only[go_sem,↓reduceIte,reduceCtorEq,h])|(refine hK _ _ ?_;clear hK K)|(refine PW.cond (t:=_) rfl (fun h=> ?_) (fun h=> ?_)<;>(try(cases h;done))<;>(try simp only[nqb]at h))));all_goals((refine PW.ret ⟨_,rfl,?_⟩;first|refine .inl ⟨?_,rfl⟩|refine Fin.base (.id' ?_ (.bool _))|refine Fin.base (.id' ?_ (.int _ _)));(simp_all[fcx,slot,qB]<;>first|rfl|omega|(rw[qA];simp;done)|(rw[qA];simp;omega)))
theorem zs9(c:Cx)(H:za):CallOk Tryz.prog 275 [.agg (cxc c)] H (.bool (fcx c)) H:=by obtain⟨t,s,i,n⟩:=c;refine CallOk.body (F0:=[(0,.agg [.int .i64 t,.int .i64 s,.bool i,.bool n])]) Tryz.func275 rfl Tryz.ntmps275 Tryz.results275 rfl kr rfl ?_;(repeat'(first|refine PW.seq ?_|refine PW.skip ?_|refine PW.block ?_|((first|refine PW.rg rfl fun K hK=> ?_|refine PW.draw mix kr fun K hK=> ?_);simp(disch:=omega) only[go_sem,↓reduceIte,reduceCtorEq])|((first|refine zh ?_ ?_|refine ze ?_ ?_|refine And.intro ?_ ?_)<;>intro h<;>(try simp only[nqb]at h)<;>simp(disch:=omega) only[go_sem,↓reduceIte,reduceCtorEq,h])|(refine hK _ _ ?_;clear hK K)|(refine PW.cond (t:=_) rfl (fun h=> ?_) (fun h=> ?_)<;>(try(cases h;done))<;>(try simp only[nqb]at h))));all_goals((refine PW.ret ⟨_,rfl,?_⟩;first|refine .inl ⟨?_,rfl⟩|refine Fin.base (.id' ?_ (.bool _))|refine Fin.base (.id' ?_ (.int _ _)));(simp_all[fcx,slot,qB]<;>first|rfl|omega|(rw[qA];simp;done)|(rw[qA];simp;omega)))
theorem zrv(c:Cx)(H:za):CallOk Tryz.prog 257 [.agg (cxc c)] H (.bool (bcx c)) H:=by obtain⟨t,s,i,n⟩:=c;refine CallOk.body (F0:=[(0,.agg [.int .i64 t,.int .i64 s,.bool i,.bool n])]) Tryz.func257 rfl Tryz.ntmps257 Tryz.results257 rfl kr rfl ?_;(repeat'(first|refine PW.seq ?_|refine PW.skip ?_|refine PW.block ?_|((first|refine PW.rg rfl fun K hK=> ?_|refine PW.draw mix kr fun K hK=> ?_);simp(disch:=omega) only[go_sem,↓reduceIte,reduceCtorEq])|((first|refine zh ?_ ?_|refine ze ?_ ?_|refine And.intro ?_ ?_)<;>intro h<;>(try simp only[nqb]at h)<;>simp(disch:=omega) only[go_sem,↓reduceIte,reduceCtorEq,h])|(refine hK _ _ ?_;clear hK K)|(refine PW.cond (t:=_) rfl (fun h=> ?_) (fun h=> ?_)<;>(try(cases h;done))<;>(try simp only[nqb]at h))));all_goals((refine PW.ret ⟨_,rfl,?_⟩;first|refine .inl ⟨?_,rfl⟩|refine Fin.base (.id' ?_ (.bool _))|refine Fin.base (.id' ?_ (.int _ _)));(simp_all[bcx,slot,qB]<;>first|rfl|omega|(rw[qA];simp;done)|(rw[qA];simp;omega)))
theorem znq(c:Cx)(H:za):CallOk Tryz.prog 224 [.agg (cxc c)] H (.bool (bcx c)) H:=by obtain⟨t,s,i,n⟩:=c;refine CallOk.body (F0:=[(0,.agg [.int .i64 t,.int .i64 s,.bool i,.bool n])]) Tryz.func224 rfl Tryz.ntmps224 Tryz.results224 rfl kr rfl ?_;(repeat'(first|refine PW.seq ?_|refine PW.skip ?_|refine PW.block ?_|((first|refine PW.rg rfl fun K hK=> ?_|refine PW.draw mix kr fun K hK=> ?_);simp(disch:=omega) only[go_sem,↓reduceIte,reduceCtorEq])|((first|refine zh ?_ ?_|refine ze ?_ ?_|refine And.intro ?_ ?_)<;>intro h<;>(try simp only[nqb]at h)<;>simp(disch:=omega) only[go_sem,↓reduceIte,reduceCtorEq,h])|(refine hK _ _ ?_;clear hK K)|(refine PW.cond (t:=_) rfl (fun h=> ?_) (fun h=> ?_)<;>(try(cases h;done))<;>(try simp only[nqb]at h))));all_goals((refine PW.ret ⟨_,rfl,?_⟩;first|refine .inl ⟨?_,rfl⟩|refine Fin.base (.id' ?_ (.bool _))|refine Fin.base (.id' ?_ (.int _ _)));(simp_all[bcx,slot,qB]<;>first|rfl|omega|(rw[qA];simp;done)|(rw[qA];simp;omega)))
theorem zfs(x n:Int)(H:za)(hn:0≤n∧n≤10000):CallOk Tryz.prog 253 [.int .i64 x,.int .i64 n] H (.bool (win x n)) H:=by refine CallOk.go Tryz.func253 Tryz.ntmps253 Tryz.results253 ?_;(repeat'(first|refine PW.seq ?_|refine PW.skip ?_|refine PW.block ?_|((first|refine PW.rg rfl fun K hK=> ?_|refine PW.draw mix kr fun K hK=> ?_);simp(disch:=omega) only[go_sem,↓reduceIte,reduceCtorEq])|((first|refine zh ?_ ?_|refine ze ?_ ?_|refine And.intro ?_ ?_)<;>intro h<;>(try simp only[nqb]at h)<;>simp(disch:=omega) only[go_sem,↓reduceIte,reduceCtorEq,h])|(refine hK _ _ ?_;clear hK K)|(refine PW.cond (t:=_) rfl (fun h=> ?_) (fun h=> ?_)<;>(try(cases h;done))<;>(try simp only[nqb]at h))));all_goals((refine PW.ret ⟨_,rfl,?_⟩;first|refine .inl ⟨?_,rfl⟩|refine Fin.base (.id' ?_ (.bool _))|refine Fin.base (.id' ?_ (.int _ _)));(simp_all[win,slot,qB]<;>first|rfl|omega|(rw[qA];simp;done)|(rw[qA];simp;omega)))
theorem ziM(x:Int)(H:za):CallOk Tryz.prog 272 [.int .i64 x] H (.bool (win x 4095)) H:=by refine CallOk.go Tryz.func272 Tryz.ntmps272 Tryz.results272 ?_;(repeat'(first|refine PW.seq ?_|refine PW.skip ?_|refine PW.block ?_|((first|refine PW.rg rfl fun K hK=> ?_|refine PW.draw mix kr fun K hK=> ?_);simp(disch:=omega) only[go_sem,↓reduceIte,reduceCtorEq])|((first|refine zh ?_ ?_|refine ze ?_ ?_|refine And.intro ?_ ?_)<;>intro h<;>(try simp only[nqb]at h)<;>simp(disch:=omega) only[go_sem,↓reduceIte,reduceCtorEq,h])|(refine hK _ _ ?_;clear hK K)|(refine PW.cond (t:=_) rfl (fun h=> ?_) (fun h=> ?_)<;>(try(cases h;done))<;>(try simp only[nqb]at h))));all_goals((refine PW.ret ⟨_,rfl,?_⟩;first|refine .inl ⟨?_,rfl⟩|refine Fin.base (.id' ?_ (.bool _))|refine Fin.base (.id' ?_ (.int _ _)));(simp_all[win,slot,qB]<;>first|rfl|omega|(rw[qA];simp;done)|(rw[qA];simp;omega)))
def vrg(x y:Int):Bool:=win x 63&&win y 63
theorem zuo(x y:Int)(H:za):CallOk Tryz.prog 254 [.agg [.int .i64 x,.int .i64 y]] H (.bool (vrg x y)) H:=by refine CallOk.go Tryz.func254 Tryz.ntmps254 Tryz.results254 ?_;(repeat'(first|refine PW.seq ?_|refine PW.skip ?_|refine PW.block ?_|((first|refine PW.rg rfl fun K hK=> ?_|refine PW.draw mix kr fun K hK=> ?_);simp(disch:=omega) only[go_sem,↓reduceIte,reduceCtorEq])|((first|refine zh ?_ ?_|refine ze ?_ ?_|refine And.intro ?_ ?_)<;>intro h<;>(try simp only[nqb]at h)<;>simp(disch:=omega) only[go_sem,↓reduceIte,reduceCtorEq,h])|((first|refine VCx.call (zfs x 63 _ om) rfl ?_|refine VCx.call (zfs y 63 _ om) rfl ?_|refine VCy.call (zfs x 63 _ om) rfl ?_|refine VCy.call (zfs y 63 _ om) rfl ?_);simp(disch:=omega) only[go_sem,↓reduceIte,reduceCtorEq])|(refine hK _ _ ?_;clear hK K)|(refine PW.cond (t:=_) rfl (fun h=> ?_) (fun h=> ?_)<;>(try(cases h;done))<;>(try simp only[nqb]at h))));all_goals((refine PW.ret ⟨_,rfl,?_⟩;first|refine .inl ⟨?_,rfl⟩|refine Fin.base (.id' ?_ (.bool _))|refine Fin.base (.id' ?_ (.int _ _)));(simp_all[vrg,slot,qB]<;>first|rfl|omega|(rw[qA];simp;done)|(rw[qA];simp;omega)))
theorem ziO(x y:Int)(H:za):CallOk Tryz.prog 271 [.agg [.int .i64 x,.int .i64 y]] H (.bool (vrg x y)) H:=by refine CallOk.go Tryz.func271 Tryz.ntmps271 Tryz.results271 ?_;(repeat'(first|refine PW.seq ?_|refine PW.skip ?_|refine PW.block ?_|((first|refine PW.rg rfl fun K hK=> ?_|refine PW.draw mix kr fun K hK=> ?_);simp(disch:=omega) only[go_sem,↓reduceIte,reduceCtorEq])|((first|refine zh ?_ ?_|refine ze ?_ ?_|refine And.intro ?_ ?_)<;>intro h<;>(try simp only[nqb]at h)<;>simp(disch:=omega) only[go_sem,↓reduceIte,reduceCtorEq,h])|(refine hK _ _ ?_;clear hK K)|(refine PW.cond (t:=_) rfl (fun h=> ?_) (fun h=> ?_)<;>(try(cases h;done))<;>(try simp only[nqb]at h))));all_goals((refine PW.ret ⟨_,rfl,?_⟩;first|refine .inl ⟨?_,rfl⟩|refine Fin.base (.id' ?_ (.bool _))|refine Fin.base (.id' ?_ (.int _ _)));(simp_all[vrg,win,slot,qB]<;>first|rfl|omega|(rw[qA];simp;done)|(rw[qA];simp;omega)))
theorem zuZ(c:Cx)(m:Mb)(i:Nat)(H:za)(hi:H[i]? =some (mB m)):CallOk Tryz.prog 299 [.agg (cxc c),.ptr i 0 0] H (.bool (m.fp||fcx c)) H:=by obtain⟨k,ua,ub,fp,fd,va,vb,vc,vd,ve,vf,vg,vh,sa,sb,sc,sd,dl,ca,cb,cc,cd,ce,cf,lv⟩:=m;simp only[mB,mbc]at hi;have hx:=fun K=>zb0 (K:=K) hi;have fo:=fun H=>zvJ c H;obtain⟨t,s,ii,n⟩:=c;refine CallOk.body (F0:=[(0,.agg [.int .i64 t,.int .i64 s,.bool ii,.bool n]),(1,.ptr i 0 0)]) Tryz.func299 rfl Tryz.ntmps299 Tryz.results299 rfl kr rfl ?_;(repeat'(first|refine PW.seq ?_|refine PW.skip ?_|refine PW.block ?_|((first|refine PW.rg rfl fun K hK=> ?_|refine PW.draw mix kr fun K hK=> ?_);simp(disch:=omega) only[go_sem,↓reduceIte,reduceCtorEq,hi,hx])|((first|refine zh ?_ ?_|refine ze ?_ ?_|refine And.intro ?_ ?_)<;>intro h<;>(try simp only[nqb]at h)<;>simp(disch:=omega) only[go_sem,↓reduceIte,reduceCtorEq,hi,hx,h])|((first|refine VCx.call (fo _) rfl ?_|refine VCy.call (fo _) rfl ?_);simp(disch:=omega) only[go_sem,↓reduceIte,reduceCtorEq,hi,hx])|(refine hK _ _ ?_;clear hK K)|(refine PW.cond (t:=_) rfl (fun h=> ?_) (fun h=> ?_)<;>(try(cases h;done))<;>(try simp only[nqb]at h))));all_goals((refine PW.ret ⟨_,rfl,?_⟩;first|refine .inl ⟨?_,rfl⟩|refine Fin.base (.id' ?_ (.bool _))|refine Fin.base (.id' ?_ (.int _ _)));clear hi hx fo;(simp_all[slot,qB]<;>first|rfl|omega|(rw[qA];simp;done)|(rw[qA];simp;omega)))
theorem ztj(m:Mb)(H:za)(hl:m.lv.length=384):CallOk Tryz.prog 277 [.agg (mbc m)] H (.bool (hlM m)) H:=by
 obtain⟨k,ua,ub,fp,fd,va,vb,vc,vd,ve,vf,vg,vh,sa,sb,sc,sd,dl,ca,cb,cc,cd,ce,cf,lv⟩:=m;have hall:(is lv).all PV.cell=true:=by simp[is,PV.cell]
 refine CallOk.body (F0:=[(0,.agg (.int .i64 k:: .bool ua:: .bool ub:: .bool fp:: .bool fd:: .int .i64 va:: .int .i64 vb:: .int .i64 vc:: .int .i64 vd:: .int .i64 ve:: .int .i64 vf:: .int .i64 vg:: .int .i64 vh:: .int .i64 sa:: .int .i64 sb:: .int .i64 sc:: .int .i64 sd:: .int .i64 dl:: .bool ca:: .bool cb:: .bool cc:: .bool cd:: .bool ce:: .bool cf::is lv))]) Tryz.func277 rfl Tryz.ntmps277 Tryz.results277 rfl kr rfl ?_;(repeat'(first|refine PW.seq ?_|refine PW.skip ?_|refine PW.block ?_|((first|refine PW.rg rfl fun K hK=> ?_|refine PW.draw mix kr fun K hK=> ?_);simp(disch:=omega) only[go_sem,↓reduceIte,reduceCtorEq,hall])|((first|refine zh ?_ ?_|refine ze ?_ ?_|refine And.intro ?_ ?_)<;>intro h<;>(try simp only[nqb]at h)<;>simp(disch:=omega) only[go_sem,↓reduceIte,reduceCtorEq,hall,h])|(refine hK _ _ ?_;clear hK K)|(refine PW.cond (t:=_) rfl (fun h=> ?_) (fun h=> ?_)<;>(try(cases h;done))<;>(try simp only[nqb]at h))));all_goals((refine PW.ret ⟨_,rfl,?_⟩;first|refine .inl ⟨?_,rfl⟩|refine Fin.base (.id' ?_ (.bool _))|refine Fin.base (.id' ?_ (.int _ _)));cases ca<;>cases cb<;>cases cc<;>cases cd<;>cases ce<;>cases cf<;>(simp_all[hlM,zlm,slot,qB]<;>first|rfl|omega|(rw[qA];simp;done)|(rw[qA];simp;omega)))
theorem zaR(l:List Int):(is l).all PV.cell=true:=by unfold is;rw[List.all_map];exact List.all_eq_true.2 fun x _=>rfl
def cdl(m:Mb):List Bool:=[m.ca,m.cb,m.cc,m.cd,m.ce,m.cf]
def zl384:List Int:=qD 384 0
def zMb:Mb:=⟨0,false,false,false,false,0,0,0,0,0,0,0,0,0,0,0,0,0,false,false,false,false,false,false,zl384⟩
def zmv:List PV:=mbc zMb
theorem zw(m:Mb)(hl:m.lv.length=384):(mbc m).length=408:=by simp only[mbc,qH,zar,hl]
structure St where
 q:Int
 da:Int
 db:Int
 dc:Int
 va:Int
 vb:Int
 vc:Int
 vd:Int
def stc(s:St):List PV:=[.int .i64 s.q,.int .i64 s.da,.int .i64 s.db,.int .i64 s.dc,.int .i64 s.va,.int .i64 s.vb,.int .i64 s.vc,.int .i64 s.vd]
def st0(q:Int):St:=⟨q,0,0,0,0,0,0,0⟩
theorem zcU(s:St)(n:Nat):Scoped n (.agg (stc s)):=zaB fun x hx=>by simp only[stc,qU,qP,or_false]at hx;rcases hx with rfl|rfl|rfl|rfl|rfl|rfl|rfl|rfl<;>exact .int _ _
theorem zpm(q:Int)(H:za):CallOk Tryz.prog 110 [.int .i64 q] H (.agg (stc (st0 q))) H:=by refine CallOk.go Tryz.func110 Tryz.ntmps110 Tryz.results110 ?_;refine PW.e ?_;refine PW.e ?_;refine PW.v (.agg [.int .i64 q,.int .i64 0,.int .i64 0,.int .i64 0,.int .i64 0,.int .i64 0,.int .i64 0,.int .i64 0]) ?_;exact Fin.base (.id (zcU (st0 q) _))
theorem zaT(s:Sq):(sqc s).all PV.cell=true:=by simp[sqc,bs,PV.cell]
theorem zaP(s:Sq)(hs:SqOk s):(sqc s).length=135:=by obtain⟨_,_,_,_,_,_,h1,h2⟩:=hs;simp[sqc,zc,h1,h2]
theorem zdx(s:Sq)(hs:SqOk s):List.take 135 (sqc s)=sqc s:=qC (by rw[zaP s hs];exact qL _)
theorem ztL(s:Sq):(sqc s)[0]? =some (.int .i64 s.w):=rfl
theorem ztM(s:Sq):(sqc s)[4]? =some (.bool s.il):=rfl
def zdq(s:Sq)(p:Pi)(b:Bool):Bool:=zH s p&& !(b&&decide (p.st=3))
def cxP(s:Sq)(p:Pi)(b:Bool):Cx:=⟨p.ty,p.st,s.il,b⟩
theorem zs8(s:Sq)(p:Pi)(b:Bool)(H:za)(hs:SqOk s):CallOk Tryz.prog 107 [.agg (sqc s),.agg (pic p),.bool b] H (.bool (zdq s p b)) H:=by
 have pv:=fun K=>zd2 s p K hs;have h1:=zaT s;have h2:=zaP s hs;have h3:=zdx s hs;have hst:(p.st==3)=decide (p.st=3):=rfl;generalize hr:zdq s p b=r;unfold zdq at hr;generalize zH s p=v at *;refine CallOk.go Tryz.func107 Tryz.ntmps107 Tryz.results107 ?_;refine PW.f (fun K k=>by simp(disch:=omega) only[go_sem,↓reduceIte,reduceCtorEq,h1,pic];exact k) ?_;cases v<;>cases b;all_goals
  (repeat refine PW.seq ?_);refine PW.rg rfl fun K hK=> ?_;simp(disch:=omega) only[go_sem,↓reduceIte,reduceCtorEq,h2,h3];refine VCx.call (pv _) rfl ?_;simp(disch:=omega) only[go_sem,↓reduceIte,reduceCtorEq];refine hK _ _ ?_;clear hK K;refine PW.ret ⟨_,rfl,Fin.base (.id' ?_ (.bool _))⟩;subst hr;first|(simp[slot,qB];done)|(simp[slot,qB];rfl)
theorem zqF(s:Sq)(p:Pi)(b:Bool)(H:za)(hs:SqOk s):CallOk Tryz.prog 76 [.agg (sqc s),.agg (pic p),.bool b] H (.bool (zdq s p b)) H:=by
 have pv:=fun K=>zcZ s p K hs;have h1:=zaT s;have h2:=zaP s hs;have h3:=zdx s hs;generalize hr:zdq s p b=r;unfold zdq at hr;generalize zH s p=v at *;refine CallOk.go Tryz.func76 Tryz.ntmps76 Tryz.results76 ?_;refine PW.f (fun K k=>by simp(disch:=omega) only[go_sem,↓reduceIte,reduceCtorEq,h1,pic];exact k) ?_;cases v<;>cases b;all_goals
  (repeat refine PW.seq ?_);refine PW.rg rfl fun K hK=> ?_;simp(disch:=omega) only[go_sem,↓reduceIte,reduceCtorEq,h2,h3];refine VCx.call (pv _) rfl ?_;simp(disch:=omega) only[go_sem,↓reduceIte,reduceCtorEq];refine hK _ _ ?_;clear hK K;refine PW.ret ⟨_,rfl,Fin.base (.id' ?_ (.bool _))⟩;subst hr;first|(simp[slot,qB];done)|(simp[slot,qB];rfl)
theorem zvQ(s:Sq)(p:Pi)(b:Bool)(H:za)(hs:SqOk s):CallOk Tryz.prog 70 [.agg (sqc s),.agg (pic p),.bool b] H (.agg (cxc (cxP s p b))) H:=by
 have h1:=zaT s;have h2:=zaP s hs;have h4:=ztM s;refine CallOk.go Tryz.func70 Tryz.ntmps70 Tryz.results70 ?_;refine PW.f (fun K k=>by simp(disch:=omega) only[go_sem,↓reduceIte,reduceCtorEq,h1,pic];exact k) ?_;refine PW.g (nq2 h2 h4) ?_;refine PW.v (.agg [.int .i64 p.ty,.int .i64 p.st,.bool s.il,.bool b]) ?_;refine Fin.base (.id (zaB fun x hx=> ?_));simp only[qU,qP,or_false]at hx;rcases hx with rfl|rfl|rfl|rfl
 ·exact .int _ _
 ·exact .int _ _
 ·exact .bool _
 ·exact .bool _
theorem zti(s:Sq)(p:Pi)(b:Bool)(H:za)(hs:SqOk s):CallOk Tryz.prog 80 [.agg (sqc s),.agg (pic p),.bool b] H (.agg (cxc (cxP s p b))) H:=by
 have h1:=zaT s;have h2:=zaP s hs;have h4:=ztM s;refine CallOk.go Tryz.func80 Tryz.ntmps80 Tryz.results80 ?_;refine PW.f (fun K k=>by simp(disch:=omega) only[go_sem,↓reduceIte,reduceCtorEq,h1,pic];exact k) ?_;refine PW.g (nq2 h2 h4) ?_;refine PW.v (.agg [.int .i64 p.ty,.int .i64 p.st,.bool s.il,.bool b]) ?_;refine Fin.base (.id (zaB fun x hx=> ?_));simp only[qU,qP,or_false]at hx;rcases hx with rfl|rfl|rfl|rfl
 ·exact .int _ _
 ·exact .int _ _
 ·exact .bool _
 ·exact .bool _
theorem zw1(H K:za)(i:Nat)(h:i<H.length):(H++K)[i]? =H[i]? :=qT h
theorem zjo(H:za):CallOk Tryz.prog 152 [] H (.ptr H.length 0 0) (H++[⟨313,0,[.slice [] 0 true,.int .i64 0]⟩]):=by refine CallOk.go Tryz.func152 Tryz.ntmps152 Tryz.results152 ?_;refine PW.e ?_;refine PW.e ?_;exact PW.ret ⟨_,rfl,Fin.now⟩
theorem zuT(r:Nat)(h:r<8):128 / 2^r=1 * 2^(7 - r):=by have:r=0∨r=1∨r=2∨r=3∨r=4∨r=5∨r=6∨r=7:=om;rcases this with rfl|rfl|rfl|rfl|rfl|rfl|rfl|rfl<;>rfl
theorem zmP(k':IntKind)(r:Nat)(h:r<8):zaZ .shr .u8 128 k' (r:Int)=some (.int .u8 ((2^(7 - r):Nat):Int)):=by have:=zmO k' 128 r om;rw[zuT r h,qQ]at this;exact this
theorem zmR(V s:Nat)(h:V<256)(hs:s<8)(hz:V%2^(s+1)=0):zaZ .or .u8 (V:Int) .u8 ((2^s:Nat):Int)=some (.int .u8 ((V+2^s:Nat):Int)):=by have:=zpZ V s 1 h hs hz om;rwa[qQ]at this
theorem zvR(l:List Bool):zab (zaK (l.length / 8+1) [.int .u8 0]) 0 ((bs (pk l)).take (min (pk l).length (l.length / 8+1) * 1))=bs (zbq l):=by
 have hp:=zaf l;have hr:zaK (l.length / 8+1) [PV.int .u8 0]=qD (l.length / 8+1) (.int .u8 0):=by
  generalize l.length / 8+1=n;induction n with
  | zero=>rfl
  | succ n ih=>rw[qJ,←ih];simp[zaK,qJ]
 rw[hr,Nat.min_eq_left om,Nat.mul_one,qC (by rw[zc];exact qL _)];unfold zab zbq;rw[List.take_zero,List.nil_append,Nat.zero_add,zc,List.drop_replicate];split
 ·rw[zz,show l.length / 8+1 - (pk l).length=1 from om];rfl
 ·rw[show l.length / 8+1 - (pk l).length=0 from om];simp
theorem zey(i j:Nat)(l:List Bool)(H:za)(hA:H[i]? =some (wA j l))(hB:H[j]? =some (wB l))(hl:l.length≤1000000000):
  CallOk Tryz.prog 158 [.ptr i 0 0] H (.slice (bs (pk (l++[true]))) (pk (l++[true])).length false) H:=by
 have hi:=(qS.1 hA).1;have hj:=(qS.1 hB).1;have hpl:=zaf l;have hrl:=zil l;have hrb:=zim l;have hrs:=zik l true;have hpk:=zja l (l.length / 8);have hz:=zhe l (l.length / 8) (l.length%8) om (qM _ om);rw[show 8 - l.length%8=7 - l.length%8+1 from om]at hz;have hr8:l.length%8<8:=qM _ om;have hcp:=zvR l;have hpl1:(pk (l++[true])).length=l.length / 8+1:=by rw[zaf];simp;omega
 refine CallOk.go Tryz.func158 Tryz.ntmps158 Tryz.results158 ?_;refine PW.e ?_;refine PW.g hA ?_;refine PW.us ?_;obtain⟨N,hN⟩:∃ N,N=l.length / 8+1:=⟨_,rfl⟩;rw[←hN]at hcp hrl hpl1;have e5:((l.length / 8:Nat):Int)+1=(N:Int):=om;refine PW.f (fun K k=>by simp(disch:=omega) only[go_sem,↓reduceIte,reduceCtorEq,hA,wA,zif,e5];exact k) ?_;have hcl:(qD N [PV.int .u8 0]).flatten.length=N:=by simp
 refine PW.to [0,3] [(0,.ptr i 0 0),(3,.msl H.length 0 0 N 1 true)] (H++[⟨5,0,bs (zbq l)⟩]) ?_ ?_
 ·refine PW.f (fun K k=>by simp(disch:=omega) only[go_sem,↓reduceIte,reduceCtorEq,zw1,hA,hB,wA,wB,zc,hcl];exact k) ?_;refine⟨rfl,?_⟩;rw[←hcp];have htk:List.take (pk l).length (bs (pk l))=bs (pk l):=qC (by rw[zc];exact qL _);simp[zab,zaK,zc,htk]
 generalize hq:l.length / 8=q at *;generalize hp:pkN l q=v at *;generalize hs:7 - l.length%8=s at *;have hsum:v+2^s<256:=by have h3:s=0∨s=1∨s=2∨s=3∨s=4∨s=5∨s=6∨s=7:=om;rcases h3 with h3|h3|h3|h3|h3|h3|h3|h3;all_goals(rw[h3]at hz ⊢;simp at hz ⊢;omega)
 (repeat refine PW.seq ?_);refine PW.draw mix kr fun K hK=> ?_;simp(disch:=omega) only[go_sem,↓reduceIte,reduceCtorEq,zw1,hA,wA,zif,zke,zc,zK,hq,hs,hrb,zmP,zmR,zjM];refine hK _ _ ?_;clear hK K;refine PW.e ?_;refine PW.ret ⟨_,rfl,?_⟩;simp only[slot,qB];rw[hpl1];have hrs':(zbq l).set q (UInt8.ofNat (v+2^s))=pk (l++[true]):=by rw[←hrs,show true.toNat=1 from rfl,qQ]
 rw[hrs'];exact Fin.base (Fz.mslC (e:=5) (xs:=bs (pk (l++[true]))) (qL _) sp (by rw[zc,hpl1];omega) (FzC.refl (zo _ _)))
def zb(l:List Bool):List UInt8:=l.map fun b=>if b then 1 else 0
theorem zP(l:List Bool):(zb l).length=l.length:=by simp[zb]
theorem zcx(l m:List Bool):zb (l++m)=zb l++zb m:=by simp[zb]
theorem zoC(l:List Bool)(i:Nat)(h:i<l.length):byt (zb l) i=(bn l i:Int):=by simp only[byt,zb,bn,List.getD,List.getElem?_map,qE h,qO,Option.getD_some];cases l[i]<;>rfl
theorem zvV(m:Nat):bs (zb [decide (m%2=1)])=[.int .u8 ((m%2:Nat):Int)]:=by rcases Nat.mod_two_eq_zero_or_one m with h|h<;>simp[zb,bs,h]
theorem zaN(V n:Nat)(H:za)(hn:n≤32):CallOk Tryz.prog 191 [.int .u32 (V:Int),.int .i64 (n:Int)] H (.msl H.length (bs (zb (zj V n))).length 0 n 1 true) (H++[⟨5,(bs (zb (zj V n))).length,bs (zb (zj V n))⟩]):=by
 refine CallOk.go Tryz.func191 Tryz.ntmps191 Tryz.results191 ?_;refine PW.e ?_;refine PW.e ?_;refine PW.e ?_;(repeat refine PW.seq ?_);refine PW.view (Vs.ghost 5 5 1 rfl) ?_;refine PW.block (PW.loop ?_);suffices hloop:∀(k:Nat),k≤n→PL Tryz.prog _ _ [(0,.int .u32 (V:Int)),(5,.msl H.length (bs (zb ((zj V n).take k))).length 0 k 1 true),(6,.int .i64 ((n:Int) - 1 - (k:Int)))] (H++[⟨5,(bs (zb ((zj V n).take k))).length,bs (zb ((zj V n).take k))⟩]) _ by exact PL.at [0,5,6] (hloop 0 (Nat.zero_le _)) (by simp(disch:=omega) only[go_sem,↓reduceIte,reduceCtorEq];simp[zb,bs]) (by simp[zb,bs])
 intro k hk;have hl:(zb ((zj V n).take k)).length=k:=by rw[zP,List.length_take,zm];omega
 induction hm:n - k using Nat.strongRecOn generalizing k with
 | _ m ih=>
  refine PL.round ?_;refine PW.e ?_;refine PW.c (fun h=> ?_) (fun h=> ?_)
  ·have h4:k<n:=ot h;have e1:(n:Int) - 1 - (k:Int)=((n - 1 - k:Nat):Int):=om;have htk:=zgK V n k h4;have hb1:=zvV (V / 2^(n - 1 - k));have hmd:V / 2^(n - 1 - k)%2<2:=qM _ om;refine PW.skip ?_;refine PW.b ?_;refine PW.f (fun K k=>by simp(disch:=omega) only[go_sem,↓reduceIte,reduceCtorEq,e1,zgH,zeZ,zir,zc,hl];exact k) ?_;refine PW.e ?_;refine PL.at [0,5,6] (ih (n - (k+1)) om (k+1) om (by rw[zP,List.length_take,zm];omega) rfl) ?_ ?_
   ·rw[htk,zcx,zz,hb1];refine sqz ?_;have:((n - 1 - k:Nat):Int) - 1=(n:Int) - 1 - ((k+1:Nat):Int):=om;rw[this]
   ·rw[htk,zcx,zz,hb1]
  ·have h4:k=n:=ofF h;subst h4;have htk:(zj V k).take k=zj V k:=qC (by rw[zm];exact qL _);rw[htk]at hl ⊢;refine PW.exit ?_;refine PW.e ?_;exact PW.ret ⟨_,rfl,Fin.now⟩
def pkf(N:Nat)(M:List Bool):List UInt8:=(List.range N).map (pkB M)
theorem zc3(N:Nat)(M:List Bool):(pkf N M).length=N:=by simp[pkf]
theorem zsD(N:Nat)(M:List Bool)(i:Nat)(h:i<N):byt (pkf N M) i=(pkN M i:Int):=by simp[byt,pkf,h,zmS]
theorem zkH(N:Nat)(M:List Bool)(b:Bool)(h:M.length / 8<N):pkf N (M++[b])=(pkf N M).set (M.length / 8) (UInt8.ofNat (pkN M (M.length / 8)+b.toNat * 2^(7 - M.length%8))):=by
 apply qN;intro i;rw[List.getElem?_set];by_cases hN:i<N
 ·by_cases h2:i=M.length / 8
  ·subst h2;rw[if_pos rfl,if_pos (by rw[zc3];exact hN)];simp[pkf,hN,pkB,zhf M b (M.length / 8) (M.length%8) om (qM _ om)]
  ·rw[if_neg om];simp only[pkf,List.getElem?_map,List.getElem?_range hN,qO,pkB];congr 2;rcases Nat.lt_or_gt_of_ne h2 with h3|h3
   ·exact zdD M b (M.length / 8) i om h3
   ·rw[zdC (M++[b]) i (by simp;omega),zdC M i om]
 ·rw[qG (by rw[zc3];omega)];split
  ·rename_i e;subst e;rw[if_neg (by rw[zc3];omega)]
  ·rw[qG (by rw[zc3];omega)]
theorem zp5(N:Nat)(M:List Bool)(h:M.length / 8<N):pkf N (M++[false])=pkf N M:=by
 rw[zkH N M false h];apply qN;intro i;rw[List.getElem?_set];split
 ·rename_i e;subst e;rw[if_pos (by rw[zc3];exact h)];simp[pkf,h,pkB]
 ·rfl
theorem zva(l:List Bool):pkf (l.length / 8+1) (l++[true])=pk (l++[true]):=by unfold pkf pk;rw[show((l++[true]).length+7) / 8=l.length / 8+1 by simp;omega]
theorem zsC(N:Nat):bs (pkf N [])=zaK N [.int .u8 0]:=by
 have h1:zaK N [PV.int .u8 0]=qD N (.int .u8 0):=by
  induction N with
  | zero=>rfl
  | succ n ih=>rw[qJ,←ih];simp[zaK,qJ]
 have h2:pkf N []=qD N 0:=by
  apply qN;intro i;by_cases h:i<N
  ·simp[pkf,h,pkB,zdC [] i sp]
  ·rw[qG (by rw[zc3];omega),qG (by simp;omega)]
 rw[h1,h2,zrq]
set_option maxRecDepth 10000 in
theorem zdH(l:List Bool)(f:Bool)(H:za)(hl:l.length≤1000000000):
  CallOk Tryz.prog 269 [.slice (bs (zb l)) l.length f] H (.slice (bs (pk (l++[true]))) (pk (l++[true])).length false) H:=by
 obtain⟨N,hN⟩:∃ N,N=l.length / 8+1:=⟨_,rfl⟩;have hpl1:(pk (l++[true])).length=N:=by rw[zaf];simp;omega
 have e5:((l.length / 8:Nat):Int)+1=(N:Int):=om;refine CallOk.go Tryz.func269 Tryz.ntmps269 Tryz.results269 ?_;refine PW.e ?_;refine PW.f (fun K k=>by simp(disch:=omega) only[go_sem,↓reduceIte,reduceCtorEq,zif,e5];exact k) ?_;refine PW.e ?_;refine PW.l ?_;suffices hloop:∀(k:Nat),k≤l.length+1→PL Tryz.prog _ _ [(0,.slice (bs (zb l)) l.length f),(3,.msl H.length 0 0 N 1 true),(4,.int .i64 (k:Int))] (H++[⟨5,0,bs (pkf N ((l++[true]).take k))⟩]) _ by exact PL.at [0,3,4] (hloop 0 (Nat.zero_le _)) rfl (by rw[List.take_zero,zsC];rfl)
 intro k hk;induction hm:l.length+1 - k using Nat.strongRecOn generalizing k with
 | _ m ih=>
  refine PL.round ?_;refine PW.e ?_;refine PW.c (fun h=> ?_) (fun h=> ?_)
  ·have h4:k≤l.length:=ot h;have hM:((l++[true]).take k).length=k:=by simp;omega
   have hbit:bn (l++[true]) k=if k=l.length then 1 else bn l k:=by rw[zjN];rfl
   obtain⟨b,hb⟩:∃ b,b=(l++[true])[k]?.getD false:=⟨_,rfl⟩;have hts:(l++[true]).take (k+1)=(l++[true]).take k++[b]:=by rw[List.take_succ_eq_append_getElem (by simp;omega),hb,qE (by simp;omega)];rfl
   have hbn:b.toNat=bn (l++[true]) k:=by rw[hb];rfl
   have hzb:k<l.length→byt (zb l) k=(b.toNat:Int):=fun hlt=>by rw[zoC l k hlt,hbn,hbit,if_neg om]
   have hkN:k / 8<N:=om;have hps:=zkH N ((l++[true]).take k) b (by rw[hM];exact hkN);have hpf:=zp5 N ((l++[true]).take k) (by rw[hM];exact hkN);have hpb:=zsD N ((l++[true]).take k) (k / 8) hkN;have hpk:=zja ((l++[true]).take k) (k / 8);have hz:=zhe ((l++[true]).take k) (k / 8) (k%8) (by rw[hM];omega) (qM _ om);rw[show 8 - k%8=7 - k%8+1 from om]at hz;rw[hM]at hps;have hnext:=ih (l.length+1 - (k+1)) om (k+1) om rfl;rw[hts]at hnext;generalize (l++[true]).take k=M at *;have hpfl:=zc3 N M;refine PW.skip ?_;refine PW.to [0,3,4] [(0,.slice (bs (zb l)) l.length f),(3,.msl H.length 0 0 N 1 true),(4,.int .i64 (k:Int))] (H++[⟨5,0,bs (pkf N (M++[b]))⟩]) ?_ ?_
   ·refine PW.b ?_;(repeat refine PW.seq ?_);refine PW.rgv (P:=Tryz.prog) [0,3,4] 26 (.bool b) ?_ ?_ ?_
    ·rfl
    ·rcases Nat.lt_or_ge k l.length with h5|h5;rotate_left
     ·have h5:k=l.length:=om;have hb1:b=true:=by rw[hbit,if_pos h5]at hbn;cases b<;>simp at hbn ⊢
      simp(disch:=omega) only[go_sem,↓reduceIte,reduceCtorEq];(repeat'((first|refine zh ?_ ?_|refine ze ?_ ?_|refine zZ ?_ ?_|refine VOh_cond ?_ ?_|refine zY ?_ ?_|refine And.intro ?_ ?_)<;>intro h<;>(try simp only[nqb]at h)<;>simp(disch:=omega) only[go_sem,↓reduceIte,reduceCtorEq,h]));all_goals(simp_all[slot,qB]<;>first|rfl|omega|(rw[qA];simp;done)|(rw[qA];simp;omega))
     ·have h6:=hzb om;have hg:(bs (zb l))[k]? =some (.int .u8 (b.toNat:Int)):=by rw[zK _ _ (by rw[zP];exact h5),h6]
      simp(disch:=omega) only[go_sem,↓reduceIte,reduceCtorEq,zP,zc,hg];(repeat'((first|refine zh ?_ ?_|refine ze ?_ ?_|refine zZ ?_ ?_|refine VOh_cond ?_ ?_|refine zY ?_ ?_|refine And.intro ?_ ?_)<;>intro h<;>(try simp only[nqb]at h)<;>simp(disch:=omega) only[go_sem,↓reduceIte,reduceCtorEq,zP,zc,hg,h]));all_goals(clear hnext ih hps hpf hts;cases b<;>simp)
    refine PW.c (fun h=> ?_) (fun h=> ?_)
    ·subst h;generalize hq:k / 8=q at *;generalize hp:pkN M q=v at *;have hs7:7 - k%8<8:=om;have hk8:k%8<8:=qM _ om;generalize hs:7 - k%8=s at *;have hsum:v+2^s<256:=by have h3:s=0∨s=1∨s=2∨s=3∨s=4∨s=5∨s=6∨s=7:=om;rcases h3 with h3|h3|h3|h3|h3|h3|h3|h3;all_goals(rw[h3]at hz ⊢;simp at hz ⊢;omega)
     refine PW.f (fun K k=>by simp(disch:=omega) only[go_sem,↓reduceIte,reduceCtorEq,zif,zke,zc,hpfl,zK,hq,hs,hpb,zgH,zmP,zmR,zjM];exact k) ?_;refine⟨rfl,?_⟩;rw[hps,show true.toNat=1 from rfl,qQ]
    ·subst h;refine PW.skip ⟨rfl,?_⟩;rw[hpf]
   refine PW.e ?_;exact PL.at [0,3,4] hnext rfl rfl
  ·have h4:k=l.length+1:=ofF h;subst h4;rw[qC sp,hN,zva];rw[hN]at hpl1;refine PW.exit ?_;refine PW.e ?_;refine PW.ret ⟨_,rfl,?_⟩;simp only[slot,qB];rw[hpl1];exact Fin.base (Fz.mslC (e:=5) (xs:=bs (pk (l++[true]))) (qL _) sp (by rw[zc,hpl1];omega) (FzC.refl (zo _ _)))
end Go.Proofs.YtpjlfoficnpfoaaGreatDoor.Sc
