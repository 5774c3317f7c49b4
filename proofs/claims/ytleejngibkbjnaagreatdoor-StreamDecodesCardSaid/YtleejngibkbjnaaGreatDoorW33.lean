/-
  Parts of the proof. No condition.
-/
import Derived.Test.YtleejngibkbjnaaGreatDoorW32
import Derived.Test.YtleejngibkbjnaaGreatDoorW25
set_option linter.all false
set_option maxRecDepth 100000
set_option maxHeartbeats 32000000
namespace Go.Proofs.YtleejngibkbjnaaGreatDoor.Sc
open Pm Ty Go.RowKit
structure Cdd where
 p:Pi
 U:List (List UInt8)
 us:List (Int×List UInt8)
structure Sho where
 fr:Fm
 f:Int
 l:Int
 ty:Int
 ok:Bool
 fi:Int
 tf:Bool
def zkg:Sho:=⟨f0,0,0,0,false,0,false⟩
def zdP(s:Sq)(cs:List Cdd):Bool:=(cs.all λc=>zB s c.p)&&match cs with
 | [c]=>decide (c.p.st=3)
 | [c,d]=>zbn c.p&&za4 c.p d.p
 | _=>false
def zi6(a b:Fm):Fm:=zjY (a.w / 2).toNat (a.h / 2).toNat a b
def zfj(s:Sq)(cs:List Cdd)(pa fu:Fm):Fm×Bool×Int:=
 if zdP s cs then match cs with
  | [c]=>if(za9 s c.p c.us pa fu f0 false).2=0 then((za9 s c.p c.us pa fu f0 false).1.1,(za9 s c.p c.us pa fu f0 false).1.2.all id,0)else(f0,false,(za9 s c.p c.us pa fu f0 false).2)
  | [c,d]=>if(za9 s c.p c.us pa fu f0 false).2=0 then
    (if(za9 s d.p d.us pa fu (za9 s c.p c.us pa fu f0 false).1.1 true).2=0 then
     (if c.p.st=2 then zi6 (za9 s d.p d.us pa fu (za9 s c.p c.us pa fu f0 false).1.1 true).1.1 (za9 s c.p c.us pa fu f0 false).1.1 else zi6 (za9 s c.p c.us pa fu f0 false).1.1 (za9 s d.p d.us pa fu (za9 s c.p c.us pa fu f0 false).1.1 true).1.1,(za9 s c.p c.us pa fu f0 false).1.2.all id&&(za9 s d.p d.us pa fu (za9 s c.p c.us pa fu f0 false).1.1 true).1.2.all id,0)
     else(f0,false,(za9 s d.p d.us pa fu (za9 s c.p c.us pa fu f0 false).1.1 true).2))
   else(f0,false,(za9 s c.p c.us pa fu f0 false).2)
  | _=>(f0,false,1)
 else(f0,false,1)
def zcI(x:It):Cdd:=⟨x.p,x.U,x.us⟩
def zbm(L:List It)(e:Ent):List Cdd:=((L.drop e.1.f.toNat).take (e.1.l.toNat+1 - e.1.f.toNat)).map zcI
def zbc(l:List Sho)(n:Int):Sho:=if n<0 then zkg else(l[n.toNat]?).getD zkg
def shE(L:List It)(e:Ent)(l:List Sho):Sho:=⟨(zfj e.2.1 (zbm L e) (zbc l e.1.pa).fr (zbc l e.1.fu).fr).1,e.1.f,e.1.l,e.1.ty,((zfj e.2.1 (zbm L e) (zbc l e.1.pa).fr (zbc l e.1.fu).fr).2.1&&(decide (e.1.ty=1)||(zbc l e.1.pa).ok))&&(!decide (e.1.ty=3)||(zbc l e.1.fu).ok),if e.2.2.rp then 3 else 2,e.2.2.tf⟩
def dvN(L:List It)(es:List Ent):Nat->List Sho
 | 0=>[]
 | k+1=>dvN L es k++(match es[k]? with|some e=>[shE L e (dvN L es k)]|none=>[])
theorem zbX(L:List It)(es:List Ent):∀ k,k<=es.length->(dvN L es k).length=k
 | 0,_=>rfl
 | k+1,h=>by rw[dvN,gG om,gP,zbX L es k om];rfl
theorem ztZ(L:List It)(es:List Ent){j:Nat}:∀(k:Nat),j<k->k<=es.length->(dvN L es k)[j]? =(dvN L es (j+1))[j]?
 | 0,h,_=>om
 | k+1,h,hk=>by
  by_cases hj:j=k
  .rw[hj]
  .rw[dvN,gK (by rw[zbX L es k om];omega)];exact ztZ L es k om om
def zcm(L:List It)(es:List Ent):Nat->List Sho
 | 0=>List.replicate es.length zkg
 | k+1=>match es[k]? with|some e=>(zcm L es k).set e.1.sh.toNat (shE L e (dvN L es k))|none=>zcm L es k
theorem zb6(L:List It)(es:List Ent):∀ k,(zcm L es k).length=es.length
 | 0=>by simp[zcm]
 | k+1=>by
  rw[zcm];split
  .rw[gS,zb6 L es k]
  .exact zb6 L es k
theorem zo3{L:List It}{es:List Ent}(h:SInv L es):∀(k:Nat),k<=es.length->∀(j:Nat) (e:Ent),j<k->es[j]? =some e->(zcm L es k)[e.1.sh.toNat]? =(dvN L es k)[j]?
 | 0,_,j,_,hj,_=>om
 | k+1,hk,j,e,hj,he=>by
  have hkk:k<es.length:=om;have hl:=zb6 L es k;have hs:=h.s k _ (gG hkk);rw[zcm,dvN,gG hkk];dsimp only;by_cases hjk:j=k
  .subst hjk;rw[gG hkk]at he;injection he with he;subst he;rw[vG,gD rfl,gD om,gN (by rw[zbX L es j om];exact gV _),zbX L es j om,vK];rfl
  .have hne:es[k].1.sh.toNat≠e.1.sh.toNat:=λhh=>by have hs2:=h.s j e he;have:=h.i j k e es[k] he (gG hkk) om;exact hjk this
   rw[vG,gC hne,gK (by rw[zbX L es k om];omega)];exact zo3 h k om j e om he
def zvi(es:List Ent)(out:List Sho)(n:Int):Sho:=if n<0 then zkg else match es[n.toNat]? with|some e=>(out[e.1.sh.toNat]?).getD zkg|none=>zkg
theorem zoU{L:List It}{es:List Ent}(h:SInv L es){k:Nat}(hk:k<=es.length){n:Int}(hn: -1<=n/\n<k):zvi es (zcm L es k) n=zbc (dvN L es k) n:=by
 unfold zvi zbc;by_cases h0:n<0
 .rw[gD h0,gD h0]
 .rw[gC h0,gC h0,gG (show n.toNat<es.length from om)];dsimp only;rw[zo3 h k hk n.toNat _ om (gG om)]
def zk0(L:List It):List Sho:=zcm L (zd7 L) (zd7 L).length
def shV(cs:List Cdd)(e:Ent)(a b:Sho):Sho:=⟨(zfj e.2.1 cs a.fr b.fr).1,e.1.f,e.1.l,e.1.ty,((zfj e.2.1 cs a.fr b.fr).2.1&&(decide (e.1.ty=1)||a.ok))&&(!decide (e.1.ty=3)||b.ok),if e.2.2.rp then 3 else 2,e.2.2.tf⟩
theorem zzQ(L:List It)(e:Ent)(l:List Sho):shE L e l=shV (zbm L e) e (zbc l e.1.pa) (zbc l e.1.fu):=rfl
theorem ziR(L:List It):(zk0 L).length=(zd7 L).length:=zb6 _ _ _
end Go.Proofs.YtleejngibkbjnaaGreatDoor.Sc
