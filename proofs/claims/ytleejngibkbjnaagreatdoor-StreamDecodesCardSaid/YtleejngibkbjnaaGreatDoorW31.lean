/-
  Parts of the proof. No condition.
-/
import Derived.Test.YtleejngibkbjnaaGreatDoorW04
open Go.Proofs.Tryz
set_option linter.all false
set_option maxRecDepth 100000
set_option maxHeartbeats 32000000
namespace Go.Proofs.YtleejngibkbjnaaGreatDoor.Sc
open Pm Ty Go.RowKit
structure SqL(s:Sq):Prop where
 ia:s.ia.length=64
 ie:s.ie.length=64
theorem SqOk.toL{s:Sq}(h:SqOk s):SqL s:=⟨h.ia,h.ie⟩
theorem zv5(xs ys:List PV):za0 prog 11 35 (.agg xs) (.agg ys)=if szT prog 5=some 1/\xs.length=64/\ys.length=64 then zel (.int .u8) xs ys else none:=kr
theorem zzE:szT prog 5=some 1:=kr
theorem eqU(p q:List UInt8)(h:p.length=64)(h':q.length=64):za0 prog 11 35 (.agg (bs p)) (.agg (bs q))=some (p==q):=by rw[zv5,gD ⟨zzE,by rw[zd];exact h,by rw[zd];exact h'⟩];exact zo1 .u8 p q (by rw[h,h'])
theorem zoV(xs:List PV)(off:Nat):rd prog 35 xs off=if off+64<=xs.length then some (.agg ((xs.drop off).take 64))else none:=kr
theorem zP(s:Sq)(hs:SqL s):(sqc s).length=135:=by simp only[sqc,gZ,gP,zd,hs.ia,hs.ie]
theorem zzV(s:Sq)(hs:SqL s):rd prog 35 (sqc s) 7=some (.agg (bs s.ia)):=by rw[zoV,gD (by rw[zP s hs];omega)];rw[show(sqc s).drop 7=bs s.ia++bs s.ie from rfl,zgU _ _ hs.ia]
theorem zzU(s:Sq)(hs:SqL s):rd prog 35 (sqc s) 71=some (.agg (bs s.ie)):=by rw[zoV,gD (by rw[zP s hs];omega)];rw[show(sqc s).drop 71=(bs s.ia++bs s.ie).drop 64 from rfl,zgT _ _ hs.ia,zfx _ hs.ie]
def sqF(P:Program):List Field:=match P.underlying 37 with|some (.struct fs)=>fs.toList|_=>[]
def zxZ(P:Program):List Field:=(sqF P).take 6
def zx0(P:Program):List Field:=(sqF P).drop 6
theorem zo2(eq:TypeId->PV->PV->Option Bool)(P:Program)(xs ys:List PV)(s:List Field)(b:Bool)(hs:zcl eq P xs ys s=some b):∀(r:List Field) (a:Bool),zcl eq P xs ys r=some a->zcl eq P xs ys (r++s)=some (a&&b)
 | [],a,h=>by
  cases h;exact hs
 | f::r,a,h=>by
  rw [uZ];revert h;simp only [zcl];cases decide (f.name = "_") with
  | true=>intro h;cases h
  | false=>
   cases rd P f.type xs f.offset with
   | none=>intro h;cases h
   | some x=>
    cases rd P f.type ys f.offset with
    | none=>intro h;cases h
    | some y=>
     dsimp only;cases eq f.type x y with
     | none=>intro h;cases h
     | some c=>
      dsimp only;cases hq:zcl eq P xs ys r with
      | none=>intro h;cases h
      | some q=>rw[zo2 eq P xs ys s b hs r q hq];intro h;cases h;simp[mO]
def sqA(s t:Sq):Bool:=(s.w==t.w)&&((s.h==t.h)&&(((s.num==t.num)&&((s.den==t.den)&&true))&&((s.il==t.il)&&((s.br==t.br)&&((s.bf==t.bf)&&true)))))
def sqE(s t:Sq):Bool:=sqA s t&&((s.ia==t.ia)&&((s.ie==t.ie)&&true))
theorem sq6(a1 a2 a3 a4:Int)(a5:Bool)(a6 a7:Int)(p q:List UInt8)(b1 b2 b3 b4:Int)(b5:Bool)(b6 b7:Int)(p' q':List UInt8):zcl (za0 prog 11) prog (sqc ⟨a1,a2,a3,a4,a5,a6,a7,p,q⟩) (sqc ⟨b1,b2,b3,b4,b5,b6,b7,p',q'⟩) (zxZ prog)=some (sqA ⟨a1,a2,a3,a4,a5,a6,a7,p,q⟩ ⟨b1,b2,b3,b4,b5,b6,b7,p',q'⟩):=kr
theorem zu9(xs ys:List PV)(x y x' y':PV)(b b':Bool)(hx:rd prog 35 xs 7=some x)(hy:rd prog 35 ys 7=some y)(hb:za0 prog 11 35 x y=some b)(hx':rd prog 35 xs 71=some x')(hy':rd prog 35 ys 71=some y')(hb':za0 prog 11 35 x' y'=some b'):zcl (za0 prog 11) prog xs ys (zx0 prog)=some (b&&(b'&&true)):=by
 have e:zcl (za0 prog 11) prog xs ys (zx0 prog)=match rd prog 35 xs 7,rd prog 35 ys 7 with
   | some a,some b=>match za0 prog 11 35 a b with
    | some c=>(match rd prog 35 xs 71,rd prog 35 ys 71 with
     | some a,some b=>match za0 prog 11 35 a b with
      | some c=>some (c&&true)
      | none=>none
     | _,_=>none).map λq=>c&&q
    | none=>none
   | _,_=>none:=kr
 rw[e,hx,hy,hx',hy'];simp only[hb,hb',vM]
theorem zvx(xs ys:List PV):za0 prog 12 37 (.agg xs) (.agg ys)=zcl (za0 prog 11) prog xs ys ((zxZ prog)++(zx0 prog)):=kr
end Go.Proofs.YtleejngibkbjnaaGreatDoor.Sc
