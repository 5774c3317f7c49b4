/-
  Parts of the proof. No condition.
-/
import Derived.Test.YtleejngibkbjnaaGreatDoorW05
import Derived.Test.YtleejngibkbjnaaGreatDoorW12
open Go.Proofs.Tryz
set_option linter.all false
set_option maxRecDepth 100000
set_option maxHeartbeats 32000000
namespace Go.Proofs.YtleejngibkbjnaaGreatDoor.Sc
open Pm Ty Go.RowKit
theorem zab(s:Sq):(sqc s).all PV.cell=true:=by simp[sqc,bs,PV.cell]
theorem zaj(s:Sq)(hs:SqOk s):(sqc s).length=135:=by obtain⟨_,_,_,_,_,_,h1,h2⟩:=hs;simp[sqc,zd,h1,h2]
theorem zbu(s:Sq)(hs:SqOk s):List.take 135 (sqc s)=sqc s:=gH (by rw[zaj s hs];exact gV _)
theorem zoM(s:Sq):(sqc s)[0]? =some (.int .i64 s.w):=rfl
theorem zwQ(s:Sq):(sqc s)[4]? =some (.bool s.il):=rfl
def zcq(s:Sq)(p:Pi)(b:Bool):Bool:=zB s p&& !(b&&decide (p.st=3))
def cxP(s:Sq)(p:Pi)(b:Bool):Cx:=⟨p.ty,p.st,s.il,b⟩
theorem zpv(s:Sq)(p:Pi)(b:Bool)(H:za)(hs:SqOk s):CallOk prog 78 [.agg (sqc s),.agg (pic p),.bool b] H (.bool (zcq s p b)) H:=by
 have pv:=λK=>zdf s p K hs;have h1:=zab s;have h2:=zaj s hs;have h3:=zbu s hs;have hst:(p.st==3)=decide (p.st=3):=rfl;generalize hr:zcq s p b=r;unfold zcq at hr;generalize zB s p=v at *;refine .go func78 ntmps78 results78 ?_;refine .g (nq2 h1 @pic.eq_1) ?_;cases v<;>cases b;all_goals
  refine .x λK hK=> ?_;simp(disch:=omega) only[go_sem,h2,h3];refine VCx.call (pv _) rfl ?_;simp(disch:=omega) only[go_sem];refine hK _ _ ?_;clear hK K;refine .ret ⟨_,rfl,Fin.base (.id' ?_ (.bool _))⟩;subst hr;first|(simp[slot,Nat.beq];done)|(simp[slot,Nat.beq];rfl)
theorem zmu(s:Sq)(p:Pi)(b:Bool)(H:za)(hs:SqOk s):CallOk prog 102 [.agg (sqc s),.agg (pic p),.bool b] H (.bool (zcq s p b)) H:=by
 have pv:=λK=>zbj s p K hs;have h1:=zab s;have h2:=zaj s hs;have h3:=zbu s hs;generalize hr:zcq s p b=r;unfold zcq at hr;generalize zB s p=v at *;refine .go func102 ntmps102 results102 ?_;refine .g (nq2 h1 @pic.eq_1) ?_;cases v<;>cases b;all_goals
  refine .x λK hK=> ?_;simp(disch:=omega) only[go_sem,h2,h3];refine VCx.call (pv _) rfl ?_;simp(disch:=omega) only[go_sem];refine hK _ _ ?_;clear hK K;refine .ret ⟨_,rfl,Fin.base (.id' ?_ (.bool _))⟩;subst hr;first|(simp[slot,Nat.beq];done)|(simp[slot,Nat.beq];rfl)
theorem zt9(s:Sq)(p:Pi)(b:Bool)(H:za)(hs:SqOk s):CallOk prog 48 [.agg (sqc s),.agg (pic p),.bool b] H (.agg (cxc (cxP s p b))) H:=by
 have h1:=zab s;have h2:=zaj s hs;have h4:=zwQ s;refine .go func48 ntmps48 results48 ?_;refine .g (nq2 h1 @pic.eq_1) ?_;refine .g (nq2 h2 h4) ?_;refine .v (.agg [.int .i64 p.ty,.int .i64 p.st,.bool s.il,.bool b]) ?_;refine .base (.id (zn λx hx=> ?_));simp only[gM,gL,uA]at hx;rcases hx with rfl|rfl|rfl|rfl
 .exact .int _ _
 .exact .int _ _
 .exact .bool _
 .exact .bool _
theorem zk6(s:Sq)(p:Pi)(b:Bool)(H:za)(hs:SqOk s):CallOk prog 106 [.agg (sqc s),.agg (pic p),.bool b] H (.agg (cxc (cxP s p b))) H:=by
 have h1:=zab s;have h2:=zaj s hs;have h4:=zwQ s;refine .go func106 ntmps106 results106 ?_;refine .g (nq2 h1 @pic.eq_1) ?_;refine .g (nq2 h2 h4) ?_;refine .v (.agg [.int .i64 p.ty,.int .i64 p.st,.bool s.il,.bool b]) ?_;refine .base (.id (zn λx hx=> ?_));simp only[gM,gL,uA]at hx;rcases hx with rfl|rfl|rfl|rfl
 .exact .int _ _
 .exact .int _ _
 .exact .bool _
 .exact .bool _
end Go.Proofs.YtleejngibkbjnaaGreatDoor.Sc
