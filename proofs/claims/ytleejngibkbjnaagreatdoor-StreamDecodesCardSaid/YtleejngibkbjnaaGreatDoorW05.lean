/-
  Parts of the proof. No condition.
-/
import Derived.Test.YtleejngibkbjnaaGreatDoorW04
open Nat renaming beq → qA
open Go.Proofs.Tryz
set_option linter.all false
set_option maxRecDepth 100000
set_option maxHeartbeats 32000000
namespace Go.Proofs.YtleejngibkbjnaaGreatDoor
namespace Sc
open Pm Ty Go.RowKit
def vsz(s:Sq):Bool:=mbs s.w 64&&mbs s.h 64&&(!s.il||(s.h.tmod 32==0))
def vrt(s:Sq):Bool:=zdU s.num s.den&&decide (1<=s.num)&&decide (s.num<=1048576)&&decide (s.den<=65536)
def vbr(s:Sq):Bool:=decide (1<=s.br)&&decide (s.br<=16777216)&&decide (1<=s.bf)&&decide (s.bf<=8388608)
def vbu(s:Sq):Bool:=decide (3 * s.den * s.br+32 * s.num<=2 * s.num * s.bf)
def zbJ(s:Sq):Bool:=vsz s&&(vrt s&&(vbr s&&(vbu s&&(zaM s.ia&&zaM s.ie))))
theorem zjt{num den:Int}(h:zdU num den=true):1<=den:=by simp[zdU]at h;exact h.1.1
theorem zhn{a b:Int}{A B:Int}(ha:0<=a)(hA:a<=A)(hb:0<=b)(hB:b<=B):0<=a * b/\a * b<=A * B:=⟨mJ ha hb,mK hA hB hb (Int.le_trans ha hA)⟩
theorem zoy(s:Sq)(H:za)(hs:SqOk s):CallOk prog 76 [.agg (sqc s)] H (.bool (zbJ s)) H:=by
 obtain⟨hw,hh,hnum,hden,hbr,hbf,hia,hie⟩:=hs;have hall:(bs s.ia++bs s.ie).all PV.cell=true:=by simp[bs,PV.cell]
 refine .go func76 ntmps76 results76 ?_;refine .g (nq2 @sqc.eq_1 hall) ?_;refine .seq (PW.seq (PW.rgv [1] 22 (.bool (!vsz s)) rfl ?_ ?_))
 .simp(disch:=omega) only[go_sem];(repeat'(first|((first|refine zg ?_ ?_|refine zr ?_ ?_|refine zr ?_ ?_|refine VOh_cond ?_ ?_|refine zV ?_ ?_|refine uI ?_ ?_)<;>intro h<;>(try simp only[nqb]at h)<;>simp(disch:=omega) only[go_sem,h])|((refine VCx.call (zyl _ _ _) rfl ?_);simp(disch:=omega) only[go_sem])));all_goals(simp_all[vsz,slot,qA]<;>first|rfl|(rw[gJ];simp;done))
 refine .c (λh=> ?_) (λh=> ?_)
 .have h1:vsz s=false:=by simpa using h
  refine .e ?_;exact .ret ⟨_,rfl,Fin.base (.id' (by simp[zbJ,h1,slot,qA]) (.bool _))⟩
 have h1:vsz s=true:=by simpa using h
 refine .skip (PW.seq (PW.seq (PW.rgv [1] 44 (.bool (!vrt s)) rfl ?_ ?_)))
 .simp(disch:=omega) only[go_sem];(repeat'(first|((first|refine zg ?_ ?_|refine zr ?_ ?_|refine zr ?_ ?_|refine VOh_cond ?_ ?_|refine zV ?_ ?_|refine uI ?_ ?_)<;>intro h<;>(try simp only[nqb]at h)<;>simp(disch:=omega) only[go_sem,h])|((refine VCx.call (zye _ _ _ hnum hden) rfl ?_);simp(disch:=omega) only[go_sem])));all_goals(simp_all[vrt,slot,qA]<;>first|rfl|(rw[gJ];simp;done))
 refine .c (λh=> ?_) (λh=> ?_)
 .have h2:vrt s=false:=by simpa using h
  refine .e ?_;exact .ret ⟨_,rfl,Fin.base (.id' (by simp[zbJ,h1,h2,slot,qA]) (.bool _))⟩
 have h2:vrt s=true:=by simpa using h
 refine .skip (PW.seq (PW.seq (PW.rgv [1] 62 (.bool (!vbr s)) rfl ?_ ?_)))
 .simp(disch:=omega) only[go_sem];(repeat'((refine zg ?_ ?_)<;>intro h<;>(try simp only[nqb]at h)<;>simp(disch:=omega) only[go_sem,h]));all_goals(simp_all[vbr,slot,qA]<;>first|rfl|(rw[gJ];simp;done))
 refine .c (λh=> ?_) (λh=> ?_)
 .have h3:vbr s=false:=by simpa using h
  refine .e ?_;exact .ret ⟨_,rfl,Fin.base (.id' (by simp[zbJ,h1,h2,h3,slot,qA]) (.bool _))⟩
 have h3:vbr s=true:=by simpa using h
 have h2':=h2;have h3':=h3;simp only[vrt,vbr,gB,gY]at h2' h3';have hdp:=zjt h2'.1.1.1;have hb1:=zhn (a:=2 * s.num) (b:=s.bf) (A:=2097152) (B:=8388608) om om om om;have hb2:=zhn (a:=3 * s.den) (b:=s.br) (A:=196608) (B:=16777216) om om om om;refine .skip (.e ?_);refine .c (λh=> ?_) (λh=> ?_)
 .have h4:vbu s=false:=by simp_all[vbu]
  refine .e ?_;exact .ret ⟨_,rfl,Fin.base (.id' (by simp[zbJ,h1,h2,h3,h4,slot,qA]) (.bool _))⟩
 have h4:vbu s=true:=by simp_all[vbu]
 refine .skip (.x λK hK=> ?_);simp(disch:=omega) only[go_sem,zgU,zgT,zfx,gP,zd];(repeat'(first|((refine zg ?_ ?_)<;>intro h<;>(try simp only[nqb]at h)<;>simp(disch:=omega) only[go_sem,zgU,zgT,zfx,gP,zd,h])|((first|refine VCx.call (zms _ _ hia) rfl ?_|refine VCx.call (zms _ _ hie) rfl ?_);simp(disch:=omega) only[go_sem,zgU,zgT,zfx,gP,zd])));all_goals(refine hK _ _ ?_)
 all_goals exact .ret ⟨_,rfl,Fin.base (.id' (by simp_all[zbJ,slot,qA]) (.bool _))⟩
theorem zhM(s:Sq)(H:za)(hs:SqOk s):CallOk prog 100 [.agg (sqc s)] H (.bool (zbJ s)) H:=by
 obtain⟨hw,hh,hnum,hden,hbr,hbf,hia,hie⟩:=hs;have hall:(bs s.ia++bs s.ie).all PV.cell=true:=by simp[bs,PV.cell]
 refine .go func100 ntmps100 results100 ?_;refine .g (nq2 @sqc.eq_1 hall) ?_;refine .seq (PW.seq (PW.rgv [1] 42 (.bool (!vsz s)) rfl ?_ ?_))
 .simp(disch:=omega) only[go_sem];(repeat'((first|refine zg ?_ ?_|refine zr ?_ ?_|refine VOg_cond ?_ ?_|refine VOh_cond ?_ ?_|refine zV ?_ ?_|refine uI ?_ ?_)<;>intro h<;>(try simp only[nqb]at h)<;>simp(disch:=omega) only[go_sem,h]));all_goals(simp_all[vsz,mbs,slot,qA]<;>first|rfl|omega|(rw[gJ];simp;done)|(rw[gJ];simp;omega))
 refine .c (λh=> ?_) (λh=> ?_)
 .have h1:vsz s=false:=by simpa using h
  refine .e ?_;exact .ret ⟨_,rfl,Fin.base (.id' (by simp[zbJ,h1,slot,qA]) (.bool _))⟩
 have h1:vsz s=true:=by simpa using h
 refine .skip (PW.seq (PW.seq (PW.rgv [1] 64 (.bool (!vrt s)) rfl ?_ ?_)))
 .simp(disch:=omega) only[go_sem];(repeat'(first|((first|refine zg ?_ ?_|refine zr ?_ ?_|refine zr ?_ ?_|refine VOh_cond ?_ ?_|refine zV ?_ ?_|refine uI ?_ ?_)<;>intro h<;>(try simp only[nqb]at h)<;>simp(disch:=omega) only[go_sem,h])|((first|refine VCx.call (zfA _ _ _ hnum hden) rfl ?_|refine VCy.call (zfA _ _ _ hnum hden) rfl ?_|refine VCz.call (λ_=>zfA _ _ _ hnum hden) rfl ?_|refine VCk.call (λ_ _=>zfA _ _ _ hnum hden) rfl ?_|refine VCj.now (zfA _ _ _ hnum hden) rfl ?_);simp(disch:=omega) only[go_sem])));all_goals(simp_all[vrt,slot,qA]<;>first|rfl|omega|(rw[gJ];simp;done)|(rw[gJ];simp;omega))
 refine .c (λh=> ?_) (λh=> ?_)
 .have h2:vrt s=false:=by simpa using h
  refine .e ?_;exact .ret ⟨_,rfl,Fin.base (.id' (by simp[zbJ,h1,h2,slot,qA]) (.bool _))⟩
 have h2:vrt s=true:=by simpa using h
 refine .skip (PW.seq (PW.seq (PW.rgv [1] 82 (.bool (!vbr s)) rfl ?_ ?_)))
 .simp(disch:=omega) only[go_sem];(repeat'((first|refine zg ?_ ?_|refine zr ?_ ?_|refine VOg_cond ?_ ?_|refine VOh_cond ?_ ?_|refine zV ?_ ?_|refine uI ?_ ?_)<;>intro h<;>(try simp only[nqb]at h)<;>simp(disch:=omega) only[go_sem,h]));all_goals(simp_all[vbr,slot,qA]<;>first|rfl|omega|(rw[gJ];simp;done)|(rw[gJ];simp;omega))
 refine .c (λh=> ?_) (λh=> ?_)
 .have h3:vbr s=false:=by simpa using h
  refine .e ?_;exact .ret ⟨_,rfl,Fin.base (.id' (by simp[zbJ,h1,h2,h3,slot,qA]) (.bool _))⟩
 have h3:vbr s=true:=by simpa using h
 have h2':=h2;have h3':=h3;simp only[vrt,vbr,gB,gY]at h2' h3';have hdp:=zjt h2'.1.1.1;have hb1:=zhn (a:=2 * s.num) (b:=s.bf) (A:=2097152) (B:=8388608) om om om om;have hb2:=zhn (a:=3 * s.den) (b:=s.br) (A:=196608) (B:=16777216) om om om om;refine .skip (.e ?_);refine .c (λh=> ?_) (λh=> ?_)
 .have h4:vbu s=false:=by simp_all[vbu]
  refine .e ?_;exact .ret ⟨_,rfl,Fin.base (.id' (by simp[zbJ,h1,h2,h3,h4,slot,qA]) (.bool _))⟩
 have h4:vbu s=true:=by simp_all[vbu]
 refine .skip (.x λK hK=> ?_);simp(disch:=omega) only[go_sem,zgU,zgT,zfx,gP,zd];(repeat'(first|((first|refine zg ?_ ?_|refine uI ?_ ?_)<;>intro h<;>(try simp only[nqb]at h)<;>simp(disch:=omega) only[go_sem,zgU,zgT,zfx,gP,zd,h])|((first|refine VCx.call (ziv _ _ hia) rfl ?_|refine VCx.call (ziv _ _ hie) rfl ?_);simp(disch:=omega) only[go_sem,zgU,zgT,zfx,gP,zd])));all_goals(refine hK _ _ ?_)
 all_goals exact .ret ⟨_,rfl,Fin.base (.id' (by simp_all[zbJ,slot,qA]) (.bool _))⟩
structure Pi where
 ty:Int
 st:Int
 od:Int
 tf:Bool
 rp:Bool
 al:Bool
def pic(h:Pi):List PV:=[.int .i64 h.ty,.int .i64 h.st,.int .i64 h.od,.bool h.tf,.bool h.rp,.bool h.al]
def zof(h:Pi):Bool:=decide (0<=h.od)&&decide (h.od<=1023)&&decide (1<=h.ty)&&decide (h.ty<=3)&&decide (1<=h.st)&&decide (h.st<=3)
theorem zwf(h:Pi)(H:za):CallOk prog 77 [.agg (pic h)] H (.bool (zof h)) H:=by obtain⟨ty,st,od,tf,rp,al⟩:=h;refine .body (F0:=[(0,.agg (pic ⟨ty,st,od,tf,rp,al⟩))]) func77 rfl ntmps77 results77 rfl kr rfl ?_;(repeat'(first|refine .seq ?_|((refine .rg rfl λK hK=> ?_);simp(disch:=omega) only[go_sem,pic])|((refine zg ?_ ?_)<;>intro h<;>(try simp only[nqb]at h)<;>simp(disch:=omega) only[go_sem,pic,h])|(refine hK _ _ ?_)));all_goals((refine .ret ⟨_,rfl,?_⟩;refine .base (.id' ?_ (.bool _)));(simp_all[zof,slot,qA]<;>omega))
theorem zmU(h:Pi)(H:za):CallOk prog 101 [.agg (pic h)] H (.bool (zof h)) H:=by obtain⟨ty,st,od,tf,rp,al⟩:=h;refine .body (F0:=[(0,.agg (pic ⟨ty,st,od,tf,rp,al⟩))]) func101 rfl ntmps101 results101 rfl kr rfl ?_;(repeat'(first|refine .seq ?_|refine .skip ?_|refine .block ?_|((first|refine .rg rfl λK hK=> ?_|refine .draw mix kr λK hK=> ?_);simp(disch:=omega) only[go_sem,pic])|((first|refine zg ?_ ?_|refine zr ?_ ?_|refine uI ?_ ?_)<;>intro h<;>(try simp only[nqb]at h)<;>simp(disch:=omega) only[go_sem,pic,h])|(refine hK _ _ ?_)|(refine .cond (t:=_) rfl (λh=> ?_) (λh=> ?_)<;>(try(cases h;done))<;>(try simp only[nqb]at h))));all_goals((refine .ret ⟨_,rfl,?_⟩;first|refine .inl ⟨?_,rfl⟩|refine .base (.id' ?_ (.bool _))|refine .base (.id' ?_ (.int _ _)));(simp_all[zof,slot,qA]<;>first|rfl|omega|(rw[gJ];simp;done)|(rw[gJ];simp;omega)))
def zB(s:Sq)(p:Pi):Bool:=zbJ s&&zof p&&(s.il||((p.st==3)&&p.tf&& !p.rp))
theorem zdf(s:Sq)(p:Pi)(H:za)(hs:SqOk s):CallOk prog 38 [.agg (sqc s),.agg (pic p)] H (.bool (zB s p)) H:=by
 have hall:(bs s.ia++bs s.ie).all PV.cell=true:=by simp[bs,PV.cell]
 have hlen:(bs s.ia++bs s.ie).length=128:=by simp[zd,hs.ia,hs.ie]
 have htk:=zke s.ia s.ie hs.ia hs.ie;refine .go func38 ntmps38 results38 ?_;(repeat'(first|refine .seq ?_|refine .skip ?_|((refine .rg rfl λK hK=> ?_);simp(disch:=omega) only[go_sem,sqc,pic,hall,hlen,htk])|((refine zg ?_ ?_)<;>intro h<;>(try simp only[nqb]at h)<;>simp(disch:=omega) only[go_sem,sqc,pic,hall,hlen,htk,h])|((first|refine VCx.call (zoy s _ hs) rfl ?_|refine VCx.call (zwf p _) rfl ?_);simp(disch:=omega) only[go_sem,sqc,pic,hall,hlen,htk])|(refine hK _ _ ?_)|(refine .cond (t:=_) rfl (λh=> ?_) (λh=> ?_)<;>(try(cases h;done))<;>(try simp only[nqb]at h))));all_goals((refine .ret ⟨_,rfl,?_⟩;refine .base (.id' ?_ (.bool _)));(simp_all[zB,slot,qA]))
theorem zbj(s:Sq)(p:Pi)(H:za)(hs:SqOk s):CallOk prog 55 [.agg (sqc s),.agg (pic p)] H (.bool (zB s p)) H:=by
 have hall:(bs s.ia++bs s.ie).all PV.cell=true:=by simp[bs,PV.cell]
 have hlen:(bs s.ia++bs s.ie).length=128:=by simp[zd,hs.ia,hs.ie]
 have htk:=zke s.ia s.ie hs.ia hs.ie;refine .go func55 ntmps55 results55 ?_;(repeat'(first|refine .seq ?_|refine .skip ?_|refine .block ?_|((first|refine .rg rfl λK hK=> ?_|refine .draw mix kr λK hK=> ?_);simp(disch:=omega) only[go_sem,sqc,pic,hall,hlen,htk])|((first|refine zg ?_ ?_|refine zr ?_ ?_|refine uI ?_ ?_)<;>intro h<;>(try simp only[nqb]at h)<;>simp(disch:=omega) only[go_sem,sqc,pic,hall,hlen,htk,h])|((first|refine VCx.call (zhM s _ hs) rfl ?_|refine VCx.call (zmU p _) rfl ?_|refine VCy.call (zhM s _ hs) rfl ?_|refine VCy.call (zmU p _) rfl ?_);simp(disch:=omega) only[go_sem,sqc,pic,hall,hlen,htk])|(refine hK _ _ ?_)|(refine .cond (t:=_) rfl (λh=> ?_) (λh=> ?_)<;>(try(cases h;done))<;>(try simp only[nqb]at h))));all_goals((refine .ret ⟨_,rfl,?_⟩;first|refine .inl ⟨?_,rfl⟩|refine .base (.id' ?_ (.bool _))|refine .base (.id' ?_ (.int _ _)));(simp_all[zB,slot,qA]<;>first|rfl|omega|(rw[gJ];simp;done)|(rw[gJ];simp;omega)))
theorem zxz{s:Sq}(h:zbJ s=true):16<=s.h/\s.h<=64/\16<=s.w/\s.w<=64:=by simp[zbJ,vsz,mbs]at h;omega
theorem zaz{s:Sq}{p:Pi}(hv:zB s p=true):16<=s.h/\s.h<=64/\16<=s.w/\s.w<=64:=by simp_all[zB,gB,zxz]
def hgt(s:Sq)(p:Pi):Int:=if p.st=3 then s.h else s.h.tdiv 2
theorem ztw(s:Sq)(p:Pi)(H:za)(hs:SqOk s)(hv:0<=s.h):CallOk prog 81 [.agg (sqc s),.agg (pic p)] H (.int .i64 (hgt s p)) H:=by
 have hall:(bs s.ia++bs s.ie).all PV.cell=true:=by simp[bs,PV.cell]
 have hlen:(bs s.ia++bs s.ie).length=128:=by simp[zd,hs.ia,hs.ie]
 have hh:=hs.h;refine .go func81 ntmps81 results81 ?_;(repeat'(first|refine .seq ?_|refine .skip ?_|((refine .rg rfl λK hK=> ?_);simp(disch:=omega) only[go_sem,sqc,pic,hall,hlen,zjW])|(refine hK _ _ ?_)|(refine .cond (t:=_) rfl (λh=> ?_) (λh=> ?_)<;>(try(cases h;done))<;>(try simp only[nqb]at h))));all_goals((refine .ret ⟨_,rfl,?_⟩;refine .base (.id' ?_ (.int _ _)));(simp_all[hgt,slot,qA]))
def zaq(s:Sq)(p:Pi):Int:=if zB s p then(if p.st=3 then s.h.tdiv 16 else s.h.tdiv 32)else 0
theorem zl4(s:Sq)(p:Pi)(H:za)(hs:SqOk s):CallOk prog 43 [.agg (sqc s),.agg (pic p)] H (.int .i64 (zaq s p)) H:=by
 have hall:(bs s.ia++bs s.ie).all PV.cell=true:=by simp[bs,PV.cell]
 have hlen:(bs s.ia++bs s.ie).length=128:=by simp[zd,hs.ia,hs.ie]
 have htk:=zke s.ia s.ie hs.ia hs.ie;refine .go func43 ntmps43 results43 ?_;cases hp:zB s p with
 | false=>
  have hpv:=λH=>zdf s p H hs;rw[hp]at hpv;(repeat'(first|refine .seq ?_|((refine .rg rfl λK hK=> ?_);simp(disch:=omega) only[go_sem,sqc,pic,hall,hlen,htk])|((refine VCx.call (hpv _) rfl ?_);simp(disch:=omega) only[go_sem,sqc,pic,hall,hlen,htk])|(refine hK _ _ ?_)|(refine .cond (t:=_) rfl (λh=> ?_) (λh=> ?_)<;>(try(cases h;done))<;>(try simp only[nqb]at h))));all_goals((refine .ret ⟨_,rfl,?_⟩;refine .base (.id' ?_ (.int _ _)));simp[zaq,hp,slot,qA])
 | true=>
  have hpv:=λH=>zdf s p H hs;rw[hp]at hpv;have hh:=zaz hp;have hg:0<=hgt s p/\hgt s p<=64:=by unfold hgt;rw[zF _ _ om];split<;>omega
  (repeat'(first|refine .seq ?_|refine .skip ?_|((refine .rg rfl λK hK=> ?_);simp(disch:=omega) only[go_sem,sqc,pic,hall,hlen,htk,zjW])|((first|refine VCx.call (hpv _) rfl ?_|refine VCx.call (ztw s p _ hs om) rfl ?_);simp(disch:=omega) only[go_sem,sqc,pic,hall,hlen,htk,zjW])|(refine hK _ _ ?_)|(refine .cond (t:=_) rfl (λh=> ?_) (λh=> ?_)<;>(try(cases h;done))<;>(try simp only[nqb]at h))));all_goals((refine .ret ⟨_,rfl,?_⟩;refine .base (.id' ?_ (.int _ _)));simp[zaq,hp,slot,qA])
  simp only[hgt,zF _ _ (show 0<=s.h from om)];rw[zF _ _ (by split<;>omega)];split<;>omega
theorem zjw(s:Sq)(p:Pi)(H:za)(hs:SqOk s):CallOk prog 108 [.agg (sqc s),.agg (pic p)] H (.int .i64 (zaq s p)) H:=by
 have hall:(bs s.ia++bs s.ie).all PV.cell=true:=by simp[bs,PV.cell]
 have hlen:(bs s.ia++bs s.ie).length=128:=by simp[zd,hs.ia,hs.ie]
 have htk:=zke s.ia s.ie hs.ia hs.ie;refine .go func108 ntmps108 results108 ?_;cases hp:zB s p with
 | false=>
  have hpv:=λH=>zbj s p H hs;rw[hp]at hpv;(repeat'(first|refine .seq ?_|refine .skip ?_|refine .block ?_|((first|refine .rg rfl λK hK=> ?_|refine .draw mix kr λK hK=> ?_);simp(disch:=omega) only[go_sem,sqc,pic,hall,hlen,htk])|((first|refine zg ?_ ?_|refine zr ?_ ?_|refine uI ?_ ?_)<;>intro h<;>(try simp only[nqb]at h)<;>simp(disch:=omega) only[go_sem,sqc,pic,hall,hlen,htk,h])|((first|refine VCx.call (hpv _) rfl ?_|refine VCy.call (hpv _) rfl ?_);simp(disch:=omega) only[go_sem,sqc,pic,hall,hlen,htk])|(refine hK _ _ ?_)|(refine .cond (t:=_) rfl (λh=> ?_) (λh=> ?_)<;>(try(cases h;done))<;>(try simp only[nqb]at h))));all_goals((refine .ret ⟨_,rfl,?_⟩;first|refine .inl ⟨?_,rfl⟩|refine .base (.id' ?_ (.bool _))|refine .base (.id' ?_ (.int _ _)));simp[zaq,hp,slot,qA])
 | true=>have hpv:=λH=>zbj s p H hs;rw[hp]at hpv;have hh:=zaz hp;(repeat'(first|refine .seq ?_|refine .skip ?_|refine .block ?_|((first|refine .rg rfl λK hK=> ?_|refine .draw mix kr λK hK=> ?_);simp(disch:=omega) only[go_sem,sqc,pic,hall,hlen,htk,zjW])|((first|refine zg ?_ ?_|refine zr ?_ ?_|refine uI ?_ ?_)<;>intro h<;>(try simp only[nqb]at h)<;>simp(disch:=omega) only[go_sem,sqc,pic,hall,hlen,htk,zjW,h])|((first|refine VCx.call (hpv _) rfl ?_|refine VCy.call (hpv _) rfl ?_);simp(disch:=omega) only[go_sem,sqc,pic,hall,hlen,htk,zjW])|(refine hK _ _ ?_)|(refine .cond (t:=_) rfl (λh=> ?_) (λh=> ?_)<;>(try(cases h;done))<;>(try simp only[nqb]at h))));all_goals((refine .ret ⟨_,rfl,?_⟩;first|refine .inl ⟨?_,rfl⟩|refine .base (.id' ?_ (.bool _))|refine .base (.id' ?_ (.int _ _)));(simp_all[zaq,slot,qA]<;>first|rfl|omega|(rw[gJ];simp;done)|(rw[gJ];simp;omega)))
end Sc
namespace Lp
open Go.ChangeShapes Go.WideShapes Go.ChangeAt Go.RowKit Pm Sc
theorem own:ownKnob prog.godebug=none:=kr
theorem zvL:laidOutB prog=true:=kr
theorem zmW{zs:List Int}(hw:∀ z∈zs,(Lit.int .u8 z).wf=true):∃ p:List UInt8,zs.map (PV.int .u8)=bs p/\p.length=zs.length:=by refine⟨zs.map λz=>UInt8.ofNat z.toNat,?_,by simp⟩;simp only[bs,List.map_map];refine wU λz hz=> ?_;have h1:=hw z hz;simp[Lit.wf,IntKind.min,IntKind.max,IntKind.signed,IntKind.bits]at h1;simp only[Function.comp,UInt8.toNat_ofNat'];congr 1;omega
theorem zjp{ps:List PV}(h:Shp prog 27 ps):∃ p:List UInt8,ps=[.slice (bs p) p.length false]:=by obtain⟨zs,rfl,_,hw⟩:=h.of_ints underlying27 underlying5;obtain⟨p,e,hl⟩:=zmW hw;exact⟨p,by rw[e,hl]⟩
theorem zrS{ps:List PV}(h:Shp prog 35 ps):∃ p:List UInt8,ps=bs p/\p.length=64:=by obtain⟨zs,rfl,hl,hw⟩:=h.arr_ints underlying35 underlying5;obtain⟨p,e,hl'⟩:=zmW hw;exact⟨p,e,om⟩
theorem zbw{ps:List PV}(h:Shp prog 3 ps):∃ n:Int,ps=[.int .i64 n]/\(-9223372036854775808<=n/\n<=9223372036854775807):=by obtain⟨n,rfl,hw⟩:=h.of_int underlying3;simp[Lit.wf,IntKind.min,IntKind.max,IntKind.signed,IntKind.bits]at hw;exact⟨n,rfl,hw⟩
theorem zjo{ps:List PV}(h:Shp prog 2 ps):∃ n:Int,ps=[.int .i64 n]/\(-9223372036854775808<=n/\n<=9223372036854775807):=by obtain⟨n,rfl,hw⟩:=h.of_int underlying2;simp[Lit.wf,IntKind.min,IntKind.max,IntKind.signed,IntKind.bits]at hw;exact⟨n,rfl,hw⟩
theorem zdb{ps:List PV}(h:Shp prog 4 ps):∃ b,ps=[.bool b]:=h.of_bool underlying4
theorem zvb{ps:List PV}(h:Shp prog 34 ps):∃ a b:Int,ps=[.int .i64 a,.int .i64 b]/\(-9223372036854775808<=a/\a<=9223372036854775807)/\(-9223372036854775808<=b/\b<=9223372036854775807):=by
 obtain⟨pss,rfl,hf⟩:=h.fields underlying34
 match pss,hf with
 | [a,b],⟨ha,hb,_⟩=>obtain⟨a,rfl,h1⟩:=zjo ha;obtain⟨b,rfl,h2⟩:=zjo hb;exact⟨a,b,rfl,h1,h2⟩
theorem zva{ps:List PV}(h:Shp prog 37 ps):∃ s:Sq,ps=sqc s/\SqOk s:=by
 obtain⟨pss,rfl,hf⟩:=h.fields underlying37
 match pss,hf with
 | [a,b,c,d,e,f,g,k],⟨ha,hb,hc,hd,he,hf,hg,hk,_⟩=>obtain⟨a,rfl,h1⟩:=zbw ha;obtain⟨b,rfl,h2⟩:=zbw hb;obtain⟨n,m,rfl,h3,h4⟩:=zvb hc;obtain⟨d,rfl⟩:=zdb hd;obtain⟨e,rfl,h5⟩:=zbw he;obtain⟨f,rfl,h6⟩:=zbw hf;obtain⟨p,rfl,h7⟩:=zrS hg;obtain⟨q,rfl,h8⟩:=zrS hk;exact⟨⟨a,b,n,m,d,e,f,p,q⟩,by simp[sqc],⟨h1,h2,h3,h4,h5,h6,h7,h8⟩⟩
theorem zvc{ps:List PV}(h:Shp prog 41 ps):∃ p:Pi,ps=pic p/\(-9223372036854775808<=p.ty/\p.ty<=9223372036854775807)/\(-9223372036854775808<=p.st/\p.st<=9223372036854775807)/\(-9223372036854775808<=p.od/\p.od<=9223372036854775807):=by
 obtain⟨pss,rfl,hf⟩:=h.fields underlying41
 match pss,hf with
 | [a,b,c,d,e,f],⟨ha,hb,hc,hd,he,hf,_⟩=>obtain⟨a,rfl,h1⟩:=zbw ha;obtain⟨b,rfl,h2⟩:=zbw hb;obtain⟨c,rfl,h3⟩:=zbw hc;obtain⟨d,rfl⟩:=zdb hd;obtain⟨e,rfl⟩:=zdb he;obtain⟨f,rfl⟩:=zdb hf;exact⟨⟨a,b,c,d,e,f⟩,rfl,h1,h2,h3⟩
theorem zrR{ps:List PV}(h:Shp prog 49 ps):∃(t:Int) (p:List UInt8),ps=[.int .i64 t,.slice (bs p) p.length false]/\(-9223372036854775808<=t/\t<=9223372036854775807):=by
 obtain⟨pss,rfl,hf⟩:=h.fields underlying49
 match pss,hf with
 | [a,b],⟨ha,hb,_⟩=>obtain⟨a,rfl,h1⟩:=zbw ha;obtain⟨p,rfl⟩:=zjp hb;exact⟨a,p,rfl,h1⟩
end Lp
end Go.Proofs.YtleejngibkbjnaaGreatDoor
