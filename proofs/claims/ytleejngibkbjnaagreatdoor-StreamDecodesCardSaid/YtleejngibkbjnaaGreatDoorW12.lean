/-
  Parts of the proof. No condition.
-/
import Derived.Test.YtleejngibkbjnaaGreatDoorW09
import Derived.Test.YtleejngibkbjnaaGreatDoorW06
open Go.Proofs.YtleejngibkbjnaaGreatDoor.Pm.PV renaming int → O
open Go.IntKind renaming i64 → J
open List renaming replicate → qB, take → qD
open Nat renaming beq → qA
open Go.Proofs.Tryz
set_option linter.all false
set_option maxRecDepth 100000
set_option maxHeartbeats 32000000
namespace Go.Proofs.YtleejngibkbjnaaGreatDoor.Sc
open Pm Ty Go.RowKit
def zbT(c:Cx)(fp used:Bool)(a b d e p q:Int):Bool:=
 if used then vrg a b&&(vrg d e&&((decide (p=0)||decide (p=1))&&((decide (q=0)||decide (q=1))&&((fp||(decide (d=0)&&(decide (e=0)&&decide (q=0))))&&(fp||(fcx c||decide (p=0)))))))
 else decide (a=0)&&(decide (b=0)&&(decide (d=0)&&(decide (e=0)&&(decide (p=0)&&decide (q=0)))))
theorem ze5(a b c d:Int):zdF prog .eql 134 (.agg [O J a,O J b,O J c,O J d]) (.agg [O J 0,O J 0,O J 0,O J 0])=some (.bool (((a==0)&&((b==0)&&true))&&(((c==0)&&((d==0)&&true))&&true))):=kr
theorem neV(a b:Int):zdF prog .neq 133 (.agg [O J a,O J b]) (.agg [O J 0,O J 0])=some (.bool !((a==0)&&((b==0)&&true))):=kr
theorem ze6(a b:Int):zdF prog .eql 136 (.agg [O J a,O J b]) (.agg [O J 0,O J 0])=some (.bool ((a==0)&&((b==0)&&true))):=kr
theorem ztS(c:Cx)(m:Mb)(used:Bool)(i:Nat)(H:za)(hi:H[i]? =some (mB m)):CallOk prog 216 [.agg (cxc c),.ptr i 0 0,O J 0,.bool used] H (.bool (zbT c m.fp used m.va m.vb m.vc m.vd m.sa m.sb)) H:=by
 have hil:i<H.length:=(gA.1 hi).1;have hso:=fun K=>znp c m i (H++K) (zas hi);obtain ⟨k,ua,ub,fp,fd,va,vb,vc,vd,ve,vf,vg,vh,sa,sb,sc,sd,dl,ca,cb,cc,cd,ce,cf,lv⟩:=m;simp only [mB,mbc] at hi ⊢;have hx:=fun K=>zas (K:=K) hi;generalize hr:zbT c fp used va vb vc vd sa sb=r;simp only [zbT] at hr;simp only at hso;generalize fcx c=ff at hso hr;obtain ⟨t,s,ii,n⟩:=c;have dX : decide ("X" = "_") = false := by decide
 have dY : decide ("Y" = "_") = false := by decide
 have q1:=λH=>zhN va vb H;have q2:=λH=>zhN vc vd H;generalize vrg va vb=r1 at q1 hr;generalize vrg vc vd=r2 at q2 hr;refine .body (F0:=[(0,.agg [O J t,O J s,.bool ii,.bool n]),(1,.ptr i 0 0),(2,O J 0),(3,.bool used)]) func216 rfl ntmps216 results216 rfl kr rfl ?_;refine .e ?_;(repeat refine .seq ?_);refine .view (Vs.place 134) (PW.view (Vs.place 136) ?_);refine .y [H.length+1,H.length+2,i] [(9,[0]),(10,[1]),(1,[2]),(12,[2]),(13,[2]),(14,[2]),(15,[2]),(16,[2]),(17,[2]),(18,[2]),(19,[2]),(20,[2]),(21,[2]),(22,[2]),(23,[2])] [(9,0),(10,1)] [] λK hK=> ?_;refine sqx hx ?_;refine hK _ _ ?_;clear hK K;refine .e ?_;refine .c (λh=> ?_) (λh=> ?_)
 .have hu:used=false:=by simpa using h
  subst hu;refine .x λK hK=> ?_;simp(disch:=omega) only[go_sem,↓ze5,↓neV,↓ze6];(repeat'((refine zg ?_ ?_)<;>intro h<;>(try simp only[nqb]at h)<;>simp(disch:=omega) only[go_sem,↓ze5,↓neV,↓ze6,h]));all_goals(refine hK _ _ ?_;(refine .ret ⟨_,rfl,?_⟩;refine .base (.id' ?_ (.bool _)));clear hK q1 q2 hso hi hx;subst hr;(simp_all[slot,qA]<;>first|rfl|omega))
 have hu:used=true:=by simpa using h
 subst hu;refine .skip ?_;(repeat refine .seq ?_);refine .rgv (P:=prog) [1,4,9,10] 49 (.bool (!fp&&(!(decide (vc=0)&&decide (vd=0))|| !decide (sb=0)))) ?_ ?_ ?_
 .rfl
 .simp(disch:=omega) only[go_sem,hx,↓ze5,↓neV,↓ze6];(repeat'((refine zg ?_ ?_)<;>intro h<;>(try simp only[nqb]at h)<;>simp(disch:=omega) only[go_sem,hx,↓ze5,↓neV,↓ze6,h]));all_goals(clear q1 q2 hso hi hx hr;(simp_all[slot,qA]<;>first|rfl|omega))
 refine .c (λh=> ?_) (λh=> ?_)
 .refine .e ?_;(refine .ret ⟨_,rfl,?_⟩;refine .base (.id' ?_ (.bool _)));clear q1 q2 hso hi hx;subst hr;(simp_all[slot,qA]<;>first|rfl|omega)
 refine .skip ?_;(repeat refine .seq ?_);refine .rgv (P:=prog) [9,10] 58 (.bool (!(fp||ff)&& !decide (sa=0))) ?_ ?_ ?_
 .rfl
 .refine sqz ?_;(repeat'(first|((refine zg ?_ ?_)<;>intro h<;>(try simp only[nqb]at h)<;>simp(disch:=omega) only[go_sem,hx,h])|((refine VCx.call (hso _) rfl ?_);simp(disch:=omega) only[go_sem,hx])));all_goals(clear q1 q2 hso hi hx hr;(simp_all[slot,qA]<;>first|rfl|omega))
 refine .c (λh=> ?_) (λh=> ?_)
 .refine .e ?_;(refine .ret ⟨_,rfl,?_⟩;refine .base (.id' ?_ (.bool _)));clear q1 q2 hso hi hx;subst hr;(simp_all[slot,qA]<;>first|rfl|omega)
 refine .skip (.e ?_);refine .l ?_;have hr9:r=(r1&&(r2&&((decide (sa=0)||decide (sa=1))&&(decide (sb=0)||decide (sb=1))))):=by rename_i hz1 hz2;clear q1 q2 hso hi hx;subst hr;grind
 suffices h1:(r1&&(decide (sa=0)||decide (sa=1)))=true->PL prog _ _ [(9,.ptr (H.length+1) 1 0),(10,.ptr (H.length+2) 1 0),(59,O J 1)] (H++[⟨145,0,[O J t,O J s,.bool ii,.bool n]⟩,⟨134,1,[O J va,O J vb,O J vc,O J vd]⟩,⟨136,1,[O J sa,O J sb]⟩]) _ by
  refine .round (.e ?_);refine .c (λh=> ?_) (λh=> ?_)
  .refine .skip (.b ?_);refine .e ?_;(repeat refine .seq ?_);refine .rgv (P:=prog) [9,10,59] 78 (.bool (!(r1&&(decide (sa=0)||decide (sa=1))))) ?_ ?_ ?_
   .rfl
   rotate_left
   .refine .c (λh=> ?_) (λh=> ?_);rotate_left
    .have hb:(r1&&(decide (sa=0)||decide (sa=1)))=true:=by grind
     refine .skip (.e ?_);exact .a (h1 hb)
    .have hb:(r1&&(decide (sa=0)||decide (sa=1)))=false:=by grind
     refine .e ?_;(refine .ret ⟨_,rfl,?_⟩;refine .base (.id' ?_ (.bool _)));simp_all[clear,slot,qA]
   .clear h1;cases r1<;>simp(disch:=omega) only[go_sem]<;>(repeat'(first|((refine zg ?_ ?_)<;>intro h<;>(try simp only[nqb]at h)<;>simp(disch:=omega) only[go_sem,h])|((refine VCx.call (q1 _) rfl ?_);simp(disch:=omega) only[go_sem])));all_goals(clear q1 q2 hso hi hx hr hr9;(simp_all[slot,qA]<;>first|rfl|omega))
  .cases h
 intro hb1;refine .round (.e ?_);refine .c (λh=> ?_) (λh=> ?_)
 .refine .skip (.b ?_);refine .e ?_;(repeat refine .seq ?_);refine .rgv (P:=prog) [9,10,59] 78 (.bool (!(r2&&(decide (sb=0)||decide (sb=1))))) ?_ ?_ ?_
  .rfl
  .cases r2<;>simp(disch:=omega) only[go_sem]<;>(repeat'(first|((refine zg ?_ ?_)<;>intro h<;>(try simp only[nqb]at h)<;>simp(disch:=omega) only[go_sem,h])|((refine VCx.call (q2 _) rfl ?_);simp(disch:=omega) only[go_sem])));all_goals(clear q1 q2 hso hi hx hr hr9;(simp_all[slot,qA]<;>first|rfl|omega))
  refine .c (λh=> ?_) (λh=> ?_)
  .have hb:(r2&&(decide (sb=0)||decide (sb=1)))=false:=by grind
   refine .e ?_;(refine .ret ⟨_,rfl,?_⟩;refine .base (.id' ?_ (.bool _)));rw[hr9];clear q1 q2 hso hi hx hr hr9;cases r1<;>cases r2<;>simp_all[slot,qA]
  .have hb:(r2&&(decide (sb=0)||decide (sb=1)))=true:=by grind
   refine .skip (.e ?_);refine .round (.e ?_);refine .u (.exit ?_);refine .e ?_;(refine .ret ⟨_,rfl,?_⟩;refine .base (.id' ?_ (.bool _)));rw[hr9];clear q1 q2 hso hi hx hr hr9;cases r1<;>cases r2<;>simp_all[slot,qA]
 .cases h
theorem ztR(c:Cx)(m:Mb)(used:Bool)(i:Nat)(H:za)(hi:H[i]? =some (mB m)):CallOk prog 216 [.agg (cxc c),.ptr i 0 0,O J 1,.bool used] H (.bool (zbT c m.fp used m.ve m.vf m.vg m.vh m.sc m.sd)) H:=by
 have hil:i<H.length:=(gA.1 hi).1;have hso:=fun K=>znp c m i (H++K) (zas hi);obtain ⟨k,ua,ub,fp,fd,va,vb,vc,vd,ve,vf,vg,vh,sa,sb,sc,sd,dl,ca,cb,cc,cd,ce,cf,lv⟩:=m;simp only [mB,mbc] at hi ⊢;have hx:=fun K=>zas (K:=K) hi;generalize hr:zbT c fp used ve vf vg vh sc sd=r;simp only [zbT] at hr;simp only at hso;generalize fcx c=ff at hso hr;obtain ⟨t,s,ii,n⟩:=c;have dX : decide ("X" = "_") = false := by decide
 have dY : decide ("Y" = "_") = false := by decide
 have q1:=λH=>zhN ve vf H;have q2:=λH=>zhN vg vh H;generalize vrg ve vf=r1 at q1 hr;generalize vrg vg vh=r2 at q2 hr;refine .body (F0:=[(0,.agg [O J t,O J s,.bool ii,.bool n]),(1,.ptr i 0 0),(2,O J 1),(3,.bool used)]) func216 rfl ntmps216 results216 rfl kr rfl ?_;refine .e ?_;(repeat refine .seq ?_);refine .view (Vs.place 134) (PW.view (Vs.place 136) ?_);refine .y [H.length+1,H.length+2,i] [(9,[0]),(10,[1]),(1,[2]),(12,[2]),(13,[2]),(14,[2]),(15,[2]),(16,[2]),(17,[2]),(18,[2]),(19,[2]),(20,[2]),(21,[2]),(22,[2]),(23,[2])] [(9,0),(10,1)] [] λK hK=> ?_;refine sqx hx ?_;refine hK _ _ ?_;clear hK K;refine .e ?_;refine .c (λh=> ?_) (λh=> ?_)
 .have hu:used=false:=by simpa using h
  subst hu;refine .x λK hK=> ?_;simp(disch:=omega) only[go_sem,↓ze5,↓neV,↓ze6];(repeat'((refine zg ?_ ?_)<;>intro h<;>(try simp only[nqb]at h)<;>simp(disch:=omega) only[go_sem,↓ze5,↓neV,↓ze6,h]));all_goals(refine hK _ _ ?_;(refine .ret ⟨_,rfl,?_⟩;refine .base (.id' ?_ (.bool _)));clear hK q1 q2 hso hi hx;subst hr;(simp_all[slot,qA]<;>first|rfl|omega))
 have hu:used=true:=by simpa using h
 subst hu;refine .skip ?_;(repeat refine .seq ?_);refine .rgv (P:=prog) [1,4,9,10] 49 (.bool (!fp&&(!(decide (vg=0)&&decide (vh=0))|| !decide (sd=0)))) ?_ ?_ ?_
 .rfl
 .simp(disch:=omega) only[go_sem,hx,↓ze5,↓neV,↓ze6];(repeat'((refine zg ?_ ?_)<;>intro h<;>(try simp only[nqb]at h)<;>simp(disch:=omega) only[go_sem,hx,↓ze5,↓neV,↓ze6,h]));all_goals(clear q1 q2 hso hi hx hr;(simp_all[slot,qA]<;>first|rfl|omega))
 refine .c (λh=> ?_) (λh=> ?_)
 .refine .e ?_;(refine .ret ⟨_,rfl,?_⟩;refine .base (.id' ?_ (.bool _)));clear q1 q2 hso hi hx;subst hr;(simp_all[slot,qA]<;>first|rfl|omega)
 refine .skip ?_;(repeat refine .seq ?_);refine .rgv (P:=prog) [9,10] 58 (.bool (!(fp||ff)&& !decide (sc=0))) ?_ ?_ ?_
 .rfl
 .refine sqz ?_;(repeat'(first|((refine zg ?_ ?_)<;>intro h<;>(try simp only[nqb]at h)<;>simp(disch:=omega) only[go_sem,hx,h])|((refine VCx.call (hso _) rfl ?_);simp(disch:=omega) only[go_sem,hx])));all_goals(clear q1 q2 hso hi hx hr;(simp_all[slot,qA]<;>first|rfl|omega))
 refine .c (λh=> ?_) (λh=> ?_)
 .refine .e ?_;(refine .ret ⟨_,rfl,?_⟩;refine .base (.id' ?_ (.bool _)));clear q1 q2 hso hi hx;subst hr;(simp_all[slot,qA]<;>first|rfl|omega)
 refine .skip (.e ?_);refine .l ?_;have hr9:r=(r1&&(r2&&((decide (sc=0)||decide (sc=1))&&(decide (sd=0)||decide (sd=1))))):=by rename_i hz1 hz2;clear q1 q2 hso hi hx;subst hr;grind
 suffices h1:(r1&&(decide (sc=0)||decide (sc=1)))=true->PL prog _ _ [(9,.ptr (H.length+1) 1 0),(10,.ptr (H.length+2) 1 0),(59,O J 1)] (H++[⟨145,0,[O J t,O J s,.bool ii,.bool n]⟩,⟨134,1,[O J ve,O J vf,O J vg,O J vh]⟩,⟨136,1,[O J sc,O J sd]⟩]) _ by
  refine .round (.e ?_);refine .c (λh=> ?_) (λh=> ?_)
  .refine .skip (.b ?_);refine .e ?_;(repeat refine .seq ?_);refine .rgv (P:=prog) [9,10,59] 78 (.bool (!(r1&&(decide (sc=0)||decide (sc=1))))) ?_ ?_ ?_
   .rfl
   rotate_left
   .refine .c (λh=> ?_) (λh=> ?_);rotate_left
    .have hb:(r1&&(decide (sc=0)||decide (sc=1)))=true:=by grind
     refine .skip (.e ?_);exact .a (h1 hb)
    .have hb:(r1&&(decide (sc=0)||decide (sc=1)))=false:=by grind
     refine .e ?_;(refine .ret ⟨_,rfl,?_⟩;refine .base (.id' ?_ (.bool _)));simp_all[clear,slot,qA]
   .clear h1;cases r1<;>simp(disch:=omega) only[go_sem]<;>(repeat'(first|((refine zg ?_ ?_)<;>intro h<;>(try simp only[nqb]at h)<;>simp(disch:=omega) only[go_sem,h])|((refine VCx.call (q1 _) rfl ?_);simp(disch:=omega) only[go_sem])));all_goals(clear q1 q2 hso hi hx hr hr9;(simp_all[slot,qA]<;>first|rfl|omega))
  .cases h
 intro hb1;refine .round (.e ?_);refine .c (λh=> ?_) (λh=> ?_)
 .refine .skip (.b ?_);refine .e ?_;(repeat refine .seq ?_);refine .rgv (P:=prog) [9,10,59] 78 (.bool (!(r2&&(decide (sd=0)||decide (sd=1))))) ?_ ?_ ?_
  .rfl
  .cases r2<;>simp(disch:=omega) only[go_sem]<;>(repeat'(first|((refine zg ?_ ?_)<;>intro h<;>(try simp only[nqb]at h)<;>simp(disch:=omega) only[go_sem,h])|((refine VCx.call (q2 _) rfl ?_);simp(disch:=omega) only[go_sem])));all_goals(clear q1 q2 hso hi hx hr hr9;(simp_all[slot,qA]<;>first|rfl|omega))
  refine .c (λh=> ?_) (λh=> ?_)
  .have hb:(r2&&(decide (sd=0)||decide (sd=1)))=false:=by grind
   refine .e ?_;(refine .ret ⟨_,rfl,?_⟩;refine .base (.id' ?_ (.bool _)));rw[hr9];clear q1 q2 hso hi hx hr hr9;cases r1<;>cases r2<;>simp_all[slot,qA]
  .have hb:(r2&&(decide (sd=0)||decide (sd=1)))=true:=by grind
   refine .skip (.e ?_);refine .round (.e ?_);refine .u (.exit ?_);refine .e ?_;(refine .ret ⟨_,rfl,?_⟩;refine .base (.id' ?_ (.bool _)));rw[hr9];clear q1 q2 hso hi hx hr hr9;cases r1<;>cases r2<;>simp_all[slot,qA]
 .cases h
theorem zt5(c:Cx)(m:Mb)(H:za):CallOk prog 271 [.agg (cxc c),.agg (mbc m),O J 0] H (.bool (zbT c m.fp m.ua m.va m.vb m.vc m.vd m.sa m.sb)) H:=by
 obtain⟨k,ua,ub,fp,fd,va,vb,vc,vd,ve,vf,vg,vh,sa,sb,sc,sd,dl,ca,cb,cc,cd,ce,cf,lv⟩:=m;simp only[mbc];have hall:=zq lv;generalize hr:zbT c fp ua va vb vc vd sa sb=r;simp only[zbT]at hr;have fo:=λH=>zhy c H;generalize fcx c=ff at fo hr;obtain⟨t,s,ii,n⟩:=c;have q1:=λH=>zdt va vb H;have q2:=λH=>zdt vc vd H;generalize vrg va vb=r1 at q1 hr;generalize vrg vc vd=r2 at q2 hr;refine .body (F0:=[(0,.agg [O J t,O J s,.bool ii,.bool n]),(1,.agg (O J k:: .bool ua:: .bool ub:: .bool fp:: .bool fd:: O J va:: O J vb:: O J vc:: O J vd:: O J ve:: O J vf:: O J vg:: O J vh:: O J sa:: O J sb:: O J sc:: O J sd:: O J dl:: .bool ca:: .bool cb:: .bool cc:: .bool cd:: .bool ce:: .bool cf::is lv)),(2,O J 0)]) func271 rfl ntmps271 results271 rfl kr rfl ?_;refine .g hall ?_;(repeat refine .seq ?_);refine .view (Vs.place 134) (PW.view (Vs.place 136) ?_);refine .y [H.length+2,H.length+3,H.length+1] [(7,[0]),(8,[1]),(4,[2]),(10,[2]),(11,[2]),(14,[2]),(15,[2])] [(7,0),(8,1)] [] λK hK=> ?_;refine sqz ?_;refine hK _ _ ?_;refine .e ?_;refine .c (λh=> ?_) (λh=> ?_)
 .have hu:ua=false:=by simpa using h
  subst hu;refine .x λK hK=> ?_;simp(disch:=omega) only[go_sem,↓ze5,↓neV,↓ze6];(repeat'((first|refine zg ?_ ?_|refine zr ?_ ?_|refine VOg_cond ?_ ?_|refine VOh_cond ?_ ?_|refine zV ?_ ?_|refine uI ?_ ?_)<;>intro h<;>(try simp only[nqb]at h)<;>simp(disch:=omega) only[go_sem,↓ze5,↓neV,↓ze6,h]));all_goals(refine hK _ _ ?_;(refine .ret ⟨_,rfl,?_⟩;first|refine .inl ⟨?_,rfl⟩|refine .base (.id' ?_ (.bool _))|refine .base (.id' ?_ (.int _ _)));clear hK q1 q2 fo hall;subst hr;(simp_all[slot,qA]<;>first|rfl|omega|(rw[gJ];simp;done)|(rw[gJ];simp;omega)))
 have hu:ua=true:=by simpa using h
 subst hu;refine .skip ?_;(repeat refine .seq ?_);refine .rgv (P:=prog) [3,4,7,8] 59 (.bool (!(r1&&(r2&&((decide (sa=0)||decide (sa=1))&&(decide (sb=0)||decide (sb=1))))))) ?_ ?_ ?_
 .rfl
 .cases r1<;>cases r2<;>simp(disch:=omega) only[go_sem]<;>(repeat'(first|((first|refine zg ?_ ?_|refine uI ?_ ?_)<;>intro h<;>(try simp only[nqb]at h)<;>simp(disch:=omega) only[go_sem,h])|((first|refine VCx.call (q1 _) rfl ?_|refine VCx.call (q2 _) rfl ?_);simp(disch:=omega) only[go_sem])));all_goals(clear q1 q2 fo hall hr;(simp_all[slot,qA]<;>first|rfl|omega|(rw[gJ];simp;done)|(rw[gJ];simp;omega)))
 refine .c (λh=> ?_) (λh=> ?_)
 .have hb:(r1&&(r2&&((decide (sa=0)||decide (sa=1))&&(decide (sb=0)||decide (sb=1)))))=false:=by grind
  refine .e ?_;(refine .ret ⟨_,rfl,?_⟩;first|refine .inl ⟨?_,rfl⟩|refine .base (.id' ?_ (.bool _))|refine .base (.id' ?_ (.int _ _)));clear q1 q2 fo hall;subst hr;simp_all[slot,qA]
 have hb:(r1&&(r2&&((decide (sa=0)||decide (sa=1))&&(decide (sb=0)||decide (sb=1)))))=true:=by grind
 refine .skip ?_;(repeat refine .seq ?_);refine .rgv (P:=prog) [3,4,7,8] 73 (.bool (!fp&&(!(decide (vc=0)&&decide (vd=0))|| !decide (sb=0)))) ?_ ?_ ?_
 .rfl
 .simp(disch:=omega) only[go_sem,↓ze5,↓neV,↓ze6];(repeat'((first|refine zg ?_ ?_|refine zr ?_ ?_|refine VOg_cond ?_ ?_|refine VOh_cond ?_ ?_|refine zV ?_ ?_|refine uI ?_ ?_)<;>intro h<;>(try simp only[nqb]at h)<;>simp(disch:=omega) only[go_sem,↓ze5,↓neV,↓ze6,h]));all_goals(clear q1 q2 fo hall hr hb;(simp_all[slot,qA]<;>first|rfl|omega|(rw[gJ];simp;done)|(rw[gJ];simp;omega)))
 refine .c (λh=> ?_) (λh=> ?_)
 .refine .e ?_;(refine .ret ⟨_,rfl,?_⟩;first|refine .inl ⟨?_,rfl⟩|refine .base (.id' ?_ (.bool _))|refine .base (.id' ?_ (.int _ _)));clear q1 q2 fo hall;subst hr;simp_all[slot,qA];omega
 refine .skip (.x λK hK=> ?_);cases ff<;>simp(disch:=omega) only[go_sem]<;>(repeat'(first|((first|refine zg ?_ ?_|refine uI ?_ ?_)<;>intro h<;>(try simp only[nqb]at h)<;>simp(disch:=omega) only[go_sem,h])|((refine VCx.call (fo _) rfl ?_);simp(disch:=omega) only[go_sem])));all_goals(refine hK _ _ ?_;(refine .ret ⟨_,rfl,?_⟩;first|refine .inl ⟨?_,rfl⟩|refine .base (.id' ?_ (.bool _))|refine .base (.id' ?_ (.int _ _)));clear hK q1 q2 fo hall;subst hr;cases r1<;>cases r2<;>simp_all[slot,qA]<;>first|omega|(rw[gJ];simp;done)|(rw[gJ];simp;omega))
theorem zt4(c:Cx)(m:Mb)(H:za):CallOk prog 271 [.agg (cxc c),.agg (mbc m),O J 1] H (.bool (zbT c m.fp m.ub m.ve m.vf m.vg m.vh m.sc m.sd)) H:=by
 obtain⟨k,ua,ub,fp,fd,va,vb,vc,vd,ve,vf,vg,vh,sa,sb,sc,sd,dl,ca,cb,cc,cd,ce,cf,lv⟩:=m;simp only[mbc];have hall:=zq lv;generalize hr:zbT c fp ub ve vf vg vh sc sd=r;simp only[zbT]at hr;have fo:=λH=>zhy c H;generalize fcx c=ff at fo hr;obtain⟨t,s,ii,n⟩:=c;have q1:=λH=>zdt ve vf H;have q2:=λH=>zdt vg vh H;generalize vrg ve vf=r1 at q1 hr;generalize vrg vg vh=r2 at q2 hr;refine .body (F0:=[(0,.agg [O J t,O J s,.bool ii,.bool n]),(1,.agg (O J k:: .bool ua:: .bool ub:: .bool fp:: .bool fd:: O J va:: O J vb:: O J vc:: O J vd:: O J ve:: O J vf:: O J vg:: O J vh:: O J sa:: O J sb:: O J sc:: O J sd:: O J dl:: .bool ca:: .bool cb:: .bool cc:: .bool cd:: .bool ce:: .bool cf::is lv)),(2,O J 1)]) func271 rfl ntmps271 results271 rfl kr rfl ?_;refine .g hall ?_;(repeat refine .seq ?_);refine .view (Vs.place 134) (PW.view (Vs.place 136) ?_);refine .y [H.length+2,H.length+3,H.length+1] [(7,[0]),(8,[1]),(4,[2]),(10,[2]),(11,[2]),(14,[2]),(15,[2])] [(7,0),(8,1)] [] λK hK=> ?_;refine sqz ?_;refine hK _ _ ?_;refine .e ?_;refine .c (λh=> ?_) (λh=> ?_)
 .have hu:ub=false:=by simpa using h
  subst hu;refine .x λK hK=> ?_;simp(disch:=omega) only[go_sem,↓ze5,↓neV,↓ze6];(repeat'((first|refine zg ?_ ?_|refine zr ?_ ?_|refine VOg_cond ?_ ?_|refine VOh_cond ?_ ?_|refine zV ?_ ?_|refine uI ?_ ?_)<;>intro h<;>(try simp only[nqb]at h)<;>simp(disch:=omega) only[go_sem,↓ze5,↓neV,↓ze6,h]));all_goals(refine hK _ _ ?_;(refine .ret ⟨_,rfl,?_⟩;first|refine .inl ⟨?_,rfl⟩|refine .base (.id' ?_ (.bool _))|refine .base (.id' ?_ (.int _ _)));clear hK q1 q2 fo hall;subst hr;(simp_all[slot,qA]<;>first|rfl|omega|(rw[gJ];simp;done)|(rw[gJ];simp;omega)))
 have hu:ub=true:=by simpa using h
 subst hu;refine .skip ?_;(repeat refine .seq ?_);refine .rgv (P:=prog) [3,4,7,8] 59 (.bool (!(r1&&(r2&&((decide (sc=0)||decide (sc=1))&&(decide (sd=0)||decide (sd=1))))))) ?_ ?_ ?_
 .rfl
 .cases r1<;>cases r2<;>simp(disch:=omega) only[go_sem]<;>(repeat'(first|((first|refine zg ?_ ?_|refine uI ?_ ?_)<;>intro h<;>(try simp only[nqb]at h)<;>simp(disch:=omega) only[go_sem,h])|((first|refine VCx.call (q1 _) rfl ?_|refine VCx.call (q2 _) rfl ?_);simp(disch:=omega) only[go_sem])));all_goals(clear q1 q2 fo hall hr;(simp_all[slot,qA]<;>first|rfl|omega|(rw[gJ];simp;done)|(rw[gJ];simp;omega)))
 refine .c (λh=> ?_) (λh=> ?_)
 .have hb:(r1&&(r2&&((decide (sc=0)||decide (sc=1))&&(decide (sd=0)||decide (sd=1)))))=false:=by grind
  refine .e ?_;(refine .ret ⟨_,rfl,?_⟩;first|refine .inl ⟨?_,rfl⟩|refine .base (.id' ?_ (.bool _))|refine .base (.id' ?_ (.int _ _)));clear q1 q2 fo hall;subst hr;simp_all[slot,qA]
 have hb:(r1&&(r2&&((decide (sc=0)||decide (sc=1))&&(decide (sd=0)||decide (sd=1)))))=true:=by grind
 refine .skip ?_;(repeat refine .seq ?_);refine .rgv (P:=prog) [3,4,7,8] 73 (.bool (!fp&&(!(decide (vg=0)&&decide (vh=0))|| !decide (sd=0)))) ?_ ?_ ?_
 .rfl
 .simp(disch:=omega) only[go_sem,↓ze5,↓neV,↓ze6];(repeat'((first|refine zg ?_ ?_|refine zr ?_ ?_|refine VOg_cond ?_ ?_|refine VOh_cond ?_ ?_|refine zV ?_ ?_|refine uI ?_ ?_)<;>intro h<;>(try simp only[nqb]at h)<;>simp(disch:=omega) only[go_sem,↓ze5,↓neV,↓ze6,h]));all_goals(clear q1 q2 fo hall hr hb;(simp_all[slot,qA]<;>first|rfl|omega|(rw[gJ];simp;done)|(rw[gJ];simp;omega)))
 refine .c (λh=> ?_) (λh=> ?_)
 .refine .e ?_;(refine .ret ⟨_,rfl,?_⟩;first|refine .inl ⟨?_,rfl⟩|refine .base (.id' ?_ (.bool _))|refine .base (.id' ?_ (.int _ _)));clear q1 q2 fo hall;subst hr;simp_all[slot,qA];omega
 refine .skip (.x λK hK=> ?_);cases ff<;>simp(disch:=omega) only[go_sem]<;>(repeat'(first|((first|refine zg ?_ ?_|refine uI ?_ ?_)<;>intro h<;>(try simp only[nqb]at h)<;>simp(disch:=omega) only[go_sem,h])|((refine VCx.call (fo _) rfl ?_);simp(disch:=omega) only[go_sem])));all_goals(refine hK _ _ ?_;(refine .ret ⟨_,rfl,?_⟩;first|refine .inl ⟨?_,rfl⟩|refine .base (.id' ?_ (.bool _))|refine .base (.id' ?_ (.int _ _)));clear hK q1 q2 fo hall;subst hr;cases r1<;>cases r2<;>simp_all[slot,qA]<;>first|omega|(rw[gJ];simp;done)|(rw[gJ];simp;omega))
def zgj(c:Cx)(m:Mb):Bool:=(decide (c.t=2)&& !(m.ua&& !m.ub))||(!m.ua&& !m.ub)
def d0S(c:Cx)(m:Mb):Bool:=zbT c m.fp m.ua m.va m.vb m.vc m.vd m.sa m.sb
def d1S(c:Cx)(m:Mb):Bool:=zbT c m.fp m.ub m.ve m.vf m.vg m.vh m.sc m.sd
def zqG(c:Cx)(m:Mb):Bool:= !(zgj c m)&&(!(m.fp&& !(bcx c))&&(d0S c m&&d1S c m))
theorem zvX(c:Cx)(m:Mb)(i:Nat)(H:za)(hi:H[i]? =some (mB m)):CallOk prog 155 [.agg (cxc c),.ptr i 0 0] H (.bool (zqG c m)) H:=by
 have f0:=λK=>ztS c m m.ua i (H++K) (zas hi);have f1:=λK=>ztR c m m.ub i (H++K) (zas hi);have bo:=λH=>zle c H;have hr:zqG c m=(!(zgj c m)&&(!(m.fp&& !(bcx c))&&(d0S c m&&d1S c m))):=rfl;have hub:zgj c m=((decide (c.t=2)&& !(m.ua&& !m.ub))||(!m.ua&& !m.ub)):=rfl;change ∀ K,CallOk _ _ _ _ (.bool (d0S c m)) _ at f0;change ∀ K,CallOk _ _ _ _ (.bool (d1S c m)) _ at f1;generalize zqG c m=r at hr |-;generalize d0S c m=e0 at f0 hr;generalize d1S c m=e1 at f1 hr;generalize zgj c m=ux at hub hr;generalize bcx c=bk at bo hr;obtain⟨k,ua,ub,fp,fd,va,vb,vc,vd,ve,vf,vg,vh,sa,sb,sc,sd,dl,ca,cb,cc,cd,ce,cf,lv⟩:=m;obtain⟨t,s,ii,n⟩:=c;simp only[mB,mbc]at hi hr hub f0 f1;have hx:=λK=>zas (K:=K) hi;refine .body (F0:=[(0,.agg [O J t,O J s,.bool ii,.bool n]),(1,.ptr i 0 0)]) func155 rfl ntmps155 results155 rfl kr rfl ?_;refine .e ?_;(repeat refine .seq ?_);refine .rgv (P:=prog) [1,2] 25 (.bool ux) ?_ ?_ ?_
 .rfl
 .refine sqx hx ?_;(repeat'((refine zg ?_ ?_)<;>intro h<;>(try simp only[nqb]at h)<;>simp(disch:=omega) only[go_sem,hx,h]));all_goals(clear f0 f1 bo hi hx hr;cases ua<;>cases ub<;>(simp_all[slot,qA]))
 refine .c (λh=> ?_) (λh=> ?_)
 .subst h;refine .e ?_;(refine .ret ⟨_,rfl,?_⟩;refine .base (.id' ?_ (.bool _)));rw[hr];rfl
 subst h;refine .skip ?_;(repeat refine .seq ?_);refine .rgv (P:=prog) [1,2] 34 (.bool (fp&& !bk)) ?_ ?_ ?_
 .rfl
 .refine sqx hx ?_;(repeat'(first|((refine zg ?_ ?_)<;>intro h<;>(try simp only[nqb]at h)<;>simp(disch:=omega) only[go_sem,hx,h])|((refine VCx.call (bo _) rfl ?_);simp(disch:=omega) only[go_sem,hx])));all_goals(clear f0 f1 bo hi hx hr;(simp_all[slot,qA]))
 refine .c (λh=> ?_) (λh=> ?_)
 .refine .e ?_;(refine .ret ⟨_,rfl,?_⟩;refine .base (.id' ?_ (.bool _)));rw[hr,h];rfl
 rw[h]at hr;refine .skip (.g hx ?_);refine .l (.round ?_);refine .e (.t ?_);refine .skip (.b ?_);refine .e (.k f0 ?_);refine .c (λh=> ?_) (λh=> ?_)
 .have he:e0=false:=by simpa using h
  refine .e ?_;(refine .ret ⟨_,rfl,?_⟩;refine .base (.id' ?_ (.bool _)));rw[hr,he];rfl
 have he:e0=true:=by simpa using h
 refine .skip (.e ?_);refine .round (.e ?_);refine .t (.skip ?_);refine .b (.e ?_);refine .k f1 ?_;refine .c (λh=> ?_) (λh=> ?_)
 .have he1:e1=false:=by simpa using h
  refine .e ?_;(refine .ret ⟨_,rfl,?_⟩;refine .base (.id' ?_ (.bool _)));rw[hr,he,he1];rfl
 have he1:e1=true:=by simpa using h
 refine .skip (.e ?_);refine .round (.e ?_);refine .u (.exit ?_);refine .e ?_;(refine .ret ⟨_,rfl,?_⟩;refine .base (.id' ?_ (.bool _)));rw[hr,he,he1];rfl
def zfV(c:Cx)(m:Mb):Bool:= !(decide (c.t=1)||zgj c m)&&(!((m.fp&& !(bcx c))||(m.fd&& !(bcx c)))&&(d0S c m&&(d1S c m&&(lvr m.lv&&(fbl (cdl m) m.lv&&(if hlM m then win m.dl 30 else !m.fd&&decide (m.dl=0)))))))
theorem zqA(c:Cx)(m:Mb)(H:za)(hl:m.lv.length=384):CallOk prog 238 [.agg (cxc c),.agg (mbc m)] H (.bool (zfV c m)) H:=by
 have f0:∀ H,CallOk _ _ _ H (.bool (d0S c m)) H:=λH=>zt5 c m H;have f1:∀ H,CallOk _ _ _ H (.bool (d1S c m)) H:=λH=>zt4 c m H;have bo:=λH=>zhE c H;have lo:=λH=>zpe m H hl;have co:=λH=>zpF m H hl;have hr:zfV c m=(!(decide (c.t=1)||zgj c m)&&(!((m.fp&& !(bcx c))||(m.fd&& !(bcx c)))&&(d0S c m&&(d1S c m&&(lvr m.lv&&(fbl (cdl m) m.lv&&(if hlM m then win m.dl 30 else !m.fd&&decide (m.dl=0)))))))):=rfl;have hub:zgj c m=((decide (c.t=2)&& !(m.ua&& !m.ub))||(!m.ua&& !m.ub)):=rfl;generalize zfV c m=r at hr |-;generalize d0S c m=e0 at f0 hr;generalize d1S c m=e1 at f1 hr;generalize zgj c m=ux at hub hr;generalize bcx c=bk at bo hr;generalize hlM m=hh at co hr;obtain⟨k,ua,ub,fp,fd,va,vb,vc,vd,ve,vf,vg,vh,sa,sb,sc,sd,dl,ca,cb,cc,cd,ce,cf,lv⟩:=m;obtain⟨t,s,ii,n⟩:=c;have hwin:win dl 30=(decide (-30<=dl)&&decide (dl<=30)):=rfl;simp only[mbc,cdl]at hr hub f0 f1 lo co hl |-;have hall:=zq lv;have htk:qD 384 (is lv)=is lv:=gH (by rw[zj];omega);have hdrop:∀ n:Nat,List.drop (24+n * 64) (O J k:: .bool ua:: .bool ub:: .bool fp:: .bool fd:: O J va:: O J vb:: O J vc:: O J vd:: O J ve:: O J vf:: O J vg:: O J vh:: O J sa:: O J sb:: O J sc:: O J sd:: O J dl:: .bool ca:: .bool cb:: .bool cc:: .bool cd:: .bool ce:: .bool cf::is lv)=is (lv.drop (n * 64)):=λn=>by rw[show 24+n * 64=n * 64+24 from om];simp_all[sP,zeR]
 obtain⟨cs,hcs⟩:∃ cs,cs=[ca,cb,cc,cd,ce,cf]:=⟨_,rfl⟩;have hcl:cs.length=6:=by rw[hcs];rfl
 have hcg:∀ q:Nat,q<6->(O J k:: .bool ua:: .bool ub:: .bool fp:: .bool fd:: O J va:: O J vb:: O J vc:: O J vd:: O J ve:: O J vf:: O J vg:: O J vh:: O J sa:: O J sb:: O J sc:: O J sd:: O J dl:: .bool ca:: .bool cb:: .bool cc:: .bool cd:: .bool ce:: .bool cf::is lv)[18+q]? =some (.bool (zN cs q)):=λq hq=>by have:q=0\/q=1\/q=2\/q=3\/q=4\/q=5:=om;rcases this with rfl|rfl|rfl|rfl|rfl|rfl<;>(rw[hcs];rfl)
 rw[<-hcs]at hr;generalize hlr:lvr lv=lr at lo hr;generalize hfb:fbl cs lv=fb at hr;refine .body (F0:=[(0,.agg [O J t,O J s,.bool ii,.bool n]),(1,.agg (O J k:: .bool ua:: .bool ub:: .bool fp:: .bool fd:: O J va:: O J vb:: O J vc:: O J vd:: O J ve:: O J vf:: O J vg:: O J vh:: O J sa:: O J sb:: O J sc:: O J sd:: O J dl:: .bool ca:: .bool cb:: .bool cc:: .bool cd:: .bool ce:: .bool cf::is lv))]) func238 rfl ntmps238 results238 rfl kr rfl ?_;refine .g hall ?_;(repeat refine .seq ?_);refine .rgv (P:=prog) [2,3] 25 (.bool (decide (t=1)||ux)) ?_ ?_ ?_
 .rfl
 .refine sqz ?_;(repeat'((first|refine zg ?_ ?_|refine zr ?_ ?_|refine VOg_cond ?_ ?_|refine VOh_cond ?_ ?_|refine zV ?_ ?_|refine uI ?_ ?_)<;>intro h<;>(try simp only[nqb]at h)<;>simp(disch:=omega) only[go_sem,h]));all_goals(clear f0 f1 bo lo co hr hall hdrop hcg hcs;cases ua<;>cases ub<;>(simp_all[slot,qA]<;>first|rfl|omega|(rw[gJ];simp;done)|(rw[gJ];simp;omega)))
 refine .c (λh=> ?_) (λh=> ?_)
 .refine .e ?_;(refine .ret ⟨_,rfl,?_⟩;first|refine .inl ⟨?_,rfl⟩|refine .base (.id' ?_ (.bool _))|refine .base (.id' ?_ (.int _ _)));rw[hr,h];rfl
 rw[h]at hr;refine .skip ?_;(repeat refine .seq ?_);refine .rgv (P:=prog) [2,3] 58 (.bool (((fp&& !bk)||(fd&& !bk))||(!e0||(!e1|| !lr)))) ?_ ?_ ?_
 .rfl
 .cases fp<;>cases fd<;>simp(disch:=omega) only[go_sem,hall,zj,hl,htk]<;>(repeat'(first|((first|refine zg ?_ ?_|refine uI ?_ ?_)<;>intro h<;>(try simp only[nqb]at h)<;>simp(disch:=omega) only[go_sem,hall,zj,hl,htk,h])|((first|refine VCx.call (bo _) rfl ?_|refine VCx.call (f0 _) rfl ?_|refine VCx.call (f1 _) rfl ?_|refine VCx.call (lo _) rfl ?_);simp(disch:=omega) only[go_sem,hall,zj,hl,htk])));all_goals(clear f0 f1 bo lo co hr hall hdrop hcg hcs;(simp_all[slot,qA]<;>first|rfl|omega|(rw[gJ];simp;done)|(rw[gJ];simp;omega)))
 refine .c (λh=> ?_) (λh=> ?_)
 .refine .e ?_;(refine .ret ⟨_,rfl,?_⟩;first|refine .inl ⟨?_,rfl⟩|refine .base (.id' ?_ (.bool _))|refine .base (.id' ?_ (.int _ _)));rw[hr];clear f0 f1 bo lo co hall hdrop hcg hcs hr;grind[slot,qA]
 have hz:(((fp&& !bk)||(fd&& !bk))=false/\e0=true/\e1=true/\lr=true):=by simp_all
 rw[hz.1,hz.2.1,hz.2.2.1,hz.2.2.2]at hr;simp only[mM,uP]at hr;refine .skip ?_;clear f0 f1 bo lo;refine .e (.l ?_);suffices hloop:∀(n1:Nat),n1<=6->(∀ q,q<n1->zN cs q≠zbk lv q)->PL prog _ _ [(3,.ptr (H.length+1) 0 0),(5,O J (n1:Int))] (H++[⟨205,0,[O J t,O J s,.bool ii,.bool n]⟩,⟨142,0,O J k:: .bool ua:: .bool ub:: .bool fp:: .bool fd:: O J va:: O J vb:: O J vc:: O J vd:: O J ve:: O J vf:: O J vg:: O J vh:: O J sa:: O J sb:: O J sc:: O J sd:: O J dl:: .bool ca:: .bool cb:: .bool cc:: .bool cd:: .bool ce:: .bool cf::is lv⟩]) _ by exact .a (hloop 0 om (λq hq=>om))
 intro n1 hn hq;induction hm:6 - n1 using Nat.strongRecOn generalizing n1 with
 | _ m ih=>
  refine .round (.e ?_);refine .c (λh=> ?_) (λh=> ?_)
  .have h4:n1<6:=by grind
   have hbl:=zhD lv n1 hl h4;have hcel:=zq ((lv.drop (n1 * 64)).take 64);have hnx:=ih (6 - (n1+1)) om (n1+1) om;have hzb:zbk lv n1=((lv.drop (n1 * 64)).take 64==qB 64 0):=rfl;have hc1:=hcg n1 h4;refine .skip (.b ?_);generalize hbb:(lv.drop (n1 * 64)).take 64=bl at *;have hpq:zel (.int .i64) (is bl) [O J 0,O J 0,O J 0,O J 0,O J 0,O J 0,O J 0,O J 0,O J 0,O J 0,O J 0,O J 0,O J 0,O J 0,O J 0,O J 0,O J 0,O J 0,O J 0,O J 0,O J 0,O J 0,O J 0,O J 0,O J 0,O J 0,O J 0,O J 0,O J 0,O J 0,O J 0,O J 0,O J 0,O J 0,O J 0,O J 0,O J 0,O J 0,O J 0,O J 0,O J 0,O J 0,O J 0,O J 0,O J 0,O J 0,O J 0,O J 0,O J 0,O J 0,O J 0,O J 0,O J 0,O J 0,O J 0,O J 0,O J 0,O J 0,O J 0,O J 0,O J 0,O J 0,O J 0,O J 0]=some (bl==qB 64 0):=zfJ .i64 bl (qB 64 0) (by rw[hbl];simp);generalize (bl==qB 64 0)=zz at *;refine .dn λK hK=> ?_;simp(disch:=omega) only[go_sem,hdrop,zdK,hbb,zj,hbl,hcel,hpq,hc1];refine hK _ _ ?_;refine .c (λh=> ?_) (λh=> ?_)
   .have h6:zN cs n1=zz:=by cases hzz:zz<;>cases hff:zN cs n1<;>rw[hzz,hff]at h<;>first|rfl|(simp at h)
    refine .e ?_;(refine .ret ⟨_,rfl,?_⟩;first|refine .inl ⟨?_,rfl⟩|refine .base (.id' ?_ (.bool _))|refine .base (.id' ?_ (.int _ _)));rw[hr,<-hfb,ztT h4 (by rw[hzb];exact h6)];rfl
   .have h6:zN cs n1≠zz:=by cases hzz:zz<;>cases hff:zN cs n1<;>rw[hzz,hff]at h<;>simp at h<;>simp
    refine .skip (.e ?_);refine .a (hnx (λq hq'=> ?_) rfl);grind
  .have h4:n1=6:=by grind
   subst h4;refine .exit ?_;rw[<-hfb,zkV hq,uP]at hr;clear hq ih;refine .f (λK k=>by simp(disch:=omega) only[go_sem,hall,zj,hl,htk];refine VCx.call (co _) rfl ?_;simp(disch:=omega) only[go_sem,hall,zj,hl,htk];exact k) ?_;refine .c (λh=> ?_) (λh=> ?_)
   .have he:hh=false:=by simpa using h
    subst he;simp only[wX,sV]at hr;refine .x λK hK=> ?_;simp(disch:=omega) only[go_sem];(repeat'((first|refine zg ?_ ?_|refine zr ?_ ?_|refine VOg_cond ?_ ?_|refine VOh_cond ?_ ?_|refine zV ?_ ?_|refine uI ?_ ?_)<;>intro h<;>(try simp only[nqb]at h)<;>simp(disch:=omega) only[go_sem,h]));all_goals(refine hK _ _ ?_;(refine .ret ⟨_,rfl,?_⟩;first|refine .inl ⟨?_,rfl⟩|refine .base (.id' ?_ (.bool _))|refine .base (.id' ?_ (.int _ _)));rw[hr];clear hK co hall hdrop hcg hcs hr hfb;(simp_all[slot,qA]<;>first|rfl|omega|(rw[gJ];simp;done)|(rw[gJ];simp;omega)))
   .have he:hh=true:=by simpa using h
    subst he;simp only[wN]at hr;refine .skip (.x λK hK=> ?_);simp(disch:=omega) only[go_sem];(repeat'((first|refine zg ?_ ?_|refine zr ?_ ?_|refine VOg_cond ?_ ?_|refine VOh_cond ?_ ?_|refine zV ?_ ?_|refine uI ?_ ?_)<;>intro h<;>(try simp only[nqb]at h)<;>simp(disch:=omega) only[go_sem,h]));all_goals(refine hK _ _ ?_;(refine .ret ⟨_,rfl,?_⟩;first|refine .inl ⟨?_,rfl⟩|refine .base (.id' ?_ (.bool _))|refine .base (.id' ?_ (.int _ _)));rw[hr,hwin];clear hK co hall hdrop hcg hcs hr hfb hwin;(simp_all[slot,qA]<;>first|rfl|omega|(rw[gJ];simp;done)|(rw[gJ];simp;omega)))
def zxp:List Int:=qB 64 0
def zl384:List Int:=qB 384 0
def zlv(lv:List Int):Bool:=zbk lv 0&&(zbk lv 1&&(zbk lv 2&&(zbk lv 3&&(zbk lv 4&&(zbk lv 5&&true)))))
theorem zv6(xs ys:List PV):za0 prog 10 139 (.agg xs) (.agg ys)=if szT prog 3=some 1/\xs.length=64/\ys.length=64 then zel (.int .i64) xs ys else none:=kr
theorem zxR:szT prog 3=some 1:=kr
theorem eqBl(bl:List Int)(h:bl.length=64):za0 prog 10 139 (.agg (is bl)) (.agg (is zxp))=some (bl==qB 64 0):=by rw[zv6,gD ⟨zxR,by rw[zj];exact h,by rw[zj];rfl⟩];exact zfJ .i64 bl (qB 64 0) (by rw[h];rfl)
theorem zvo(xs:List PV)(off:Nat):rd prog 139 xs off=if off+64<=xs.length then some (.agg ((xs.drop off).take 64))else none:=kr
theorem zzX(lv:List Int)(n:Nat)(hl:lv.length=384)(hn:n<6):rd prog 139 (is lv) (n * 64)=some (.agg (is ((lv.drop (n * 64)).take 64))):=by rw[zvo,gD (by rw[zj];omega),zeR,zdK]
theorem zxo(n:Nat)(hn:n<6):(zl384.drop (n * 64)).take 64=zxp:=by unfold zl384 zxp;rw[rS,sO];congr 1;omega
theorem ztU(xs ys:List PV):za0 prog 11 140 (.agg xs) (.agg ys)=zjc (za0 prog 10) prog 139 64 xs ys [0,1,2,3,4,5]:=kr
theorem zct(lv:List Int)(n:Nat)(r:List Nat)(b:Bool)(hl:lv.length=384)(hn:n<6)(hr:zjc (za0 prog 10) prog 139 64 (is lv) (is zl384) r=some b):zjc (za0 prog 10) prog 139 64 (is lv) (is zl384) (n::r)=some (zbk lv n&&b):=by have h1:=zzX lv n hl hn;have h2:=zzX zl384 n (uQ) hn;rw[zxo n hn]at h2;have h3:=eqBl _ (zhD lv n hl hn);unfold zjc;rw[h1,h2];simp only[h3,hr];rfl
theorem eqLv(lv:List Int)(hl:lv.length=384):za0 prog 11 140 (.agg (is lv)) (.agg (is zl384))=some (zlv lv):=by rw[ztU];exact zct lv 0 _ _ hl om (zct lv 1 _ _ hl om (zct lv 2 _ _ hl om (zct lv 3 _ _ hl om (zct lv 4 _ _ hl om (zct lv 5 _ _ hl om rfl)))))
theorem zvn(xs:List PV)(off:Nat):rd prog 140 xs off=if off+384<=xs.length then some (.agg ((xs.drop off).take 384))else none:=kr
def zMb:Mb:=⟨0,false,false,false,false,0,0,0,0,0,0,0,0,0,0,0,0,0,false,false,false,false,false,false,zl384⟩
def zmv:List PV:=mbc zMb
theorem zy5:zdG prog 142 []=some (.agg zmv):=kr
theorem zy6:zdG prog 140 []=some (.agg (is zl384)):=kr
def mbF(P:Program):List Field:=match P.underlying 142 with|some (.struct fs)=>fs.toList|_=>[]
def zyw(P:Program):List Field:=(mbF P).take 8
def zyx(P:Program):List Field:=(mbF P).drop 8
theorem zmi(eq:TypeId->PV->PV->Option Bool)(P:Program)(xs ys:List PV)(s:List Field)(b:Bool)(hs:zcl eq P xs ys s=some b):∀(r:List Field) (a:Bool),zcl eq P xs ys r=some a->zcl eq P xs ys (r++s)=some (a&&b)
 | [],a,h=>by
  cases h;exact hs
 | f::r,a,h=>by
  rw [uZ];revert h;simp only [zcl];cases decide (f.name = "_") with
  | true=>intro h;cases h
  | false=>
   cases rd P f.type xs f.offset with
   | none=>intro h;cases h
   | some x=>
    cases rd P f.type ys f.offset with
    | none=>intro h;cases h
    | some y=>
     dsimp only;cases eq f.type x y with
     | none=>intro h;cases h
     | some c=>
      dsimp only;cases hq:zcl eq P xs ys r with
      | none=>intro h;cases h
      | some q=>rw[zmi eq P xs ys s b hs r q hq];intro h;cases h;simp[mO]
def zA(m:Mb):Bool:=(m.k==0)&&(((m.ua==false)&&((m.ub==false)&&true))&&((m.fp==false)&&((m.fd==false)&&((((((m.va==0)&&((m.vb==0)&&true))&&(((m.vc==0)&&((m.vd==0)&&true))&&true)))&&(((((m.ve==0)&&((m.vf==0)&&true))&&(((m.vg==0)&&((m.vh==0)&&true))&&true)))&&true))&&((((m.sa==0)&&((m.sb==0)&&true))&&((((m.sc==0)&&((m.sd==0)&&true)))&&true))&&((m.dl==0)&&(((m.ca==false)&&((m.cb==false)&&((m.cc==false)&&((m.cd==false)&&((m.ce==false)&&((m.cf==false)&&true))))))&&true)))))))
def zmb(m:Mb):Bool:=zA m&&(zlv m.lv&&true)
theorem zz6(k:Int)(ua ub fp fd:Bool)(va vb vc vd ve vf vg vh sa sb sc sd dl:Int)(ca cb cc cd ce cf:Bool)(lv:List Int):zcl (za0 prog 11) prog (mbc ⟨k,ua,ub,fp,fd,va,vb,vc,vd,ve,vf,vg,vh,sa,sb,sc,sd,dl,ca,cb,cc,cd,ce,cf,lv⟩) zmv (zyw prog)=some (zA ⟨k,ua,ub,fp,fd,va,vb,vc,vd,ve,vf,vg,vh,sa,sb,sc,sd,dl,ca,cb,cc,cd,ce,cf,lv⟩):=kr
theorem zqp(xs ys:List PV)(x y:PV)(b:Bool)(hx:rd prog 140 xs 24=some x)(hy:rd prog 140 ys 24=some y)(hb:za0 prog 11 140 x y=some b):zcl (za0 prog 11) prog xs ys (zyx prog)=some (b&&true):=by
 have e:zcl (za0 prog 11) prog xs ys (zyx prog)=match rd prog 140 xs 24,rd prog 140 ys 24 with
   | some a,some b=>match za0 prog 11 140 a b with
    | some c=>some (c&&true)
    | none=>none
   | _,_=>none:=kr
 rw[e,hx,hy];simp only[hb]
theorem zs4(m:Mb):(mbc m).drop 24=is m.lv:=rfl
theorem zu(m:Mb)(hl:m.lv.length=384):(mbc m).length=408:=by simp only[mbc,gZ,zj,hl]
theorem zzT(m:Mb)(hl:m.lv.length=384):rd prog 140 (mbc m) 24=some (.agg (is m.lv)):=by rw[zvn,gD (by rw[zu m hl];omega),zs4,gH (by rw[zj];omega)]
theorem zvy(xs ys:List PV):za0 prog 12 142 (.agg xs) (.agg ys)=zcl (za0 prog 11) prog xs ys ((zyw prog)++(zyx prog)):=kr
theorem zyR(m:Mb)(hl:m.lv.length=384):zdF prog .eql 142 (.agg (mbc m)) (.agg zmv)=some (.bool (zmb m)):=by
 have e:∀ x y,zdF prog .eql 142 x y=match za0 prog 12 142 x y with|some b=>peq .eql b|none=>none:=λx y=>by kernel_rfl
 have hz:zmv=mbc zMb:=rfl;rw[e,zvy,hz,zmi _ _ _ _ _ _ (zqp _ _ _ _ _ (zzT m hl) (zzT zMb uQ) (eqLv m.lv hl)) (zyw prog) (zA m) (zz6 ..)];rfl
theorem zq1:zlv zl384=true:=by decide
theorem opMb(F:Nat->PV)(H:za):pop prog (.build 142 #[]) F H=some (.agg zmv,H):=by show(zdG prog 142 []).map (λv=>(v,H))=_;rw[zy5];rfl
theorem opLv(F:Nat->PV)(H:za):pop prog (.build 140 #[]) F H=some (.agg (is zl384),H):=by show(zdG prog 140 []).map (λv=>(v,H))=_;rw[zy6];rfl
theorem zjm(ds:List (Option Nat))(d:Option Nat)(t:TypeId)(a:Array Edge)(g:Option (Nat×Bool))(p:String)(F:Fr)(H:za):stp prog ds { op:=.build 142 #[],dst:=d,type:=t,after:=a,guard:=g,pos:=p } F H=match zbq ds F { op:=.build 142 #[],dst:=d,type:=t,after:=a,guard:=g,pos:=p }with
  | none=>none
  | some b=>cond b (some (put F d (.agg zmv),H)) (some (put F d (.tup []),H)):=by
 rw[znl,opMb];rfl
theorem zzK(ds:List (Option Nat))(d:Option Nat)(t:TypeId)(a:Array Edge)(g:Option (Nat×Bool))(p:String)(F:Fr)(H:za):stp prog ds { op:=.build 140 #[],dst:=d,type:=t,after:=a,guard:=g,pos:=p } F H=match zbq ds F { op:=.build 140 #[],dst:=d,type:=t,after:=a,guard:=g,pos:=p }with
  | none=>none
  | some b=>cond b (some (put F d (.agg (is zl384)),H)) (some (put F d (.tup []),H)):=by
 rw[znl,opLv];rfl
theorem eqMx(k:Int)(ua ub fp fd:Bool)(va vb vc vd ve vf vg vh sa sb sc sd dl:Int)(ca cb cc cd ce cf:Bool)(lv:List Int)(hl:lv.length=384):zdF prog .eql 142 (.agg (O J k:: .bool ua:: .bool ub:: .bool fp:: .bool fd:: O J va:: O J vb:: O J vc:: O J vd:: O J ve:: O J vf:: O J vg:: O J vh:: O J sa:: O J sb:: O J sc:: O J sd:: O J dl:: .bool ca:: .bool cb:: .bool cc:: .bool cd:: .bool ce:: .bool cf::is lv)) (.agg zmv)=some (.bool (zmb ⟨k,ua,ub,fp,fd,va,vb,vc,vd,ve,vf,vg,vh,sa,sb,sc,sd,dl,ca,cb,cc,cd,ce,cf,lv⟩)):=zyR ⟨k,ua,ub,fp,fd,va,vb,vc,vd,ve,vf,vg,vh,sa,sb,sc,sd,dl,ca,cb,cc,cd,ce,cf,lv⟩ hl
theorem eqB2(a b:Bool):zdF prog .eql 131 (.agg [.bool a,.bool b]) (.agg [.bool false,.bool false])=some (.bool ((a==false)&&((b==false)&&true))):=kr
theorem zAq(a b c d e f:Bool):zdF prog .eql 138 (.agg [.bool a,.bool b,.bool c,.bool d,.bool e,.bool f]) (.agg [.bool true,.bool true,.bool true,.bool true,.bool true,.bool true])=some (.bool ((a==true)&&((b==true)&&((c==true)&&((d==true)&&((e==true)&&((f==true)&&true))))))):=kr
theorem eqV4(a b c d e f g h:Int):zdF prog .eql 135 (.agg [O J a,O J b,O J c,O J d,O J e,O J f,O J g,O J h]) (.agg [O J 0,O J 0,O J 0,O J 0,O J 0,O J 0,O J 0,O J 0])=some (.bool ((((a==0)&&((b==0)&&true))&&(((c==0)&&((d==0)&&true))&&true))&&((((e==0)&&((f==0)&&true))&&(((g==0)&&((h==0)&&true))&&true))&&true))):=kr
theorem eqI4(a b c d:Int):zdF prog .eql 137 (.agg [O J a,O J b,O J c,O J d]) (.agg [O J 0,O J 0,O J 0,O J 0])=some (.bool (((a==0)&&((b==0)&&true))&&(((c==0)&&((d==0)&&true))&&true))):=kr
theorem zwt(H:za):CallOk prog 152 [] H (.agg [.bool true,.bool true,.bool true,.bool true,.bool true,.bool true]) H:=by refine .go func152 ntmps152 results152 ?_;refine .e (.e ?_);refine .v (.agg [.bool true,.bool true,.bool true,.bool true,.bool true,.bool true]) ?_;refine .base (.id (zn λx hx=> ?_));simp only[gM,gL,uA,or_self]at hx;subst hx;exact .bool _
def zI(m:Mb):Bool:=(((m.ua==false)&&((m.ub==false)&&true))&&(!m.fp&&(((((m.va==0)&&((m.vb==0)&&true))&&(((m.vc==0)&&((m.vd==0)&&true))&&true))&&((((m.ve==0)&&((m.vf==0)&&true))&&(((m.vg==0)&&((m.vh==0)&&true))&&true))&&true))&&(((m.sa==0)&&((m.sb==0)&&true))&&(((m.sc==0)&&((m.sd==0)&&true))&&true)))))
def aC(m:Mb):Bool:=(m.ca==true)&&((m.cb==true)&&((m.cc==true)&&((m.cd==true)&&((m.ce==true)&&((m.cf==true)&&true)))))
def fmS(c:Cx)(m:Mb):Bool:=vcx c&&(if m.k=0 then !decide (c.t=1)&&zmb m else if m.k=1 then zI m&&(aC m&&(fch c m&&lvr m.lv))else if m.k=2 then zfV c m else false)
theorem zvP(c:Cx)(m:Mb)(hk:m.k=2)(ht:¬c.t=1):zfV c m=(zqG c m&&(fch c m&&(fbl (cdl m) m.lv&&lvr m.lv))):=by unfold zfV zqG fch;grind
theorem zyF(c:Cx)(m:Mb)(ht:c.t=1):zfV c m=false:=by simp_all[zfV]
theorem zAk(c:Cx)(m:Mb)(H:za)(hl:m.lv.length=384):CallOk prog 89 [.agg (cxc c),.agg (mbc m)] H (.bool (fmS c m)) H:=by
 have vo:=λH=>znb c H;have hgt:∀ T,(H++[T,mB m])[H.length+1]? =some (mB m):=λT=>by simp
 have ho:=λT=>zyP c m (H.length+1) (H++[T,mB m]) (hgt T);have fo:=λT=>zvX c m (H.length+1) (H++[T,mB m]) (hgt T);have bo:=λT=>zyQ m (H.length+1) (H++[T,mB m]) (hgt T) hl;have lo:=λT=>zyy m (H.length+1) (H++[T,mB m]) (hgt T) hl;have ao:=λH=>zwt H;have hi:=zvP c m;have hi1:=zyF c m;have hr:fmS c m=(vcx c&&(if m.k=0 then !decide (c.t=1)&&zmb m else if m.k=1 then zI m&&(aC m&&(fch c m&&lvr m.lv))else if m.k=2 then zfV c m else false)):=rfl;generalize fmS c m=r at hr |-;generalize vcx c=vv at vo hr;generalize fch c m=fc at ho hi hr;generalize zqG c m=fr at fo hi;generalize fbl (cdl m) m.lv=fb at bo hi;generalize lvr m.lv=lr at lo hi hr;generalize zfV c m=is0 at hi hi1 hr;have hzm:zmb m=zmb m:=rfl;generalize hzI:zI m=zi at hr;generalize hac:aC m=ac at hr;have hem:=zyR m hl;generalize zmb m=zm at hem hr;obtain⟨k,ua,ub,fp,fd,va,vb,vc,vd,ve,vf,vg,vh,sa,sb,sc,sd,dl,ca,cb,cc,cd,ce,cf,lv⟩:=m;obtain⟨t,s,ii,n⟩:=c;clear hgt;simp only[mB,mbc]at hr hi hi1 ho fo bo lo hl hem |-;have hall:=zq lv;have htk:qD 384 (is lv)=is lv:=gH (by rw[zj];omega);refine .body (F0:=[(0,.agg [O J t,O J s,.bool ii,.bool n]),(1,.agg (O J k:: .bool ua:: .bool ub:: .bool fp:: .bool fd:: O J va:: O J vb:: O J vc:: O J vd:: O J ve:: O J vf:: O J vg:: O J vh:: O J sa:: O J sb:: O J sc:: O J sd:: O J dl:: .bool ca:: .bool cb:: .bool cc:: .bool cd:: .bool ce:: .bool cf::is lv))]) func89 rfl ntmps89 results89 rfl kr rfl ?_;refine .g hall ?_;(repeat refine .seq ?_);refine .rgv (P:=prog) [2,3] 18 (.bool (!vv||(!decide (k=1)&&decide (t=1)))) ?_ ?_ ?_
 .rfl
 .simp(disch:=omega) only[go_sem];(repeat'(first|((first|refine zg ?_ ?_|refine uI ?_ ?_)<;>intro h<;>(try simp only[nqb]at h)<;>simp(disch:=omega) only[go_sem,h])|((refine VCx.call (vo _) rfl ?_);simp(disch:=omega) only[go_sem])));all_goals(clear vo ho fo bo lo hi hr hall htk hem;(simp_all[slot,qA]<;>rfl))
 refine .c (λh=> ?_) (λh=> ?_)
 .refine .e ?_;(refine .ret ⟨_,rfl,?_⟩;refine .base (.id' ?_ (.bool _)));clear vo ho fo bo lo hi hall htk hem;grind[slot,qA]
 refine .skip ?_;have hvv:vv=true/\(k=1\/¬t=1):=by grind
 rw[hvv.1,uP]at hr;clear vo h;refine .e (.b ?_);refine .e ?_;refine .c (λh=> ?_) (λh=> ?_)
 .have hk0:k=0:=vF h;subst hk0;have ht:¬t=1:=by rcases hvv.2 with h1|h1;(cases h1);exact h1
  rw[gD rfl,gW ht]at hr;refine .f (λK k=>by simp(disch:=omega) only[go_sem,hall,zj,hl,htk,↓zjm,↓hem];exact k) ?_;(refine .ret ⟨_,rfl,?_⟩;refine .base (.id' ?_ (.bool _)));rw[hr];rfl
 have hk0:¬k=0:=vH h;rw[gC hk0]at hr;refine .e ?_;refine .c (λh=> ?_) (λh=> ?_)
 .have hk1:k=1:=vF h;subst hk1;rw[gD rfl]at hr;have q1:=eqB2 ua ub;have q2:=eqV4 va vb vc vd ve vf vg vh;have q3:=eqI4 sa sb sc sd;have q4:=zAq ca cb cc cd ce cf;have hz2:zi=(((ua==false)&&((ub==false)&&true))&&(!fp&&(((((va==0)&&((vb==0)&&true))&&(((vc==0)&&((vd==0)&&true))&&true))&&((((ve==0)&&((vf==0)&&true))&&(((vg==0)&&((vh==0)&&true))&&true))&&true))&&(((sa==0)&&((sb==0)&&true))&&(((sc==0)&&((sd==0)&&true))&&true))))):=hzI.symm;have hc2:ac=((ca==true)&&((cb==true)&&((cc==true)&&((cd==true)&&((ce==true)&&((cf==true)&&true)))))):=hac.symm;rw[<-hc2]at q4;generalize ((ua==false)&&((ub==false)&&true))=b1 at q1 hz2;generalize (((((va==0)&&((vb==0)&&true))&&(((vc==0)&&((vd==0)&&true))&&true))&&((((ve==0)&&((vf==0)&&true))&&(((vg==0)&&((vh==0)&&true))&&true))&&true)))=b2 at q2 hz2;generalize (((sa==0)&&((sb==0)&&true))&&(((sc==0)&&((sd==0)&&true))&&true))=b3 at q3 hz2;clear hc2 hzI hac hem hi hi1 hzm fo bo;(repeat refine .seq ?_);refine .rgv (P:=prog) [2,3] 5 (.bool zi) ?_ ?_ ?_
  .rfl
  .simp(disch:=omega) only[go_sem,↓q1,↓q2,↓q3];(repeat'((refine zg ?_ ?_)<;>intro h<;>(try simp only[nqb]at h)<;>simp(disch:=omega) only[go_sem,↓q1,↓q2,↓q3,h]));all_goals(clear ho lo hr hall htk q1 q2 q3 q4;subst hz2;(simp_all[slot,qA]<;>rfl))
  clear hz2;cases zi
  .refine .dn λK hK=> ?_;simp(disch:=omega) only[go_sem];refine hK _ _ ?_;(refine .ret ⟨_,rfl,?_⟩;refine .base (.id' ?_ (.bool _)));rw[hr];rfl
  refine .dn λK hK=> ?_;simp(disch:=omega) only[go_sem,↓q4];refine VCy.callP ao rfl ?_;simp(disch:=omega) only[go_sem,↓q4];(repeat'(first|((first|refine zr ?_ ?_|refine uI ?_ ?_)<;>intro h<;>(try simp only[nqb]at h)<;>simp(disch:=omega) only[go_sem,↓q4,h])|((first|refine VCy.call (ho _) rfl ?_|refine VCy.call (lo _) rfl ?_);simp(disch:=omega) only[go_sem,↓q4])));all_goals(refine hK _ _ ?_;(refine .ret ⟨_,rfl,?_⟩;refine .base (.id' ?_ (.bool _)));clear hK ho lo hall htk q1 q2 q3 q4;subst hr;(simp_all[slot,qA]<;>rfl))
 have hk1:¬k=1:=vH h;rw[gC hk1]at hr;refine .e ?_;refine .c (λh=> ?_) (λh=> ?_)
 .have hk2:k=2:=vF h;subst hk2;have ht:¬t=1:=by rcases hvv.2 with h1|h1;(cases h1);exact h1
  rw[gD rfl,hi rfl ht]at hr;clear hi hi1 hzI hac hem hzm;refine .x λK hK=> ?_;simp(disch:=omega) only[go_sem];(repeat'(first|((first|refine zg ?_ ?_|refine uI ?_ ?_)<;>intro h<;>(try simp only[nqb]at h)<;>simp(disch:=omega) only[go_sem,h])|((first|refine VCx.call (fo _) rfl ?_|refine VCx.call (ho _) rfl ?_|refine VCx.call (bo _) rfl ?_|refine VCx.call (lo _) rfl ?_);simp(disch:=omega) only[go_sem])));all_goals(refine hK _ _ ?_;(refine .ret ⟨_,rfl,?_⟩;refine .base (.id' ?_ (.bool _)));clear hK fo bo ho lo hall htk;subst hr;(simp_all[slot,qA]<;>rfl))
 have hk2:¬k=2:=vH h;rw[gC hk2]at hr;refine .skip (.e ?_);(refine .ret ⟨_,rfl,?_⟩;refine .base (.id' ?_ (.bool _)));rw[hr];rfl
theorem zzn(k:Int)(ua ub fp fd:Bool)(va vb vc vd ve vf vg vh sa sb sc sd dl:Int)(ca cb cc cd ce cf:Bool)(lv:List Int):zmb ⟨0,ua,ub,fp,false,va,vb,vc,vd,ve,vf,vg,vh,sa,sb,sc,sd,0,false,false,false,false,false,false,zl384⟩=zI ⟨k,ua,ub,fp,fd,va,vb,vc,vd,ve,vf,vg,vh,sa,sb,sc,sd,dl,ca,cb,cc,cd,ce,cf,lv⟩:=by unfold zmb zA zI;dsimp only;rw[zq1];generalize ((ua==false)&&((ub==false)&&true))=b1;generalize ((((va==0)&&((vb==0)&&true))&&(((vc==0)&&((vd==0)&&true))&&true))&&((((ve==0)&&((vf==0)&&true))&&(((vg==0)&&((vh==0)&&true))&&true))&&true))=b2;generalize (((sa==0)&&((sb==0)&&true))&&(((sc==0)&&((sd==0)&&true))&&true))=b3;cases b1<;>cases fp<;>cases b2<;>cases b3<;>rfl
theorem zAn(c:Cx)(m:Mb)(hk:m.k=1):fch c m=((bcx c|| !m.fd)&&win m.dl 30):=by unfold fch hlM;rw[gX hk];rfl
theorem zyN(c:Cx)(m:Mb)(H:za)(hl:m.lv.length=384):CallOk prog 181 [.agg (cxc c),.agg (mbc m)] H (.bool (fmS c m)) H:=by
 have vo:=λH=>zj3 c H;have bo:=λH=>zhE c H;have io:=λH=>zqA c m H hl;have lo:=λH=>zpe m H hl;have hf:=zAn c m;have hr:fmS c m=(vcx c&&(if m.k=0 then !decide (c.t=1)&&zmb m else if m.k=1 then zI m&&(aC m&&(fch c m&&lvr m.lv))else if m.k=2 then zfV c m else false)):=rfl;generalize fmS c m=r at hr |-;generalize vcx c=vv at vo hr;generalize bcx c=bk at bo hf;generalize fch c m=fc at hf hr;generalize lvr m.lv=lr at lo hr;generalize zfV c m=is0 at io hr;have hem:=zyR m hl;generalize zmb m=zm at hem hr;obtain⟨k,ua,ub,fp,fd,va,vb,vc,vd,ve,vf,vg,vh,sa,sb,sc,sd,dl,ca,cb,cc,cd,ce,cf,lv⟩:=m;obtain⟨t,s,ii,n⟩:=c;have hzi:=zzn k ua ub fp fd va vb vc vd ve vf vg vh sa sb sc sd dl ca cb cc cd ce cf lv;generalize zI ⟨k,ua,ub,fp,fd,va,vb,vc,vd,ve,vf,vg,vh,sa,sb,sc,sd,dl,ca,cb,cc,cd,ce,cf,lv⟩=zi at hzi hr;generalize hac:aC ⟨k,ua,ub,fp,fd,va,vb,vc,vd,ve,vf,vg,vh,sa,sb,sc,sd,dl,ca,cb,cc,cd,ce,cf,lv⟩=ac at hr;simp only[mbc]at hr hf io lo hl hem |-;have hall:=zq lv;have hall2:=zq zl384;have hz3:zl384.length=384:=uQ;have htk:qD 384 (is lv)=is lv:=gH (by rw[zj];omega);have hdk:List.drop 384 (is lv)=[]:=uB (by rw[zj];omega);have htk2:qD 384 (is zl384)=is zl384:=gH (by rw[zj,hz3];omega);refine .body (F0:=[(0,.agg [O J t,O J s,.bool ii,.bool n]),(1,.agg (O J k:: .bool ua:: .bool ub:: .bool fp:: .bool fd:: O J va:: O J vb:: O J vc:: O J vd:: O J ve:: O J vf:: O J vg:: O J vh:: O J sa:: O J sb:: O J sc:: O J sd:: O J dl:: .bool ca:: .bool cb:: .bool cc:: .bool cd:: .bool ce:: .bool cf::is lv))]) func181 rfl ntmps181 results181 rfl kr rfl ?_;refine .g hall ?_;refine .k vo ?_;refine .c (λh=> ?_) (λh=> ?_)
 .have hv:vv=false:=by simpa using h
  refine .e ?_;(refine .ret ⟨_,rfl,?_⟩;first|refine .inl ⟨?_,rfl⟩|refine .base (.id' ?_ (.bool _))|refine .base (.id' ?_ (.int _ _)));rw[hr,hv];rfl
 have hv:vv=true:=by simpa using h
 rw[hv,uP]at hr;refine .skip (.e ?_);refine .b (.e ?_);refine .c (λh=> ?_) (λh=> ?_)
 .have hk0:k=0:=vF h;subst hk0;rw[gD rfl]at hr;refine .x λK hK=> ?_;simp(disch:=omega) only[go_sem,hall,zj,hl,htk,↓zjm,↓hem];(repeat'((first|refine zg ?_ ?_|refine zr ?_ ?_|refine VOg_cond ?_ ?_|refine VOh_cond ?_ ?_|refine zV ?_ ?_|refine uI ?_ ?_)<;>intro h<;>(try simp only[nqb]at h)<;>simp(disch:=omega) only[go_sem,hall,zj,hl,htk,↓zjm,↓hem,h]));all_goals(refine hK _ _ ?_;(refine .ret ⟨_,rfl,?_⟩;first|refine .inl ⟨?_,rfl⟩|refine .base (.id' ?_ (.bool _))|refine .base (.id' ?_ (.int _ _)));clear hK vo bo io lo hem hall htk hzi;subst hr;(simp_all[slot,qA]<;>first|rfl|omega|(rw[gJ];simp;done)|(rw[gJ];simp;omega)))
 have hk0:¬k=0:=vH h;rw[gC hk0]at hr;refine .e ?_;refine .c (λh=> ?_) (λh=> ?_)
 .have hk1:k=1:=vF h;subst hk1;rw[gD rfl,hf rfl]at hr;have q4:=zAq ca cb cc cd ce cf;have hc2:((ca==true)&&((cb==true)&&((cc==true)&&((cd==true)&&((ce==true)&&((cf==true)&&true))))))=ac:=hac;rw[hc2]at q4;have hem2:=eqMx 0 ua ub fp false va vb vc vd ve vf vg vh sa sb sc sd 0 false false false false false false zl384 hz3;rw[hzi]at hem2;have hwin:win dl 30=(decide (-30<=dl)&&decide (dl<=30)):=rfl;clear hc2 hac hem hf hzi io vo;refine .f (λK k=>by simp(disch:=omega) only[go_sem,hall,zj,hl,htk,hdk];exact k) ?_;refine .f (λK k=>by simp(disch:=omega) only[go_sem,hall,hall2,zj,hl,htk,hdk,hz3,↓zzK];exact k) ?_;refine .x λK hK=> ?_;cases fd<;>simp(disch:=omega) only[go_sem,hall,hall2,zj,hl,htk,hz3,htk2,↓zjm,↓hem2,↓q4]<;>(repeat'(first|((first|refine zg ?_ ?_|refine uI ?_ ?_)<;>intro h<;>(try simp only[nqb]at h)<;>simp(disch:=omega) only[go_sem,hall,hall2,zj,hl,htk,hz3,htk2,↓zjm,↓hem2,↓q4,h])|((first|refine VCx.call (bo _) rfl ?_|refine VCx.call (lo _) rfl ?_);simp(disch:=omega) only[go_sem,hall,hall2,zj,hl,htk,hz3,htk2,↓zjm,↓hem2,↓q4])));all_goals(refine hK _ _ ?_;(refine .ret ⟨_,rfl,?_⟩;first|refine .inl ⟨?_,rfl⟩|refine .base (.id' ?_ (.bool _))|refine .base (.id' ?_ (.int _ _)));rw[hr,hwin];clear hK bo lo hem2 q4 hr hall hall2 htk htk2 hdk hwin;(simp_all[slot,qA]<;>first|rfl|omega|(rw[gJ];simp;done)|(rw[gJ];simp;omega)))
 have hk1:¬k=1:=vH h;rw[gC hk1]at hr;refine .e ?_;refine .c (λh=> ?_) (λh=> ?_)
 .have hk2:k=2:=vF h;subst hk2;rw[gD rfl]at hr;refine .f (λK k=>by simp(disch:=omega) only[go_sem,hall,zj,hl,htk];refine VCx.call (io _) rfl ?_;simp(disch:=omega) only[go_sem,hall,zj,hl,htk];exact k) ?_;(refine .ret ⟨_,rfl,?_⟩;first|refine .inl ⟨?_,rfl⟩|refine .base (.id' ?_ (.bool _))|refine .base (.id' ?_ (.int _ _)));rw[hr];rfl
 have hk2:¬k=2:=vH h;rw[gC hk2]at hr;refine .skip (.e ?_);(refine .ret ⟨_,rfl,?_⟩;first|refine .inl ⟨?_,rfl⟩|refine .base (.id' ?_ (.bool _))|refine .base (.id' ?_ (.int _ _)));rw[hr];rfl
structure St where
 q:Int
 da:Int
 db:Int
 dc:Int
 va:Int
 vb:Int
 vc:Int
 vd:Int
def stc(s:St):List PV:=[O J s.q,O J s.da,O J s.db,O J s.dc,O J s.va,O J s.vb,O J s.vc,O J s.vd]
def st0(q:Int):St:=⟨q,0,0,0,0,0,0,0⟩
theorem zdv(s:St)(n:Nat):Scoped n (.agg (stc s)):=zn λx hx=>by simp only[stc,gM,gL,uA]at hx;rcases hx with rfl|rfl|rfl|rfl|rfl|rfl|rfl|rfl<;>exact .int _ _
theorem zrG(q:Int)(H:za):CallOk prog 86 [O J q] H (.agg (stc (st0 q))) H:=by refine .go func86 ntmps86 results86 ?_;refine .e (.e ?_);refine .v (.agg [O J q,O J 0,O J 0,O J 0,O J 0,O J 0,O J 0,O J 0]) ?_;exact .base (.id (zdv (st0 q) _))
end Go.Proofs.YtleejngibkbjnaaGreatDoor.Sc
