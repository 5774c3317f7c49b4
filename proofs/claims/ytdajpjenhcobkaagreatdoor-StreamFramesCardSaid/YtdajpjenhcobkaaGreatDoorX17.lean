/-
  Parts of the proof. No condition.
-/
import Derived.Test.YtdajpjenhcobkaaGreatDoorX10
import Derived.Test.YtdajpjenhcobkaaGreatDoorX07
open Bool renaming eq_iff_iff → qB, true_and → qJ
open List renaming take_of_length_le → qE, replicate → qF, not_mem_nil → qG, length_replicate → qH, mem_cons → qI, take → qK, getElem?_eq_some_iff → qL
open Nat renaming beq → qD
open Go.Proofs.Tryz renaming prog → qA
set_option linter.all false
set_option maxRecDepth 100000
set_option maxHeartbeats 32000000
namespace Go.Proofs.YtdajpjenhcobkaaGreatDoor.Sc
open Pm Ty Go.RowKit
def zbM(c:Cx)(fp used:Bool)(a b d e p q:Int):Bool:=
 if used then vrg a b&&(vrg d e&&((decide (p=0)||decide (p=1))&&((decide (q=0)||decide (q=1))&&((fp||(decide (d=0)&&(decide (e=0)&&decide (q=0))))&&(fp||(fcx c||decide (p=0)))))))
 else decide (a=0)&&(decide (b=0)&&(decide (d=0)&&(decide (e=0)&&(decide (p=0)&&decide (q=0)))))
theorem zey(a b c d:Int):zew qA .eql 101 (.agg [.int .i64 a,.int .i64 b,.int .i64 c,.int .i64 d]) (.agg [.int .i64 0,.int .i64 0,.int .i64 0,.int .i64 0])=some (.bool (((a==0)&&((b==0)&&true))&&(((c==0)&&((d==0)&&true))&&true))):=kr
theorem neV(a b:Int):zew qA .neq 100 (.agg [.int .i64 a,.int .i64 b]) (.agg [.int .i64 0,.int .i64 0])=some (.bool !((a==0)&&((b==0)&&true))):=kr
theorem zez(a b:Int):zew qA .eql 103 (.agg [.int .i64 a,.int .i64 b]) (.agg [.int .i64 0,.int .i64 0])=some (.bool ((a==0)&&((b==0)&&true))):=kr
theorem zr2(c:Cx)(m:Mb)(used:Bool)(i:Nat)(H:za)(hi:H[i]? =some (mB m)):CallOk qA 230 [.agg (cxc c),.ptr i 0 0,.int .i64 0,.bool used] H (.bool (zbM c m.fp used m.va m.vb m.vc m.vd m.sa m.sb)) H:=by
 have hil:i<H.length:=(qL.1 hi).1;have hso:=fun K=>zl4 c m i (H++K) (zay hi);obtain ⟨k,ua,ub,fp,fd,va,vb,vc,vd,ve,vf,vg,vh,sa,sb,sc,sd,dl,ca,cb,cc,cd,ce,cf,lv⟩:=m;simp only [mB,mbc] at hi ⊢;have hx:=fun K=>zay (K:=K) hi;generalize hr:zbM c fp used va vb vc vd sa sb=r;simp only [zbM] at hr;simp only at hso;generalize fcx c=ff at hso hr;obtain ⟨t,s,ii,n⟩:=c;have dX : decide ("X" = "_") = false := by decide
 have dY : decide ("Y" = "_") = false := by decide
 have q1:=λH=>zhe va vb H;have q2:=λH=>zhe vc vd H;generalize vrg va vb=r1 at q1 hr;generalize vrg vc vd=r2 at q2 hr;refine .body (F0:=[(0,.agg [.int .i64 t,.int .i64 s,.bool ii,.bool n]),(1,.ptr i 0 0),(2,.int .i64 0),(3,.bool used)]) Tryz.func230 rfl Tryz.ntmps230 Tryz.results230 rfl kr rfl ?_;refine .e ?_;(repeat refine .seq ?_);refine .view (Vs.place 101) (PW.view (Vs.place 103) ?_);(repeat refine .seq ?_);refine .drawi [H.length+1,H.length+2,i] [(9,[0]),(10,[1]),(1,[2]),(12,[2]),(13,[2]),(14,[2]),(15,[2]),(16,[2]),(17,[2]),(18,[2]),(19,[2]),(20,[2]),(21,[2]),(22,[2]),(23,[2])] [(9,0),(10,1)] [] mix kr (by simp<;>omega) λK hK=> ?_;refine sqx hx ?_;refine hK _ _ ?_;clear hK K;refine .e ?_;refine .c (λh=> ?_) (λh=> ?_)
 .have hu:used=false:=by simpa using h
  subst hu;(repeat refine .seq ?_);refine .rg rfl λK hK=> ?_;simp(disch:=omega) only[go_sem,↓zey,↓neV,↓zez];(repeat'((refine zg ?_ ?_)<;>intro h<;>(try simp only[nqb]at h)<;>simp(disch:=omega) only[go_sem,↓zey,↓neV,↓zez,h]));all_goals(refine hK _ _ ?_;(refine .ret ⟨_,rfl,?_⟩;refine .base (.id' ?_ (.bool _)));clear hK q1 q2 hso hi hx;subst hr;(simp_all[slot,qD]<;>first|rfl|omega))
 have hu:used=true:=by simpa using h
 subst hu;refine .skip ?_;(repeat refine .seq ?_);refine .rgv (P:=qA) [1,4,9,10] 49 (.bool (!fp&&(!(decide (vc=0)&&decide (vd=0))|| !decide (sb=0)))) ?_ ?_ ?_
 .rfl
 .simp(disch:=omega) only[go_sem,hx,↓zey,↓neV,↓zez];(repeat'((refine zg ?_ ?_)<;>intro h<;>(try simp only[nqb]at h)<;>simp(disch:=omega) only[go_sem,hx,↓zey,↓neV,↓zez,h]));all_goals(clear q1 q2 hso hi hx hr;(simp_all[slot,qD]<;>first|rfl|omega))
 refine .c (λh=> ?_) (λh=> ?_)
 .refine .e ?_;(refine .ret ⟨_,rfl,?_⟩;refine .base (.id' ?_ (.bool _)));clear q1 q2 hso hi hx;subst hr;(simp_all[slot,qD]<;>first|rfl|omega)
 refine .skip ?_;(repeat refine .seq ?_);refine .rgv (P:=qA) [9,10] 58 (.bool (!(fp||ff)&& !decide (sa=0))) ?_ ?_ ?_
 .rfl
 .refine sqz ?_;(repeat'(first|((refine zg ?_ ?_)<;>intro h<;>(try simp only[nqb]at h)<;>simp(disch:=omega) only[go_sem,hx,h])|((refine VCx.call (hso _) rfl ?_);simp(disch:=omega) only[go_sem,hx])));all_goals(clear q1 q2 hso hi hx hr;(simp_all[slot,qD]<;>first|rfl|omega))
 refine .c (λh=> ?_) (λh=> ?_)
 .refine .e ?_;(refine .ret ⟨_,rfl,?_⟩;refine .base (.id' ?_ (.bool _)));clear q1 q2 hso hi hx;subst hr;(simp_all[slot,qD]<;>first|rfl|omega)
 refine .skip ?_;refine .e ?_;refine .l ?_;have hr9:r=(r1&&(r2&&((decide (sa=0)||decide (sa=1))&&(decide (sb=0)||decide (sb=1))))):=by rename_i hz1 hz2;clear q1 q2 hso hi hx;subst hr;grind
 suffices h1:(r1&&(decide (sa=0)||decide (sa=1)))=true->PL qA _ _ [(9,.ptr (H.length+1) 1 0),(10,.ptr (H.length+2) 1 0),(59,.int .i64 1)] (H++[⟨112,0,[.int .i64 t,.int .i64 s,.bool ii,.bool n]⟩,⟨101,1,[.int .i64 va,.int .i64 vb,.int .i64 vc,.int .i64 vd]⟩,⟨103,1,[.int .i64 sa,.int .i64 sb]⟩]) _ by
  refine .round ?_;refine .e ?_;refine .c (λh=> ?_) (λh=> ?_)
  .refine .skip ?_;refine .b ?_;refine .e ?_;(repeat refine .seq ?_);refine .rgv (P:=qA) [9,10,59] 78 (.bool (!(r1&&(decide (sa=0)||decide (sa=1))))) ?_ ?_ ?_
   .rfl
   rotate_left
   .refine .c (λh=> ?_) (λh=> ?_);rotate_left
    .have hb:(r1&&(decide (sa=0)||decide (sa=1)))=true:=by grind
     refine .skip ?_;refine .e ?_;exact .at [9,10,59] (h1 hb) rfl rfl
    .have hb:(r1&&(decide (sa=0)||decide (sa=1)))=false:=by grind
     refine .e ?_;(refine .ret ⟨_,rfl,?_⟩;refine .base (.id' ?_ (.bool _)));simp_all[clear,slot,qD]
   .clear h1;cases r1<;>simp(disch:=omega) only[go_sem]<;>(repeat'(first|((refine zg ?_ ?_)<;>intro h<;>(try simp only[nqb]at h)<;>simp(disch:=omega) only[go_sem,h])|((refine VCx.call (q1 _) rfl ?_);simp(disch:=omega) only[go_sem])));all_goals(clear q1 q2 hso hi hx hr hr9;(simp_all[slot,qD]<;>first|rfl|omega))
  .cases h
 intro hb1;refine .round ?_;refine .e ?_;refine .c (λh=> ?_) (λh=> ?_)
 .refine .skip ?_;refine .b ?_;refine .e ?_;(repeat refine .seq ?_);refine .rgv (P:=qA) [9,10,59] 78 (.bool (!(r2&&(decide (sb=0)||decide (sb=1))))) ?_ ?_ ?_
  .rfl
  .cases r2<;>simp(disch:=omega) only[go_sem]<;>(repeat'(first|((refine zg ?_ ?_)<;>intro h<;>(try simp only[nqb]at h)<;>simp(disch:=omega) only[go_sem,h])|((refine VCx.call (q2 _) rfl ?_);simp(disch:=omega) only[go_sem])));all_goals(clear q1 q2 hso hi hx hr hr9;(simp_all[slot,qD]<;>first|rfl|omega))
  refine .c (λh=> ?_) (λh=> ?_)
  .have hb:(r2&&(decide (sb=0)||decide (sb=1)))=false:=by grind
   refine .e ?_;(refine .ret ⟨_,rfl,?_⟩;refine .base (.id' ?_ (.bool _)));rw[hr9];clear q1 q2 hso hi hx hr hr9;cases r1<;>cases r2<;>simp_all[slot,qD]
  .have hb:(r2&&(decide (sb=0)||decide (sb=1)))=true:=by grind
   refine .skip ?_;refine .e ?_;refine .round ?_;refine .e ?_;refine .u ?_;refine .exit ?_;refine .e ?_;(refine .ret ⟨_,rfl,?_⟩;refine .base (.id' ?_ (.bool _)));rw[hr9];clear q1 q2 hso hi hx hr hr9;cases r1<;>cases r2<;>simp_all[slot,qD]
 .cases h
theorem zr1(c:Cx)(m:Mb)(used:Bool)(i:Nat)(H:za)(hi:H[i]? =some (mB m)):CallOk qA 230 [.agg (cxc c),.ptr i 0 0,.int .i64 1,.bool used] H (.bool (zbM c m.fp used m.ve m.vf m.vg m.vh m.sc m.sd)) H:=by
 have hil:i<H.length:=(qL.1 hi).1;have hso:=fun K=>zl4 c m i (H++K) (zay hi);obtain ⟨k,ua,ub,fp,fd,va,vb,vc,vd,ve,vf,vg,vh,sa,sb,sc,sd,dl,ca,cb,cc,cd,ce,cf,lv⟩:=m;simp only [mB,mbc] at hi ⊢;have hx:=fun K=>zay (K:=K) hi;generalize hr:zbM c fp used ve vf vg vh sc sd=r;simp only [zbM] at hr;simp only at hso;generalize fcx c=ff at hso hr;obtain ⟨t,s,ii,n⟩:=c;have dX : decide ("X" = "_") = false := by decide
 have dY : decide ("Y" = "_") = false := by decide
 have q1:=λH=>zhe ve vf H;have q2:=λH=>zhe vg vh H;generalize vrg ve vf=r1 at q1 hr;generalize vrg vg vh=r2 at q2 hr;refine .body (F0:=[(0,.agg [.int .i64 t,.int .i64 s,.bool ii,.bool n]),(1,.ptr i 0 0),(2,.int .i64 1),(3,.bool used)]) Tryz.func230 rfl Tryz.ntmps230 Tryz.results230 rfl kr rfl ?_;refine .e ?_;(repeat refine .seq ?_);refine .view (Vs.place 101) (PW.view (Vs.place 103) ?_);(repeat refine .seq ?_);refine .drawi [H.length+1,H.length+2,i] [(9,[0]),(10,[1]),(1,[2]),(12,[2]),(13,[2]),(14,[2]),(15,[2]),(16,[2]),(17,[2]),(18,[2]),(19,[2]),(20,[2]),(21,[2]),(22,[2]),(23,[2])] [(9,0),(10,1)] [] mix kr (by simp<;>omega) λK hK=> ?_;refine sqx hx ?_;refine hK _ _ ?_;clear hK K;refine .e ?_;refine .c (λh=> ?_) (λh=> ?_)
 .have hu:used=false:=by simpa using h
  subst hu;(repeat refine .seq ?_);refine .rg rfl λK hK=> ?_;simp(disch:=omega) only[go_sem,↓zey,↓neV,↓zez];(repeat'((refine zg ?_ ?_)<;>intro h<;>(try simp only[nqb]at h)<;>simp(disch:=omega) only[go_sem,↓zey,↓neV,↓zez,h]));all_goals(refine hK _ _ ?_;(refine .ret ⟨_,rfl,?_⟩;refine .base (.id' ?_ (.bool _)));clear hK q1 q2 hso hi hx;subst hr;(simp_all[slot,qD]<;>first|rfl|omega))
 have hu:used=true:=by simpa using h
 subst hu;refine .skip ?_;(repeat refine .seq ?_);refine .rgv (P:=qA) [1,4,9,10] 49 (.bool (!fp&&(!(decide (vg=0)&&decide (vh=0))|| !decide (sd=0)))) ?_ ?_ ?_
 .rfl
 .simp(disch:=omega) only[go_sem,hx,↓zey,↓neV,↓zez];(repeat'((refine zg ?_ ?_)<;>intro h<;>(try simp only[nqb]at h)<;>simp(disch:=omega) only[go_sem,hx,↓zey,↓neV,↓zez,h]));all_goals(clear q1 q2 hso hi hx hr;(simp_all[slot,qD]<;>first|rfl|omega))
 refine .c (λh=> ?_) (λh=> ?_)
 .refine .e ?_;(refine .ret ⟨_,rfl,?_⟩;refine .base (.id' ?_ (.bool _)));clear q1 q2 hso hi hx;subst hr;(simp_all[slot,qD]<;>first|rfl|omega)
 refine .skip ?_;(repeat refine .seq ?_);refine .rgv (P:=qA) [9,10] 58 (.bool (!(fp||ff)&& !decide (sc=0))) ?_ ?_ ?_
 .rfl
 .refine sqz ?_;(repeat'(first|((refine zg ?_ ?_)<;>intro h<;>(try simp only[nqb]at h)<;>simp(disch:=omega) only[go_sem,hx,h])|((refine VCx.call (hso _) rfl ?_);simp(disch:=omega) only[go_sem,hx])));all_goals(clear q1 q2 hso hi hx hr;(simp_all[slot,qD]<;>first|rfl|omega))
 refine .c (λh=> ?_) (λh=> ?_)
 .refine .e ?_;(refine .ret ⟨_,rfl,?_⟩;refine .base (.id' ?_ (.bool _)));clear q1 q2 hso hi hx;subst hr;(simp_all[slot,qD]<;>first|rfl|omega)
 refine .skip ?_;refine .e ?_;refine .l ?_;have hr9:r=(r1&&(r2&&((decide (sc=0)||decide (sc=1))&&(decide (sd=0)||decide (sd=1))))):=by rename_i hz1 hz2;clear q1 q2 hso hi hx;subst hr;grind
 suffices h1:(r1&&(decide (sc=0)||decide (sc=1)))=true->PL qA _ _ [(9,.ptr (H.length+1) 1 0),(10,.ptr (H.length+2) 1 0),(59,.int .i64 1)] (H++[⟨112,0,[.int .i64 t,.int .i64 s,.bool ii,.bool n]⟩,⟨101,1,[.int .i64 ve,.int .i64 vf,.int .i64 vg,.int .i64 vh]⟩,⟨103,1,[.int .i64 sc,.int .i64 sd]⟩]) _ by
  refine .round ?_;refine .e ?_;refine .c (λh=> ?_) (λh=> ?_)
  .refine .skip ?_;refine .b ?_;refine .e ?_;(repeat refine .seq ?_);refine .rgv (P:=qA) [9,10,59] 78 (.bool (!(r1&&(decide (sc=0)||decide (sc=1))))) ?_ ?_ ?_
   .rfl
   rotate_left
   .refine .c (λh=> ?_) (λh=> ?_);rotate_left
    .have hb:(r1&&(decide (sc=0)||decide (sc=1)))=true:=by grind
     refine .skip ?_;refine .e ?_;exact .at [9,10,59] (h1 hb) rfl rfl
    .have hb:(r1&&(decide (sc=0)||decide (sc=1)))=false:=by grind
     refine .e ?_;(refine .ret ⟨_,rfl,?_⟩;refine .base (.id' ?_ (.bool _)));simp_all[clear,slot,qD]
   .clear h1;cases r1<;>simp(disch:=omega) only[go_sem]<;>(repeat'(first|((refine zg ?_ ?_)<;>intro h<;>(try simp only[nqb]at h)<;>simp(disch:=omega) only[go_sem,h])|((refine VCx.call (q1 _) rfl ?_);simp(disch:=omega) only[go_sem])));all_goals(clear q1 q2 hso hi hx hr hr9;(simp_all[slot,qD]<;>first|rfl|omega))
  .cases h
 intro hb1;refine .round ?_;refine .e ?_;refine .c (λh=> ?_) (λh=> ?_)
 .refine .skip ?_;refine .b ?_;refine .e ?_;(repeat refine .seq ?_);refine .rgv (P:=qA) [9,10,59] 78 (.bool (!(r2&&(decide (sd=0)||decide (sd=1))))) ?_ ?_ ?_
  .rfl
  .cases r2<;>simp(disch:=omega) only[go_sem]<;>(repeat'(first|((refine zg ?_ ?_)<;>intro h<;>(try simp only[nqb]at h)<;>simp(disch:=omega) only[go_sem,h])|((refine VCx.call (q2 _) rfl ?_);simp(disch:=omega) only[go_sem])));all_goals(clear q1 q2 hso hi hx hr hr9;(simp_all[slot,qD]<;>first|rfl|omega))
  refine .c (λh=> ?_) (λh=> ?_)
  .have hb:(r2&&(decide (sd=0)||decide (sd=1)))=false:=by grind
   refine .e ?_;(refine .ret ⟨_,rfl,?_⟩;refine .base (.id' ?_ (.bool _)));rw[hr9];clear q1 q2 hso hi hx hr hr9;cases r1<;>cases r2<;>simp_all[slot,qD]
  .have hb:(r2&&(decide (sd=0)||decide (sd=1)))=true:=by grind
   refine .skip ?_;refine .e ?_;refine .round ?_;refine .e ?_;refine .u ?_;refine .exit ?_;refine .e ?_;(refine .ret ⟨_,rfl,?_⟩;refine .base (.id' ?_ (.bool _)));rw[hr9];clear q1 q2 hso hi hx hr hr9;cases r1<;>cases r2<;>simp_all[slot,qD]
 .cases h
theorem zsa(c:Cx)(m:Mb)(H:za):CallOk qA 248 [.agg (cxc c),.agg (mbc m),.int .i64 0] H (.bool (zbM c m.fp m.ua m.va m.vb m.vc m.vd m.sa m.sb)) H:=by
 obtain⟨k,ua,ub,fp,fd,va,vb,vc,vd,ve,vf,vg,vh,sa,sb,sc,sd,dl,ca,cb,cc,cd,ce,cf,lv⟩:=m;simp only[mbc];have hall:=zt lv;generalize hr:zbM c fp ua va vb vc vd sa sb=r;simp only[zbM]at hr;have fo:=λH=>zgY c H;generalize fcx c=ff at fo hr;obtain⟨t,s,ii,n⟩:=c;have q1:=λH=>zde va vb H;have q2:=λH=>zde vc vd H;generalize vrg va vb=r1 at q1 hr;generalize vrg vc vd=r2 at q2 hr;refine .body (F0:=[(0,.agg [.int .i64 t,.int .i64 s,.bool ii,.bool n]),(1,.agg (.int .i64 k:: .bool ua:: .bool ub:: .bool fp:: .bool fd:: .int .i64 va:: .int .i64 vb:: .int .i64 vc:: .int .i64 vd:: .int .i64 ve:: .int .i64 vf:: .int .i64 vg:: .int .i64 vh:: .int .i64 sa:: .int .i64 sb:: .int .i64 sc:: .int .i64 sd:: .int .i64 dl:: .bool ca:: .bool cb:: .bool cc:: .bool cd:: .bool ce:: .bool cf::is lv)),(2,.int .i64 0)]) Tryz.func248 rfl Tryz.ntmps248 Tryz.results248 rfl kr rfl ?_;refine .g hall ?_;(repeat refine .seq ?_);refine .view (Vs.place 101) (PW.view (Vs.place 103) ?_);(repeat refine .seq ?_);refine .drawi [H.length+2,H.length+3,H.length+1] [(7,[0]),(8,[1]),(4,[2]),(10,[2]),(11,[2]),(14,[2]),(15,[2])] [(7,0),(8,1)] [] mix kr (by simp<;>omega) λK hK=> ?_;refine sqz ?_;refine hK _ _ ?_;clear hK K;refine .e ?_;refine .c (λh=> ?_) (λh=> ?_)
 .have hu:ua=false:=by simpa using h
  subst hu;(repeat refine .seq ?_);refine .rg rfl λK hK=> ?_;simp(disch:=omega) only[go_sem,↓zey,↓neV,↓zez];(repeat'((first|refine zg ?_ ?_|refine zB ?_ ?_|refine zal ?_ ?_|refine VOh_cond ?_ ?_|refine zak ?_ ?_|refine And.intro ?_ ?_)<;>intro h<;>(try simp only[nqb]at h)<;>simp(disch:=omega) only[go_sem,↓zey,↓neV,↓zez,h]));all_goals(refine hK _ _ ?_;(refine .ret ⟨_,rfl,?_⟩;first|refine .inl ⟨?_,rfl⟩|refine .base (.id' ?_ (.bool _))|refine .base (.id' ?_ (.int _ _)));clear hK q1 q2 fo hall;subst hr;(simp_all[slot,qD]<;>first|rfl|omega|(rw[qB];simp;done)|(rw[qB];simp;omega)))
 have hu:ua=true:=by simpa using h
 subst hu;refine .skip ?_;(repeat refine .seq ?_);refine .rgv (P:=qA) [3,4,7,8] 59 (.bool (!(r1&&(r2&&((decide (sa=0)||decide (sa=1))&&(decide (sb=0)||decide (sb=1))))))) ?_ ?_ ?_
 .rfl
 .cases r1<;>cases r2<;>simp(disch:=omega) only[go_sem]<;>(repeat'(first|((first|refine zg ?_ ?_|refine And.intro ?_ ?_)<;>intro h<;>(try simp only[nqb]at h)<;>simp(disch:=omega) only[go_sem,h])|((first|refine VCx.call (q1 _) rfl ?_|refine VCx.call (q2 _) rfl ?_);simp(disch:=omega) only[go_sem])));all_goals(clear q1 q2 fo hall hr;(simp_all[slot,qD]<;>first|rfl|omega|(rw[qB];simp;done)|(rw[qB];simp;omega)))
 refine .c (λh=> ?_) (λh=> ?_)
 .have hb:(r1&&(r2&&((decide (sa=0)||decide (sa=1))&&(decide (sb=0)||decide (sb=1)))))=false:=by grind
  refine .e ?_;(refine .ret ⟨_,rfl,?_⟩;first|refine .inl ⟨?_,rfl⟩|refine .base (.id' ?_ (.bool _))|refine .base (.id' ?_ (.int _ _)));clear q1 q2 fo hall;subst hr;simp_all[slot,qD]
 have hb:(r1&&(r2&&((decide (sa=0)||decide (sa=1))&&(decide (sb=0)||decide (sb=1)))))=true:=by grind
 refine .skip ?_;(repeat refine .seq ?_);refine .rgv (P:=qA) [3,4,7,8] 73 (.bool (!fp&&(!(decide (vc=0)&&decide (vd=0))|| !decide (sb=0)))) ?_ ?_ ?_
 .rfl
 .simp(disch:=omega) only[go_sem,↓zey,↓neV,↓zez];(repeat'((first|refine zg ?_ ?_|refine zB ?_ ?_|refine zal ?_ ?_|refine VOh_cond ?_ ?_|refine zak ?_ ?_|refine And.intro ?_ ?_)<;>intro h<;>(try simp only[nqb]at h)<;>simp(disch:=omega) only[go_sem,↓zey,↓neV,↓zez,h]));all_goals(clear q1 q2 fo hall hr hb;(simp_all[slot,qD]<;>first|rfl|omega|(rw[qB];simp;done)|(rw[qB];simp;omega)))
 refine .c (λh=> ?_) (λh=> ?_)
 .refine .e ?_;(refine .ret ⟨_,rfl,?_⟩;first|refine .inl ⟨?_,rfl⟩|refine .base (.id' ?_ (.bool _))|refine .base (.id' ?_ (.int _ _)));clear q1 q2 fo hall;subst hr;simp_all[slot,qD];omega
 refine .skip ?_;(repeat refine .seq ?_);refine .rg rfl λK hK=> ?_;cases ff<;>simp(disch:=omega) only[go_sem]<;>(repeat'(first|((first|refine zg ?_ ?_|refine And.intro ?_ ?_)<;>intro h<;>(try simp only[nqb]at h)<;>simp(disch:=omega) only[go_sem,h])|((refine VCx.call (fo _) rfl ?_);simp(disch:=omega) only[go_sem])));all_goals(refine hK _ _ ?_;(refine .ret ⟨_,rfl,?_⟩;first|refine .inl ⟨?_,rfl⟩|refine .base (.id' ?_ (.bool _))|refine .base (.id' ?_ (.int _ _)));clear hK q1 q2 fo hall;subst hr;cases r1<;>cases r2<;>simp_all[slot,qD]<;>first|omega|(rw[qB];simp;done)|(rw[qB];simp;omega))
theorem zr9(c:Cx)(m:Mb)(H:za):CallOk qA 248 [.agg (cxc c),.agg (mbc m),.int .i64 1] H (.bool (zbM c m.fp m.ub m.ve m.vf m.vg m.vh m.sc m.sd)) H:=by
 obtain⟨k,ua,ub,fp,fd,va,vb,vc,vd,ve,vf,vg,vh,sa,sb,sc,sd,dl,ca,cb,cc,cd,ce,cf,lv⟩:=m;simp only[mbc];have hall:=zt lv;generalize hr:zbM c fp ub ve vf vg vh sc sd=r;simp only[zbM]at hr;have fo:=λH=>zgY c H;generalize fcx c=ff at fo hr;obtain⟨t,s,ii,n⟩:=c;have q1:=λH=>zde ve vf H;have q2:=λH=>zde vg vh H;generalize vrg ve vf=r1 at q1 hr;generalize vrg vg vh=r2 at q2 hr;refine .body (F0:=[(0,.agg [.int .i64 t,.int .i64 s,.bool ii,.bool n]),(1,.agg (.int .i64 k:: .bool ua:: .bool ub:: .bool fp:: .bool fd:: .int .i64 va:: .int .i64 vb:: .int .i64 vc:: .int .i64 vd:: .int .i64 ve:: .int .i64 vf:: .int .i64 vg:: .int .i64 vh:: .int .i64 sa:: .int .i64 sb:: .int .i64 sc:: .int .i64 sd:: .int .i64 dl:: .bool ca:: .bool cb:: .bool cc:: .bool cd:: .bool ce:: .bool cf::is lv)),(2,.int .i64 1)]) Tryz.func248 rfl Tryz.ntmps248 Tryz.results248 rfl kr rfl ?_;refine .g hall ?_;(repeat refine .seq ?_);refine .view (Vs.place 101) (PW.view (Vs.place 103) ?_);(repeat refine .seq ?_);refine .drawi [H.length+2,H.length+3,H.length+1] [(7,[0]),(8,[1]),(4,[2]),(10,[2]),(11,[2]),(14,[2]),(15,[2])] [(7,0),(8,1)] [] mix kr (by simp<;>omega) λK hK=> ?_;refine sqz ?_;refine hK _ _ ?_;clear hK K;refine .e ?_;refine .c (λh=> ?_) (λh=> ?_)
 .have hu:ub=false:=by simpa using h
  subst hu;(repeat refine .seq ?_);refine .rg rfl λK hK=> ?_;simp(disch:=omega) only[go_sem,↓zey,↓neV,↓zez];(repeat'((first|refine zg ?_ ?_|refine zB ?_ ?_|refine zal ?_ ?_|refine VOh_cond ?_ ?_|refine zak ?_ ?_|refine And.intro ?_ ?_)<;>intro h<;>(try simp only[nqb]at h)<;>simp(disch:=omega) only[go_sem,↓zey,↓neV,↓zez,h]));all_goals(refine hK _ _ ?_;(refine .ret ⟨_,rfl,?_⟩;first|refine .inl ⟨?_,rfl⟩|refine .base (.id' ?_ (.bool _))|refine .base (.id' ?_ (.int _ _)));clear hK q1 q2 fo hall;subst hr;(simp_all[slot,qD]<;>first|rfl|omega|(rw[qB];simp;done)|(rw[qB];simp;omega)))
 have hu:ub=true:=by simpa using h
 subst hu;refine .skip ?_;(repeat refine .seq ?_);refine .rgv (P:=qA) [3,4,7,8] 59 (.bool (!(r1&&(r2&&((decide (sc=0)||decide (sc=1))&&(decide (sd=0)||decide (sd=1))))))) ?_ ?_ ?_
 .rfl
 .cases r1<;>cases r2<;>simp(disch:=omega) only[go_sem]<;>(repeat'(first|((first|refine zg ?_ ?_|refine And.intro ?_ ?_)<;>intro h<;>(try simp only[nqb]at h)<;>simp(disch:=omega) only[go_sem,h])|((first|refine VCx.call (q1 _) rfl ?_|refine VCx.call (q2 _) rfl ?_);simp(disch:=omega) only[go_sem])));all_goals(clear q1 q2 fo hall hr;(simp_all[slot,qD]<;>first|rfl|omega|(rw[qB];simp;done)|(rw[qB];simp;omega)))
 refine .c (λh=> ?_) (λh=> ?_)
 .have hb:(r1&&(r2&&((decide (sc=0)||decide (sc=1))&&(decide (sd=0)||decide (sd=1)))))=false:=by grind
  refine .e ?_;(refine .ret ⟨_,rfl,?_⟩;first|refine .inl ⟨?_,rfl⟩|refine .base (.id' ?_ (.bool _))|refine .base (.id' ?_ (.int _ _)));clear q1 q2 fo hall;subst hr;simp_all[slot,qD]
 have hb:(r1&&(r2&&((decide (sc=0)||decide (sc=1))&&(decide (sd=0)||decide (sd=1)))))=true:=by grind
 refine .skip ?_;(repeat refine .seq ?_);refine .rgv (P:=qA) [3,4,7,8] 73 (.bool (!fp&&(!(decide (vg=0)&&decide (vh=0))|| !decide (sd=0)))) ?_ ?_ ?_
 .rfl
 .simp(disch:=omega) only[go_sem,↓zey,↓neV,↓zez];(repeat'((first|refine zg ?_ ?_|refine zB ?_ ?_|refine zal ?_ ?_|refine VOh_cond ?_ ?_|refine zak ?_ ?_|refine And.intro ?_ ?_)<;>intro h<;>(try simp only[nqb]at h)<;>simp(disch:=omega) only[go_sem,↓zey,↓neV,↓zez,h]));all_goals(clear q1 q2 fo hall hr hb;(simp_all[slot,qD]<;>first|rfl|omega|(rw[qB];simp;done)|(rw[qB];simp;omega)))
 refine .c (λh=> ?_) (λh=> ?_)
 .refine .e ?_;(refine .ret ⟨_,rfl,?_⟩;first|refine .inl ⟨?_,rfl⟩|refine .base (.id' ?_ (.bool _))|refine .base (.id' ?_ (.int _ _)));clear q1 q2 fo hall;subst hr;simp_all[slot,qD];omega
 refine .skip ?_;(repeat refine .seq ?_);refine .rg rfl λK hK=> ?_;cases ff<;>simp(disch:=omega) only[go_sem]<;>(repeat'(first|((first|refine zg ?_ ?_|refine And.intro ?_ ?_)<;>intro h<;>(try simp only[nqb]at h)<;>simp(disch:=omega) only[go_sem,h])|((refine VCx.call (fo _) rfl ?_);simp(disch:=omega) only[go_sem])));all_goals(refine hK _ _ ?_;(refine .ret ⟨_,rfl,?_⟩;first|refine .inl ⟨?_,rfl⟩|refine .base (.id' ?_ (.bool _))|refine .base (.id' ?_ (.int _ _)));clear hK q1 q2 fo hall;subst hr;cases r1<;>cases r2<;>simp_all[slot,qD]<;>first|omega|(rw[qB];simp;done)|(rw[qB];simp;omega))
def zfH(c:Cx)(m:Mb):Bool:=(decide (c.t=2)&& !(m.ua&& !m.ub))||(!m.ua&& !m.ub)
def d0S(c:Cx)(m:Mb):Bool:=zbM c m.fp m.ua m.va m.vb m.vc m.vd m.sa m.sb
def d1S(c:Cx)(m:Mb):Bool:=zbM c m.fp m.ub m.ve m.vf m.vg m.vh m.sc m.sd
def zo4(c:Cx)(m:Mb):Bool:= !(zfH c m)&&(!(m.fp&& !(bcx c))&&(d0S c m&&d1S c m))
theorem ztT(c:Cx)(m:Mb)(i:Nat)(H:za)(hi:H[i]? =some (mB m)):CallOk qA 146 [.agg (cxc c),.ptr i 0 0] H (.bool (zo4 c m)) H:=by
 have f0:=λK=>zr2 c m m.ua i (H++K) (zay hi);have f1:=λK=>zr1 c m m.ub i (H++K) (zay hi);have bo:=λH=>zkg c H;have hr:zo4 c m=(!(zfH c m)&&(!(m.fp&& !(bcx c))&&(d0S c m&&d1S c m))):=rfl;have hub:zfH c m=((decide (c.t=2)&& !(m.ua&& !m.ub))||(!m.ua&& !m.ub)):=rfl;change ∀ K,CallOk _ _ _ _ (.bool (d0S c m)) _ at f0;change ∀ K,CallOk _ _ _ _ (.bool (d1S c m)) _ at f1;generalize zo4 c m=r at hr |-;generalize d0S c m=e0 at f0 hr;generalize d1S c m=e1 at f1 hr;generalize zfH c m=ux at hub hr;generalize bcx c=bk at bo hr;obtain⟨k,ua,ub,fp,fd,va,vb,vc,vd,ve,vf,vg,vh,sa,sb,sc,sd,dl,ca,cb,cc,cd,ce,cf,lv⟩:=m;obtain⟨t,s,ii,n⟩:=c;simp only[mB,mbc]at hi hr hub f0 f1;have hx:=λK=>zay (K:=K) hi;refine .body (F0:=[(0,.agg [.int .i64 t,.int .i64 s,.bool ii,.bool n]),(1,.ptr i 0 0)]) Tryz.func146 rfl Tryz.ntmps146 Tryz.results146 rfl kr rfl ?_;refine .e ?_;(repeat refine .seq ?_);refine .rgv (P:=qA) [1,2] 25 (.bool ux) ?_ ?_ ?_
 .rfl
 .refine sqx hx ?_;(repeat'((refine zg ?_ ?_)<;>intro h<;>(try simp only[nqb]at h)<;>simp(disch:=omega) only[go_sem,hx,h]));all_goals(clear f0 f1 bo hi hx hr;cases ua<;>cases ub<;>(simp_all[slot,qD]))
 refine .c (λh=> ?_) (λh=> ?_)
 .subst h;refine .e ?_;(refine .ret ⟨_,rfl,?_⟩;refine .base (.id' ?_ (.bool _)));rw[hr];rfl
 subst h;refine .skip ?_;(repeat refine .seq ?_);refine .rgv (P:=qA) [1,2] 34 (.bool (fp&& !bk)) ?_ ?_ ?_
 .rfl
 .refine sqx hx ?_;(repeat'(first|((refine zg ?_ ?_)<;>intro h<;>(try simp only[nqb]at h)<;>simp(disch:=omega) only[go_sem,hx,h])|((refine VCx.call (bo _) rfl ?_);simp(disch:=omega) only[go_sem,hx])));all_goals(clear f0 f1 bo hi hx hr;(simp_all[slot,qD]))
 refine .c (λh=> ?_) (λh=> ?_)
 .refine .e ?_;(refine .ret ⟨_,rfl,?_⟩;refine .base (.id' ?_ (.bool _)));rw[hr,h];rfl
 rw[h]at hr;refine .skip ?_;refine .g hx ?_;refine .l ?_;refine .round ?_;refine .e ?_;refine .t ?_;refine .skip ?_;refine .b ?_;refine .e ?_;refine .k f0 ?_;refine .c (λh=> ?_) (λh=> ?_)
 .have he:e0=false:=by simpa using h
  refine .e ?_;(refine .ret ⟨_,rfl,?_⟩;refine .base (.id' ?_ (.bool _)));rw[hr,he];rfl
 have he:e0=true:=by simpa using h
 refine .skip ?_;refine .e ?_;refine .round ?_;refine .e ?_;refine .t ?_;refine .skip ?_;refine .b ?_;refine .e ?_;refine .k f1 ?_;refine .c (λh=> ?_) (λh=> ?_)
 .have he1:e1=false:=by simpa using h
  refine .e ?_;(refine .ret ⟨_,rfl,?_⟩;refine .base (.id' ?_ (.bool _)));rw[hr,he,he1];rfl
 have he1:e1=true:=by simpa using h
 refine .skip ?_;refine .e ?_;refine .round ?_;refine .e ?_;refine .u ?_;refine .exit ?_;refine .e ?_;(refine .ret ⟨_,rfl,?_⟩;refine .base (.id' ?_ (.bool _)));rw[hr,he,he1];rfl
def zfk(c:Cx)(m:Mb):Bool:= !(decide (c.t=1)||zfH c m)&&(!((m.fp&& !(bcx c))||(m.fd&& !(bcx c)))&&(d0S c m&&(d1S c m&&(lvr m.lv&&(fbl (cdl m) m.lv&&(if hlM m then win m.dl 30 else !m.fd&&decide (m.dl=0)))))))
theorem zoZ(c:Cx)(m:Mb)(H:za)(hl:m.lv.length=384):CallOk qA 173 [.agg (cxc c),.agg (mbc m)] H (.bool (zfk c m)) H:=by
 have f0:∀ H,CallOk _ _ _ H (.bool (d0S c m)) H:=λH=>zsa c m H;have f1:∀ H,CallOk _ _ _ H (.bool (d1S c m)) H:=λH=>zr9 c m H;have bo:=λH=>zg7 c H;have lo:=λH=>znH m H hl;have co:=λH=>zn1 m H hl;have hr:zfk c m=(!(decide (c.t=1)||zfH c m)&&(!((m.fp&& !(bcx c))||(m.fd&& !(bcx c)))&&(d0S c m&&(d1S c m&&(lvr m.lv&&(fbl (cdl m) m.lv&&(if hlM m then win m.dl 30 else !m.fd&&decide (m.dl=0)))))))):=rfl;have hub:zfH c m=((decide (c.t=2)&& !(m.ua&& !m.ub))||(!m.ua&& !m.ub)):=rfl;generalize zfk c m=r at hr |-;generalize d0S c m=e0 at f0 hr;generalize d1S c m=e1 at f1 hr;generalize zfH c m=ux at hub hr;generalize bcx c=bk at bo hr;generalize hlM m=hh at co hr;obtain⟨k,ua,ub,fp,fd,va,vb,vc,vd,ve,vf,vg,vh,sa,sb,sc,sd,dl,ca,cb,cc,cd,ce,cf,lv⟩:=m;obtain⟨t,s,ii,n⟩:=c;have hwin:win dl 30=(decide (-30<=dl)&&decide (dl<=30)):=rfl;simp only[mbc,cdl]at hr hub f0 f1 lo co hl |-;have hall:=zt lv;have htk:qK 384 (is lv)=is lv:=qE (by rw[zj];omega);have hdrop:∀ n:Nat,List.drop (24+n * 64) (.int .i64 k:: .bool ua:: .bool ub:: .bool fp:: .bool fd:: .int .i64 va:: .int .i64 vb:: .int .i64 vc:: .int .i64 vd:: .int .i64 ve:: .int .i64 vf:: .int .i64 vg:: .int .i64 vh:: .int .i64 sa:: .int .i64 sb:: .int .i64 sc:: .int .i64 sd:: .int .i64 dl:: .bool ca:: .bool cb:: .bool cc:: .bool cd:: .bool ce:: .bool cf::is lv)=is (lv.drop (n * 64)):=λn=>by rw[show 24+n * 64=n * 64+24 from om];simp_all[List.drop_succ_cons,zek]
 obtain⟨cs,hcs⟩:∃ cs,cs=[ca,cb,cc,cd,ce,cf]:=⟨_,rfl⟩;have hcl:cs.length=6:=by rw[hcs];rfl
 have hcg:∀ q:Nat,q<6->(.int .i64 k:: .bool ua:: .bool ub:: .bool fp:: .bool fd:: .int .i64 va:: .int .i64 vb:: .int .i64 vc:: .int .i64 vd:: .int .i64 ve:: .int .i64 vf:: .int .i64 vg:: .int .i64 vh:: .int .i64 sa:: .int .i64 sb:: .int .i64 sc:: .int .i64 sd:: .int .i64 dl:: .bool ca:: .bool cb:: .bool cc:: .bool cd:: .bool ce:: .bool cf::is lv)[18+q]? =some (.bool (zN cs q)):=λq hq=>by have:q=0\/q=1\/q=2\/q=3\/q=4\/q=5:=om;rcases this with rfl|rfl|rfl|rfl|rfl|rfl<;>(rw[hcs];rfl)
 rw[<-hcs]at hr;generalize hlr:lvr lv=lr at lo hr;generalize hfb:fbl cs lv=fb at hr;refine .body (F0:=[(0,.agg [.int .i64 t,.int .i64 s,.bool ii,.bool n]),(1,.agg (.int .i64 k:: .bool ua:: .bool ub:: .bool fp:: .bool fd:: .int .i64 va:: .int .i64 vb:: .int .i64 vc:: .int .i64 vd:: .int .i64 ve:: .int .i64 vf:: .int .i64 vg:: .int .i64 vh:: .int .i64 sa:: .int .i64 sb:: .int .i64 sc:: .int .i64 sd:: .int .i64 dl:: .bool ca:: .bool cb:: .bool cc:: .bool cd:: .bool ce:: .bool cf::is lv))]) Tryz.func173 rfl Tryz.ntmps173 Tryz.results173 rfl kr rfl ?_;refine .g hall ?_;(repeat refine .seq ?_);refine .rgv (P:=qA) [2,3] 25 (.bool (decide (t=1)||ux)) ?_ ?_ ?_
 .rfl
 .refine sqz ?_;(repeat'((first|refine zg ?_ ?_|refine zB ?_ ?_|refine zal ?_ ?_|refine VOh_cond ?_ ?_|refine zak ?_ ?_|refine And.intro ?_ ?_)<;>intro h<;>(try simp only[nqb]at h)<;>simp(disch:=omega) only[go_sem,h]));all_goals(clear f0 f1 bo lo co hr hall hdrop hcg hcs;cases ua<;>cases ub<;>(simp_all[slot,qD]<;>first|rfl|omega|(rw[qB];simp;done)|(rw[qB];simp;omega)))
 refine .c (λh=> ?_) (λh=> ?_)
 .refine .e ?_;(refine .ret ⟨_,rfl,?_⟩;first|refine .inl ⟨?_,rfl⟩|refine .base (.id' ?_ (.bool _))|refine .base (.id' ?_ (.int _ _)));rw[hr,h];rfl
 rw[h]at hr;refine .skip ?_;(repeat refine .seq ?_);refine .rgv (P:=qA) [2,3] 58 (.bool (((fp&& !bk)||(fd&& !bk))||(!e0||(!e1|| !lr)))) ?_ ?_ ?_
 .rfl
 .cases fp<;>cases fd<;>simp(disch:=omega) only[go_sem,hall,zj,hl,htk]<;>(repeat'(first|((first|refine zg ?_ ?_|refine And.intro ?_ ?_)<;>intro h<;>(try simp only[nqb]at h)<;>simp(disch:=omega) only[go_sem,hall,zj,hl,htk,h])|((first|refine VCx.call (bo _) rfl ?_|refine VCx.call (f0 _) rfl ?_|refine VCx.call (f1 _) rfl ?_|refine VCx.call (lo _) rfl ?_);simp(disch:=omega) only[go_sem,hall,zj,hl,htk])));all_goals(clear f0 f1 bo lo co hr hall hdrop hcg hcs;(simp_all[slot,qD]<;>first|rfl|omega|(rw[qB];simp;done)|(rw[qB];simp;omega)))
 refine .c (λh=> ?_) (λh=> ?_)
 .refine .e ?_;(refine .ret ⟨_,rfl,?_⟩;first|refine .inl ⟨?_,rfl⟩|refine .base (.id' ?_ (.bool _))|refine .base (.id' ?_ (.int _ _)));rw[hr];clear f0 f1 bo lo co hall hdrop hcg hcs hr;grind[slot,qD]
 have hz:(((fp&& !bk)||(fd&& !bk))=false/\e0=true/\e1=true/\lr=true):=by simp_all
 rw[hz.1,hz.2.1,hz.2.2.1,hz.2.2.2]at hr;simp only[Bool.not_false,qJ]at hr;refine .skip ?_;clear f0 f1 bo lo;refine .e ?_;refine .l ?_;suffices hloop:∀(n1:Nat),n1<=6->(∀ q,q<n1->zN cs q≠zbk lv q)->PL qA _ _ [(3,.ptr (H.length+1) 0 0),(5,.int .i64 (n1:Int))] (H++[⟨125,0,[.int .i64 t,.int .i64 s,.bool ii,.bool n]⟩,⟨109,0,.int .i64 k:: .bool ua:: .bool ub:: .bool fp:: .bool fd:: .int .i64 va:: .int .i64 vb:: .int .i64 vc:: .int .i64 vd:: .int .i64 ve:: .int .i64 vf:: .int .i64 vg:: .int .i64 vh:: .int .i64 sa:: .int .i64 sb:: .int .i64 sc:: .int .i64 sd:: .int .i64 dl:: .bool ca:: .bool cb:: .bool cc:: .bool cd:: .bool ce:: .bool cf::is lv⟩]) _ by exact .at [3,5] (hloop 0 om (λq hq=>om)) rfl rfl
 intro n1 hn hq;induction hm:6 - n1 using Nat.strongRecOn generalizing n1 with
 | _ m ih=>
  refine .round ?_;refine .e ?_;refine .c (λh=> ?_) (λh=> ?_)
  .have h4:n1<6:=by grind
   have hbl:=zg6 lv n1 hl h4;have hcel:=zt ((lv.drop (n1 * 64)).take 64);have hnx:=ih (6 - (n1+1)) om (n1+1) om;have hzb:zbk lv n1=((lv.drop (n1 * 64)).take 64==qF 64 0):=rfl;have hc1:=hcg n1 h4;refine .skip ?_;refine .b ?_;generalize hbb:(lv.drop (n1 * 64)).take 64=bl at *;have hpq:ze9 (.int .i64) (is bl) [.int .i64 0,.int .i64 0,.int .i64 0,.int .i64 0,.int .i64 0,.int .i64 0,.int .i64 0,.int .i64 0,.int .i64 0,.int .i64 0,.int .i64 0,.int .i64 0,.int .i64 0,.int .i64 0,.int .i64 0,.int .i64 0,.int .i64 0,.int .i64 0,.int .i64 0,.int .i64 0,.int .i64 0,.int .i64 0,.int .i64 0,.int .i64 0,.int .i64 0,.int .i64 0,.int .i64 0,.int .i64 0,.int .i64 0,.int .i64 0,.int .i64 0,.int .i64 0,.int .i64 0,.int .i64 0,.int .i64 0,.int .i64 0,.int .i64 0,.int .i64 0,.int .i64 0,.int .i64 0,.int .i64 0,.int .i64 0,.int .i64 0,.int .i64 0,.int .i64 0,.int .i64 0,.int .i64 0,.int .i64 0,.int .i64 0,.int .i64 0,.int .i64 0,.int .i64 0,.int .i64 0,.int .i64 0,.int .i64 0,.int .i64 0,.int .i64 0,.int .i64 0,.int .i64 0,.int .i64 0,.int .i64 0,.int .i64 0,.int .i64 0,.int .i64 0]=some (bl==qF 64 0):=ze8 .i64 bl (qF 64 0) (by rw[hbl];simp);generalize (bl==qF 64 0)=zz at *;(repeat refine .seq ?_);refine .draw mix kr λK hK=> ?_;simp(disch:=omega) only[go_sem,hdrop,zdr,hbb,zj,hbl,hcel,hpq,hc1];refine hK _ _ ?_;clear hK K;refine .c (λh=> ?_) (λh=> ?_)
   .have h6:zN cs n1=zz:=by cases hzz:zz<;>cases hff:zN cs n1<;>rw[hzz,hff]at h<;>first|rfl|(simp at h)
    refine .e ?_;(refine .ret ⟨_,rfl,?_⟩;first|refine .inl ⟨?_,rfl⟩|refine .base (.id' ?_ (.bool _))|refine .base (.id' ?_ (.int _ _)));rw[hr,<-hfb,zr3 h4 (by rw[hzb];exact h6)];rfl
   .have h6:zN cs n1≠zz:=by cases hzz:zz<;>cases hff:zN cs n1<;>rw[hzz,hff]at h<;>simp at h<;>simp
    refine .skip ?_;refine .e ?_;refine .at [3,5] (hnx (λq hq'=> ?_) rfl) rfl rfl;grind
  .have h4:n1=6:=by grind
   subst h4;refine .exit ?_;rw[<-hfb,zj4 hq,qJ]at hr;clear hq ih;refine .f (λK k=>by simp(disch:=omega) only[go_sem,hall,zj,hl,htk];refine VCx.call (co _) rfl ?_;simp(disch:=omega) only[go_sem,hall,zj,hl,htk];exact k) ?_;refine .c (λh=> ?_) (λh=> ?_)
   .have he:hh=false:=by simpa using h
    subst he;simp only[Bool.false_eq_true,if_false]at hr;(repeat refine .seq ?_);refine .rg rfl λK hK=> ?_;simp(disch:=omega) only[go_sem];(repeat'((first|refine zg ?_ ?_|refine zB ?_ ?_|refine zal ?_ ?_|refine VOh_cond ?_ ?_|refine zak ?_ ?_|refine And.intro ?_ ?_)<;>intro h<;>(try simp only[nqb]at h)<;>simp(disch:=omega) only[go_sem,h]));all_goals(refine hK _ _ ?_;(refine .ret ⟨_,rfl,?_⟩;first|refine .inl ⟨?_,rfl⟩|refine .base (.id' ?_ (.bool _))|refine .base (.id' ?_ (.int _ _)));rw[hr];clear hK co hall hdrop hcg hcs hr hfb;(simp_all[slot,qD]<;>first|rfl|omega|(rw[qB];simp;done)|(rw[qB];simp;omega)))
   .have he:hh=true:=by simpa using h
    subst he;simp only[if_true]at hr;refine .skip ?_;(repeat refine .seq ?_);refine .rg rfl λK hK=> ?_;simp(disch:=omega) only[go_sem];(repeat'((first|refine zg ?_ ?_|refine zB ?_ ?_|refine zal ?_ ?_|refine VOh_cond ?_ ?_|refine zak ?_ ?_|refine And.intro ?_ ?_)<;>intro h<;>(try simp only[nqb]at h)<;>simp(disch:=omega) only[go_sem,h]));all_goals(refine hK _ _ ?_;(refine .ret ⟨_,rfl,?_⟩;first|refine .inl ⟨?_,rfl⟩|refine .base (.id' ?_ (.bool _))|refine .base (.id' ?_ (.int _ _)));rw[hr,hwin];clear hK co hall hdrop hcg hcs hr hfb hwin;(simp_all[slot,qD]<;>first|rfl|omega|(rw[qB];simp;done)|(rw[qB];simp;omega)))
def zu6:List Int:=qF 64 0
def zl384:List Int:=qF 384 0
def zlv(lv:List Int):Bool:=zbk lv 0&&(zbk lv 1&&(zbk lv 2&&(zbk lv 3&&(zbk lv 4&&(zbk lv 5&&true)))))
theorem zt2(xs ys:List PV):zcB qA 10 106 (.agg xs) (.agg ys)=if szT qA 3=some 1/\xs.length=64/\ys.length=64 then ze9 (.int .i64) xs ys else none:=kr
theorem zvs:szT qA 3=some 1:=kr
theorem eqBl(bl:List Int)(h:bl.length=64):zcB qA 10 106 (.agg (is bl)) (.agg (is zu6))=some (bl==qF 64 0):=by rw[zt2,if_pos ⟨zvs,by rw[zj];exact h,by rw[zj];rfl⟩];exact ze8 .i64 bl (qF 64 0) (by rw[h];rfl)
theorem zth(xs:List PV)(off:Nat):rd qA 106 xs off=if off+64<=xs.length then some (.agg ((xs.drop off).take 64))else none:=kr
theorem zxo(lv:List Int)(n:Nat)(hl:lv.length=384)(hn:n<6):rd qA 106 (is lv) (n * 64)=some (.agg (is ((lv.drop (n * 64)).take 64))):=by rw[zth,if_pos (by rw[zj];omega),zek,zdr]
theorem zu5(n:Nat)(hn:n<6):(zl384.drop (n * 64)).take 64=zu6:=by unfold zl384 zu6;rw[List.drop_replicate,List.take_replicate];congr 1;omega
theorem zr4(xs ys:List PV):zcB qA 11 107 (.agg xs) (.agg ys)=zir (zcB qA 10) qA 106 64 xs ys [0,1,2,3,4,5]:=kr
theorem zck(lv:List Int)(n:Nat)(r:List Nat)(b:Bool)(hl:lv.length=384)(hn:n<6)(hr:zir (zcB qA 10) qA 106 64 (is lv) (is zl384) r=some b):zir (zcB qA 10) qA 106 64 (is lv) (is zl384) (n::r)=some (zbk lv n&&b):=by have h1:=zxo lv n hl hn;have h2:=zxo zl384 n (qH) hn;rw[zu5 n hn]at h2;have h3:=eqBl _ (zg6 lv n hl hn);unfold zir;rw[h1,h2];simp only[h3,hr];rfl
theorem eqLv(lv:List Int)(hl:lv.length=384):zcB qA 11 107 (.agg (is lv)) (.agg (is zl384))=some (zlv lv):=by rw[zr4];exact zck lv 0 _ _ hl om (zck lv 1 _ _ hl om (zck lv 2 _ _ hl om (zck lv 3 _ _ hl om (zck lv 4 _ _ hl om (zck lv 5 _ _ hl om rfl)))))
theorem ztg(xs:List PV)(off:Nat):rd qA 107 xs off=if off+384<=xs.length then some (.agg ((xs.drop off).take 384))else none:=kr
def zMb:Mb:=⟨0,false,false,false,false,0,0,0,0,0,0,0,0,0,0,0,0,0,false,false,false,false,false,false,zl384⟩
def zmv:List PV:=mbc zMb
theorem zwF:zdo qA 109 []=some (.agg zmv):=kr
theorem zwG:zdo qA 107 []=some (.agg (is zl384)):=kr
def mbF(P:Program):List Field:=match P.underlying 109 with|some (.struct fs)=>fs.toList|_=>[]
def zv7(P:Program):List Field:=(mbF P).take 8
def zv8(P:Program):List Field:=(mbF P).drop 8
theorem zk9(eq:TypeId->PV->PV->Option Bool)(P:Program)(xs ys:List PV)(s:List Field)(b:Bool)(hs:zeM eq P xs ys s=some b):∀(r:List Field) (a:Bool),zeM eq P xs ys r=some a->zeM eq P xs ys (r++s)=some (a&&b)
 | [],a,h=>by
  cases h;exact hs
 | f::r,a,h=>by
  rw [List.cons_append];revert h;simp only [zeM];cases decide (f.name = "_") with
  | true=>intro h;cases h
  | false=>
   cases rd P f.type xs f.offset with
   | none=>intro h;cases h
   | some x=>
    cases rd P f.type ys f.offset with
    | none=>intro h;cases h
    | some y=>
     dsimp only;cases eq f.type x y with
     | none=>intro h;cases h
     | some c=>
      dsimp only;cases hq:zeM eq P xs ys r with
      | none=>intro h;cases h
      | some q=>rw[zk9 eq P xs ys s b hs r q hq];intro h;cases h;simp[Bool.and_assoc]
def zA(m:Mb):Bool:=(m.k==0)&&(((m.ua==false)&&((m.ub==false)&&true))&&((m.fp==false)&&((m.fd==false)&&((((((m.va==0)&&((m.vb==0)&&true))&&(((m.vc==0)&&((m.vd==0)&&true))&&true)))&&(((((m.ve==0)&&((m.vf==0)&&true))&&(((m.vg==0)&&((m.vh==0)&&true))&&true)))&&true))&&((((m.sa==0)&&((m.sb==0)&&true))&&((((m.sc==0)&&((m.sd==0)&&true)))&&true))&&((m.dl==0)&&(((m.ca==false)&&((m.cb==false)&&((m.cc==false)&&((m.cd==false)&&((m.ce==false)&&((m.cf==false)&&true))))))&&true)))))))
def zmb(m:Mb):Bool:=zA m&&(zlv m.lv&&true)
theorem zxw(k:Int)(ua ub fp fd:Bool)(va vb vc vd ve vf vg vh sa sb sc sd dl:Int)(ca cb cc cd ce cf:Bool)(lv:List Int):zeM (zcB qA 11) qA (mbc ⟨k,ua,ub,fp,fd,va,vb,vc,vd,ve,vf,vg,vh,sa,sb,sc,sd,dl,ca,cb,cc,cd,ce,cf,lv⟩) zmv (zv7 qA)=some (zA ⟨k,ua,ub,fp,fd,va,vb,vc,vd,ve,vf,vg,vh,sa,sb,sc,sd,dl,ca,cb,cc,cd,ce,cf,lv⟩):=kr
theorem zoL(xs ys:List PV)(x y:PV)(b:Bool)(hx:rd qA 107 xs 24=some x)(hy:rd qA 107 ys 24=some y)(hb:zcB qA 11 107 x y=some b):zeM (zcB qA 11) qA xs ys (zv8 qA)=some (b&&true):=by
 have e:zeM (zcB qA 11) qA xs ys (zv8 qA)=match rd qA 107 xs 24,rd qA 107 ys 24 with
   | some a,some b=>match zcB qA 11 107 a b with
    | some c=>some (c&&true)
    | none=>none
   | _,_=>none:=kr
 rw[e,hx,hy];simp only[hb]
theorem zrl(m:Mb):(mbc m).drop 24=is m.lv:=rfl
theorem zu(m:Mb)(hl:m.lv.length=384):(mbc m).length=408:=by simp only[mbc,List.length_cons,zj,hl]
theorem zxm(m:Mb)(hl:m.lv.length=384):rd qA 107 (mbc m) 24=some (.agg (is m.lv)):=by rw[ztg,if_pos (by rw[zu m hl];omega),zrl,qE (by rw[zj];omega)]
theorem zts(xs ys:List PV):zcB qA 12 109 (.agg xs) (.agg ys)=zeM (zcB qA 11) qA xs ys ((zv7 qA)++(zv8 qA)):=kr
theorem zwu(m:Mb)(hl:m.lv.length=384):zew qA .eql 109 (.agg (mbc m)) (.agg zmv)=some (.bool (zmb m)):=by
 have e:∀ x y,zew qA .eql 109 x y=match zcB qA 12 109 x y with|some b=>peq .eql b|none=>none:=λx y=>by kernel_rfl
 have hz:zmv=mbc zMb:=rfl;rw[e,zts,hz,zk9 _ _ _ _ _ _ (zoL _ _ _ _ _ (zxm m hl) (zxm zMb qH) (eqLv m.lv hl)) (zv7 qA) (zA m) (zxw ..)];rfl
theorem zpq:zlv zl384=true:=by decide
theorem opMb(F:Nat->PV)(H:za):pop qA (.build 109 #[]) F H=some (.agg zmv,H):=by show(zdo qA 109 []).map (λv=>(v,H))=_;rw[zwF];rfl
theorem opLv(F:Nat->PV)(H:za):pop qA (.build 107 #[]) F H=some (.agg (is zl384),H):=by show(zdo qA 107 []).map (λv=>(v,H))=_;rw[zwG];rfl
theorem ziB(ds:List (Option Nat))(d:Option Nat)(t:TypeId)(a:Array Edge)(g:Option (Nat×Bool))(p:String)(F:Fr)(H:za):stp qA ds { op:=.build 109 #[],dst:=d,type:=t,after:=a,guard:=g,pos:=p } F H=match zam ds F { op:=.build 109 #[],dst:=d,type:=t,after:=a,guard:=g,pos:=p }with
  | none=>none
  | some b=>cond b (some (put F d (.agg zmv),H)) (some (put F d (.tup []),H)):=by
 rw[zl0,opMb];rfl
theorem zxe(ds:List (Option Nat))(d:Option Nat)(t:TypeId)(a:Array Edge)(g:Option (Nat×Bool))(p:String)(F:Fr)(H:za):stp qA ds { op:=.build 107 #[],dst:=d,type:=t,after:=a,guard:=g,pos:=p } F H=match zam ds F { op:=.build 107 #[],dst:=d,type:=t,after:=a,guard:=g,pos:=p }with
  | none=>none
  | some b=>cond b (some (put F d (.agg (is zl384)),H)) (some (put F d (.tup []),H)):=by
 rw[zl0,opLv];rfl
theorem eqMx(k:Int)(ua ub fp fd:Bool)(va vb vc vd ve vf vg vh sa sb sc sd dl:Int)(ca cb cc cd ce cf:Bool)(lv:List Int)(hl:lv.length=384):zew qA .eql 109 (.agg (.int .i64 k:: .bool ua:: .bool ub:: .bool fp:: .bool fd:: .int .i64 va:: .int .i64 vb:: .int .i64 vc:: .int .i64 vd:: .int .i64 ve:: .int .i64 vf:: .int .i64 vg:: .int .i64 vh:: .int .i64 sa:: .int .i64 sb:: .int .i64 sc:: .int .i64 sd:: .int .i64 dl:: .bool ca:: .bool cb:: .bool cc:: .bool cd:: .bool ce:: .bool cf::is lv)) (.agg zmv)=some (.bool (zmb ⟨k,ua,ub,fp,fd,va,vb,vc,vd,ve,vf,vg,vh,sa,sb,sc,sd,dl,ca,cb,cc,cd,ce,cf,lv⟩)):=zwu ⟨k,ua,ub,fp,fd,va,vb,vc,vd,ve,vf,vg,vh,sa,sb,sc,sd,dl,ca,cb,cc,cd,ce,cf,lv⟩ hl
theorem eqB2(a b:Bool):zew qA .eql 98 (.agg [.bool a,.bool b]) (.agg [.bool false,.bool false])=some (.bool ((a==false)&&((b==false)&&true))):=kr
theorem zxN(a b c d e f:Bool):zew qA .eql 105 (.agg [.bool a,.bool b,.bool c,.bool d,.bool e,.bool f]) (.agg [.bool true,.bool true,.bool true,.bool true,.bool true,.bool true])=some (.bool ((a==true)&&((b==true)&&((c==true)&&((d==true)&&((e==true)&&((f==true)&&true))))))):=kr
theorem eqV4(a b c d e f g h:Int):zew qA .eql 102 (.agg [.int .i64 a,.int .i64 b,.int .i64 c,.int .i64 d,.int .i64 e,.int .i64 f,.int .i64 g,.int .i64 h]) (.agg [.int .i64 0,.int .i64 0,.int .i64 0,.int .i64 0,.int .i64 0,.int .i64 0,.int .i64 0,.int .i64 0])=some (.bool ((((a==0)&&((b==0)&&true))&&(((c==0)&&((d==0)&&true))&&true))&&((((e==0)&&((f==0)&&true))&&(((g==0)&&((h==0)&&true))&&true))&&true))):=kr
theorem eqI4(a b c d:Int):zew qA .eql 104 (.agg [.int .i64 a,.int .i64 b,.int .i64 c,.int .i64 d]) (.agg [.int .i64 0,.int .i64 0,.int .i64 0,.int .i64 0])=some (.bool (((a==0)&&((b==0)&&true))&&(((c==0)&&((d==0)&&true))&&true))):=kr
theorem zuh(H:za):CallOk qA 143 [] H (.agg [.bool true,.bool true,.bool true,.bool true,.bool true,.bool true]) H:=by refine .go Tryz.func143 Tryz.ntmps143 Tryz.results143 ?_;refine .e ?_;refine .e ?_;refine .v (.agg [.bool true,.bool true,.bool true,.bool true,.bool true,.bool true]) ?_;refine .base (.id (zq λx hx=> ?_));simp only[qI,qG,or_false,or_self]at hx;subst hx;exact .bool _
def zI(m:Mb):Bool:=(((m.ua==false)&&((m.ub==false)&&true))&&(!m.fp&&(((((m.va==0)&&((m.vb==0)&&true))&&(((m.vc==0)&&((m.vd==0)&&true))&&true))&&((((m.ve==0)&&((m.vf==0)&&true))&&(((m.vg==0)&&((m.vh==0)&&true))&&true))&&true))&&(((m.sa==0)&&((m.sb==0)&&true))&&(((m.sc==0)&&((m.sd==0)&&true))&&true)))))
def aC(m:Mb):Bool:=(m.ca==true)&&((m.cb==true)&&((m.cc==true)&&((m.cd==true)&&((m.ce==true)&&((m.cf==true)&&true)))))
def fmS(c:Cx)(m:Mb):Bool:=vcx c&&(if m.k=0 then !decide (c.t=1)&&zmb m else if m.k=1 then zI m&&(aC m&&(fch c m&&lvr m.lv))else if m.k=2 then zfk c m else false)
theorem ztM(c:Cx)(m:Mb)(hk:m.k=2)(ht:¬c.t=1):zfk c m=(zo4 c m&&(fch c m&&(fbl (cdl m) m.lv&&lvr m.lv))):=by unfold zfk zo4 fch;grind
theorem zwm(c:Cx)(m:Mb)(ht:c.t=1):zfk c m=false:=by simp_all[zfk]
theorem zxH(c:Cx)(m:Mb)(H:za)(hl:m.lv.length=384):CallOk qA 83 [.agg (cxc c),.agg (mbc m)] H (.bool (fmS c m)) H:=by
 have vo:=λH=>zlR c H;have hgt:∀ T,(H++[T,mB m])[H.length+1]? =some (mB m):=λT=>by simp
 have ho:=λT=>zws c m (H.length+1) (H++[T,mB m]) (hgt T);have fo:=λT=>ztT c m (H.length+1) (H++[T,mB m]) (hgt T);have bo:=λT=>zwt m (H.length+1) (H++[T,mB m]) (hgt T) hl;have lo:=λT=>zv9 m (H.length+1) (H++[T,mB m]) (hgt T) hl;have ao:=λH=>zuh H;have hi:=ztM c m;have hi1:=zwm c m;have hr:fmS c m=(vcx c&&(if m.k=0 then !decide (c.t=1)&&zmb m else if m.k=1 then zI m&&(aC m&&(fch c m&&lvr m.lv))else if m.k=2 then zfk c m else false)):=rfl;generalize fmS c m=r at hr |-;generalize vcx c=vv at vo hr;generalize fch c m=fc at ho hi hr;generalize zo4 c m=fr at fo hi;generalize fbl (cdl m) m.lv=fb at bo hi;generalize lvr m.lv=lr at lo hi hr;generalize zfk c m=is0 at hi hi1 hr;have hzm:zmb m=zmb m:=rfl;generalize hzI:zI m=zi at hr;generalize hac:aC m=ac at hr;have hem:=zwu m hl;generalize zmb m=zm at hem hr;obtain⟨k,ua,ub,fp,fd,va,vb,vc,vd,ve,vf,vg,vh,sa,sb,sc,sd,dl,ca,cb,cc,cd,ce,cf,lv⟩:=m;obtain⟨t,s,ii,n⟩:=c;clear hgt;simp only[mB,mbc]at hr hi hi1 ho fo bo lo hl hem |-;have hall:=zt lv;have htk:qK 384 (is lv)=is lv:=qE (by rw[zj];omega);refine .body (F0:=[(0,.agg [.int .i64 t,.int .i64 s,.bool ii,.bool n]),(1,.agg (.int .i64 k:: .bool ua:: .bool ub:: .bool fp:: .bool fd:: .int .i64 va:: .int .i64 vb:: .int .i64 vc:: .int .i64 vd:: .int .i64 ve:: .int .i64 vf:: .int .i64 vg:: .int .i64 vh:: .int .i64 sa:: .int .i64 sb:: .int .i64 sc:: .int .i64 sd:: .int .i64 dl:: .bool ca:: .bool cb:: .bool cc:: .bool cd:: .bool ce:: .bool cf::is lv))]) Tryz.func83 rfl Tryz.ntmps83 Tryz.results83 rfl kr rfl ?_;refine .g hall ?_;(repeat refine .seq ?_);refine .rgv (P:=qA) [2,3] 18 (.bool (!vv||(!decide (k=1)&&decide (t=1)))) ?_ ?_ ?_
 .rfl
 .simp(disch:=omega) only[go_sem];(repeat'(first|((first|refine zg ?_ ?_|refine And.intro ?_ ?_)<;>intro h<;>(try simp only[nqb]at h)<;>simp(disch:=omega) only[go_sem,h])|((refine VCx.call (vo _) rfl ?_);simp(disch:=omega) only[go_sem])));all_goals(clear vo ho fo bo lo hi hr hall htk hem;(simp_all[slot,qD]<;>rfl))
 refine .c (λh=> ?_) (λh=> ?_)
 .refine .e ?_;(refine .ret ⟨_,rfl,?_⟩;refine .base (.id' ?_ (.bool _)));clear vo ho fo bo lo hi hall htk hem;grind[slot,qD]
 refine .skip ?_;have hvv:vv=true/\(k=1\/¬t=1):=by grind
 rw[hvv.1,qJ]at hr;clear vo h;refine .e ?_;refine .b ?_;refine .e ?_;refine .c (λh=> ?_) (λh=> ?_)
 .have hk0:k=0:=of_decide_eq_true h;subst hk0;have ht:¬t=1:=by rcases hvv.2 with h1|h1;(cases h1);exact h1
  rw[if_pos rfl,decide_eq_false ht]at hr;refine .f (λK k=>by simp(disch:=omega) only[go_sem,hall,zj,hl,htk,↓ziB,↓hem];exact k) ?_;(refine .ret ⟨_,rfl,?_⟩;refine .base (.id' ?_ (.bool _)));rw[hr];rfl
 have hk0:¬k=0:=of_decide_eq_false h;rw[if_neg hk0]at hr;refine .e ?_;refine .c (λh=> ?_) (λh=> ?_)
 .have hk1:k=1:=of_decide_eq_true h;subst hk1;rw[if_pos rfl]at hr;have q1:=eqB2 ua ub;have q2:=eqV4 va vb vc vd ve vf vg vh;have q3:=eqI4 sa sb sc sd;have q4:=zxN ca cb cc cd ce cf;have hz2:zi=(((ua==false)&&((ub==false)&&true))&&(!fp&&(((((va==0)&&((vb==0)&&true))&&(((vc==0)&&((vd==0)&&true))&&true))&&((((ve==0)&&((vf==0)&&true))&&(((vg==0)&&((vh==0)&&true))&&true))&&true))&&(((sa==0)&&((sb==0)&&true))&&(((sc==0)&&((sd==0)&&true))&&true))))):=hzI.symm;have hc2:ac=((ca==true)&&((cb==true)&&((cc==true)&&((cd==true)&&((ce==true)&&((cf==true)&&true)))))):=hac.symm;rw[<-hc2]at q4;generalize ((ua==false)&&((ub==false)&&true))=b1 at q1 hz2;generalize (((((va==0)&&((vb==0)&&true))&&(((vc==0)&&((vd==0)&&true))&&true))&&((((ve==0)&&((vf==0)&&true))&&(((vg==0)&&((vh==0)&&true))&&true))&&true)))=b2 at q2 hz2;generalize (((sa==0)&&((sb==0)&&true))&&(((sc==0)&&((sd==0)&&true))&&true))=b3 at q3 hz2;clear hc2 hzI hac hem hi hi1 hzm fo bo;(repeat refine .seq ?_);refine .rgv (P:=qA) [2,3] 5 (.bool zi) ?_ ?_ ?_
  .rfl
  .simp(disch:=omega) only[go_sem,↓q1,↓q2,↓q3];(repeat'((refine zg ?_ ?_)<;>intro h<;>(try simp only[nqb]at h)<;>simp(disch:=omega) only[go_sem,↓q1,↓q2,↓q3,h]));all_goals(clear ho lo hr hall htk q1 q2 q3 q4;subst hz2;(simp_all[slot,qD]<;>rfl))
  clear hz2;cases zi
  ·(repeat refine .seq ?_);refine .draw mix kr λK hK=> ?_;simp(disch:=omega) only[go_sem];refine hK _ _ ?_;(refine .ret ⟨_,rfl,?_⟩;refine .base (.id' ?_ (.bool _)));rw[hr];rfl
  (repeat refine .seq ?_);refine .draw mix kr λK hK=> ?_;simp(disch:=omega) only[go_sem,↓q4];refine VCy.callP ao rfl ?_;simp(disch:=omega) only[go_sem,↓q4];(repeat'(first|((first|refine zB ?_ ?_|refine And.intro ?_ ?_)<;>intro h<;>(try simp only[nqb]at h)<;>simp(disch:=omega) only[go_sem,↓q4,h])|((first|refine VCy.call (ho _) rfl ?_|refine VCy.call (lo _) rfl ?_);simp(disch:=omega) only[go_sem,↓q4])));all_goals(refine hK _ _ ?_;(refine .ret ⟨_,rfl,?_⟩;refine .base (.id' ?_ (.bool _)));clear hK ho lo hall htk q1 q2 q3 q4;subst hr;(simp_all[slot,qD]<;>rfl))
 have hk1:¬k=1:=of_decide_eq_false h;rw[if_neg hk1]at hr;refine .e ?_;refine .c (λh=> ?_) (λh=> ?_)
 .have hk2:k=2:=of_decide_eq_true h;subst hk2;have ht:¬t=1:=by rcases hvv.2 with h1|h1;(cases h1);exact h1
  rw[if_pos rfl,hi rfl ht]at hr;clear hi hi1 hzI hac hem hzm;(repeat refine .seq ?_);refine .rg rfl λK hK=> ?_;simp(disch:=omega) only[go_sem];(repeat'(first|((first|refine zg ?_ ?_|refine And.intro ?_ ?_)<;>intro h<;>(try simp only[nqb]at h)<;>simp(disch:=omega) only[go_sem,h])|((first|refine VCx.call (fo _) rfl ?_|refine VCx.call (ho _) rfl ?_|refine VCx.call (bo _) rfl ?_|refine VCx.call (lo _) rfl ?_);simp(disch:=omega) only[go_sem])));all_goals(refine hK _ _ ?_;(refine .ret ⟨_,rfl,?_⟩;refine .base (.id' ?_ (.bool _)));clear hK fo bo ho lo hall htk;subst hr;(simp_all[slot,qD]<;>rfl))
 have hk2:¬k=2:=of_decide_eq_false h;rw[if_neg hk2]at hr;refine .skip ?_;refine .e ?_;(refine .ret ⟨_,rfl,?_⟩;refine .base (.id' ?_ (.bool _)));rw[hr];rfl
theorem zwU(k:Int)(ua ub fp fd:Bool)(va vb vc vd ve vf vg vh sa sb sc sd dl:Int)(ca cb cc cd ce cf:Bool)(lv:List Int):zmb ⟨0,ua,ub,fp,false,va,vb,vc,vd,ve,vf,vg,vh,sa,sb,sc,sd,0,false,false,false,false,false,false,zl384⟩=zI ⟨k,ua,ub,fp,fd,va,vb,vc,vd,ve,vf,vg,vh,sa,sb,sc,sd,dl,ca,cb,cc,cd,ce,cf,lv⟩:=by unfold zmb zA zI;dsimp only;rw[zpq];generalize ((ua==false)&&((ub==false)&&true))=b1;generalize ((((va==0)&&((vb==0)&&true))&&(((vc==0)&&((vd==0)&&true))&&true))&&((((ve==0)&&((vf==0)&&true))&&(((vg==0)&&((vh==0)&&true))&&true))&&true))=b2;generalize (((sa==0)&&((sb==0)&&true))&&(((sc==0)&&((sd==0)&&true))&&true))=b3;cases b1<;>cases fp<;>cases b2<;>cases b3<;>rfl
theorem zxK(c:Cx)(m:Mb)(hk:m.k=1):fch c m=((bcx c|| !m.fd)&&win m.dl 30):=by unfold fch hlM;rw[decide_eq_true hk];rfl
theorem zwq(c:Cx)(m:Mb)(H:za)(hl:m.lv.length=384):CallOk qA 102 [.agg (cxc c),.agg (mbc m)] H (.bool (fmS c m)) H:=by
 have vo:=λH=>zja c H;have bo:=λH=>zg7 c H;have io:=λH=>zoZ c m H hl;have lo:=λH=>znH m H hl;have hf:=zxK c m;have hr:fmS c m=(vcx c&&(if m.k=0 then !decide (c.t=1)&&zmb m else if m.k=1 then zI m&&(aC m&&(fch c m&&lvr m.lv))else if m.k=2 then zfk c m else false)):=rfl;generalize fmS c m=r at hr |-;generalize vcx c=vv at vo hr;generalize bcx c=bk at bo hf;generalize fch c m=fc at hf hr;generalize lvr m.lv=lr at lo hr;generalize zfk c m=is0 at io hr;have hem:=zwu m hl;generalize zmb m=zm at hem hr;obtain⟨k,ua,ub,fp,fd,va,vb,vc,vd,ve,vf,vg,vh,sa,sb,sc,sd,dl,ca,cb,cc,cd,ce,cf,lv⟩:=m;obtain⟨t,s,ii,n⟩:=c;have hzi:=zwU k ua ub fp fd va vb vc vd ve vf vg vh sa sb sc sd dl ca cb cc cd ce cf lv;generalize zI ⟨k,ua,ub,fp,fd,va,vb,vc,vd,ve,vf,vg,vh,sa,sb,sc,sd,dl,ca,cb,cc,cd,ce,cf,lv⟩=zi at hzi hr;generalize hac:aC ⟨k,ua,ub,fp,fd,va,vb,vc,vd,ve,vf,vg,vh,sa,sb,sc,sd,dl,ca,cb,cc,cd,ce,cf,lv⟩=ac at hr;simp only[mbc]at hr hf io lo hl hem |-;have hall:=zt lv;have hall2:=zt zl384;have hz3:zl384.length=384:=qH;have htk:qK 384 (is lv)=is lv:=qE (by rw[zj];omega);have hdk:List.drop 384 (is lv)=[]:=List.drop_of_length_le (by rw[zj];omega);have htk2:qK 384 (is zl384)=is zl384:=qE (by rw[zj,hz3];omega);refine .body (F0:=[(0,.agg [.int .i64 t,.int .i64 s,.bool ii,.bool n]),(1,.agg (.int .i64 k:: .bool ua:: .bool ub:: .bool fp:: .bool fd:: .int .i64 va:: .int .i64 vb:: .int .i64 vc:: .int .i64 vd:: .int .i64 ve:: .int .i64 vf:: .int .i64 vg:: .int .i64 vh:: .int .i64 sa:: .int .i64 sb:: .int .i64 sc:: .int .i64 sd:: .int .i64 dl:: .bool ca:: .bool cb:: .bool cc:: .bool cd:: .bool ce:: .bool cf::is lv))]) Tryz.func102 rfl Tryz.ntmps102 Tryz.results102 rfl kr rfl ?_;refine .g hall ?_;refine .k vo ?_;refine .c (λh=> ?_) (λh=> ?_)
 .have hv:vv=false:=by simpa using h
  refine .e ?_;(refine .ret ⟨_,rfl,?_⟩;first|refine .inl ⟨?_,rfl⟩|refine .base (.id' ?_ (.bool _))|refine .base (.id' ?_ (.int _ _)));rw[hr,hv];rfl
 have hv:vv=true:=by simpa using h
 rw[hv,qJ]at hr;refine .skip ?_;refine .e ?_;refine .b ?_;refine .e ?_;refine .c (λh=> ?_) (λh=> ?_)
 .have hk0:k=0:=of_decide_eq_true h;subst hk0;rw[if_pos rfl]at hr;(repeat refine .seq ?_);refine .rg rfl λK hK=> ?_;simp(disch:=omega) only[go_sem,hall,zj,hl,htk,↓ziB,↓hem];(repeat'((first|refine zg ?_ ?_|refine zB ?_ ?_|refine zal ?_ ?_|refine VOh_cond ?_ ?_|refine zak ?_ ?_|refine And.intro ?_ ?_)<;>intro h<;>(try simp only[nqb]at h)<;>simp(disch:=omega) only[go_sem,hall,zj,hl,htk,↓ziB,↓hem,h]));all_goals(refine hK _ _ ?_;(refine .ret ⟨_,rfl,?_⟩;first|refine .inl ⟨?_,rfl⟩|refine .base (.id' ?_ (.bool _))|refine .base (.id' ?_ (.int _ _)));clear hK vo bo io lo hem hall htk hzi;subst hr;(simp_all[slot,qD]<;>first|rfl|omega|(rw[qB];simp;done)|(rw[qB];simp;omega)))
 have hk0:¬k=0:=of_decide_eq_false h;rw[if_neg hk0]at hr;refine .e ?_;refine .c (λh=> ?_) (λh=> ?_)
 .have hk1:k=1:=of_decide_eq_true h;subst hk1;rw[if_pos rfl,hf rfl]at hr;have q4:=zxN ca cb cc cd ce cf;have hc2:((ca==true)&&((cb==true)&&((cc==true)&&((cd==true)&&((ce==true)&&((cf==true)&&true))))))=ac:=hac;rw[hc2]at q4;have hem2:=eqMx 0 ua ub fp false va vb vc vd ve vf vg vh sa sb sc sd 0 false false false false false false zl384 hz3;rw[hzi]at hem2;have hwin:win dl 30=(decide (-30<=dl)&&decide (dl<=30)):=rfl;clear hc2 hac hem hf hzi io vo;refine .f (λK k=>by simp(disch:=omega) only[go_sem,hall,zj,hl,htk,hdk];exact k) ?_;refine .f (λK k=>by simp(disch:=omega) only[go_sem,hall,hall2,zj,hl,htk,hdk,hz3,↓zxe];exact k) ?_;(repeat refine .seq ?_);refine .rg rfl λK hK=> ?_;cases fd<;>simp(disch:=omega) only[go_sem,hall,hall2,zj,hl,htk,hz3,htk2,↓ziB,↓hem2,↓q4]<;>(repeat'(first|((first|refine zg ?_ ?_|refine And.intro ?_ ?_)<;>intro h<;>(try simp only[nqb]at h)<;>simp(disch:=omega) only[go_sem,hall,hall2,zj,hl,htk,hz3,htk2,↓ziB,↓hem2,↓q4,h])|((first|refine VCx.call (bo _) rfl ?_|refine VCx.call (lo _) rfl ?_);simp(disch:=omega) only[go_sem,hall,hall2,zj,hl,htk,hz3,htk2,↓ziB,↓hem2,↓q4])));all_goals(refine hK _ _ ?_;(refine .ret ⟨_,rfl,?_⟩;first|refine .inl ⟨?_,rfl⟩|refine .base (.id' ?_ (.bool _))|refine .base (.id' ?_ (.int _ _)));rw[hr,hwin];clear hK bo lo hem2 q4 hr hall hall2 htk htk2 hdk hwin;(simp_all[slot,qD]<;>first|rfl|omega|(rw[qB];simp;done)|(rw[qB];simp;omega)))
 have hk1:¬k=1:=of_decide_eq_false h;rw[if_neg hk1]at hr;refine .e ?_;refine .c (λh=> ?_) (λh=> ?_)
 .have hk2:k=2:=of_decide_eq_true h;subst hk2;rw[if_pos rfl]at hr;refine .f (λK k=>by simp(disch:=omega) only[go_sem,hall,zj,hl,htk];refine VCx.call (io _) rfl ?_;simp(disch:=omega) only[go_sem,hall,zj,hl,htk];exact k) ?_;(refine .ret ⟨_,rfl,?_⟩;first|refine .inl ⟨?_,rfl⟩|refine .base (.id' ?_ (.bool _))|refine .base (.id' ?_ (.int _ _)));rw[hr];rfl
 have hk2:¬k=2:=of_decide_eq_false h;rw[if_neg hk2]at hr;refine .skip ?_;refine .e ?_;(refine .ret ⟨_,rfl,?_⟩;first|refine .inl ⟨?_,rfl⟩|refine .base (.id' ?_ (.bool _))|refine .base (.id' ?_ (.int _ _)));rw[hr];rfl
structure St where
 q:Int
 da:Int
 db:Int
 dc:Int
 va:Int
 vb:Int
 vc:Int
 vd:Int
def stc(s:St):List PV:=[.int .i64 s.q,.int .i64 s.da,.int .i64 s.db,.int .i64 s.dc,.int .i64 s.va,.int .i64 s.vb,.int .i64 s.vc,.int .i64 s.vd]
def st0(q:Int):St:=⟨q,0,0,0,0,0,0,0⟩
theorem zdg(s:St)(n:Nat):Scoped n (.agg (stc s)):=zq λx hx=>by simp only[stc,qI,qG,or_false]at hx;rcases hx with rfl|rfl|rfl|rfl|rfl|rfl|rfl|rfl<;>exact .int _ _
theorem zpX(q:Int)(H:za):CallOk qA 80 [.int .i64 q] H (.agg (stc (st0 q))) H:=by refine .go Tryz.func80 Tryz.ntmps80 Tryz.results80 ?_;refine .e ?_;refine .e ?_;refine .v (.agg [.int .i64 q,.int .i64 0,.int .i64 0,.int .i64 0,.int .i64 0,.int .i64 0,.int .i64 0,.int .i64 0]) ?_;exact .base (.id (zdg (st0 q) _))
theorem zah(s:Sq):(sqc s).all PV.cell=true:=by simp[sqc,bs,PV.cell]
theorem zax(s:Sq)(hs:SqOk s):(sqc s).length=135:=by obtain⟨_,_,_,_,_,_,h1,h2⟩:=hs;simp[sqc,zd,h1,h2]
theorem zbD(s:Sq)(hs:SqOk s):qK 135 (sqc s)=sqc s:=qE (by rw[zax s hs];exact Nat.le_refl _)
theorem zni(s:Sq):(sqc s)[0]? =some (.int .i64 s.w):=rfl
theorem zuD(s:Sq):(sqc s)[4]? =some (.bool s.il):=rfl
def zci(s:Sq)(p:Pi)(b:Bool):Bool:=zP s p&& !(b&&decide (p.st=3))
def cxP(s:Sq)(p:Pi)(b:Bool):Cx:=⟨p.ty,p.st,s.il,b⟩
theorem znV(s:Sq)(p:Pi)(b:Bool)(H:za)(hs:SqOk s):CallOk qA 72 [.agg (sqc s),.agg (pic p),.bool b] H (.bool (zci s p b)) H:=by
 have pv:=λK=>zef s p K hs;have h1:=zah s;have h2:=zax s hs;have h3:=zbD s hs;have hst:(p.st==3)=decide (p.st=3):=rfl;generalize hr:zci s p b=r;unfold zci at hr;generalize zP s p=v at *;refine .go Tryz.func72 Tryz.ntmps72 Tryz.results72 ?_;refine .f (λK k=>by simp(disch:=omega) only[go_sem,h1,pic];exact k) ?_;cases v<;>cases b;all_goals
  (repeat refine .seq ?_);refine .rg rfl λK hK=> ?_;simp(disch:=omega) only[go_sem,h2,h3];refine VCx.call (pv _) rfl ?_;simp(disch:=omega) only[go_sem];refine hK _ _ ?_;clear hK K;refine .ret ⟨_,rfl,Fin.base (.id' ?_ (.bool _))⟩;subst hr;first|(simp[slot,qD];done)|(simp[slot,qD];rfl)
theorem zli(s:Sq)(p:Pi)(b:Bool)(H:za)(hs:SqOk s):CallOk qA 45 [.agg (sqc s),.agg (pic p),.bool b] H (.bool (zci s p b)) H:=by
 have pv:=λK=>zbG s p K hs;have h1:=zah s;have h2:=zax s hs;have h3:=zbD s hs;generalize hr:zci s p b=r;unfold zci at hr;generalize zP s p=v at *;refine .go Tryz.func45 Tryz.ntmps45 Tryz.results45 ?_;refine .f (λK k=>by simp(disch:=omega) only[go_sem,h1,pic];exact k) ?_;cases v<;>cases b;all_goals
  (repeat refine .seq ?_);refine .rg rfl λK hK=> ?_;simp(disch:=omega) only[go_sem,h2,h3];refine VCx.call (pv _) rfl ?_;simp(disch:=omega) only[go_sem];refine hK _ _ ?_;clear hK K;refine .ret ⟨_,rfl,Fin.base (.id' ?_ (.bool _))⟩;subst hr;first|(simp[slot,qD];done)|(simp[slot,qD];rfl)
theorem zsc(s:Sq)(p:Pi)(b:Bool)(H:za)(hs:SqOk s):CallOk qA 39 [.agg (sqc s),.agg (pic p),.bool b] H (.agg (cxc (cxP s p b))) H:=by
 have h1:=zah s;have h2:=zax s hs;have h4:=zuD s;refine .go Tryz.func39 Tryz.ntmps39 Tryz.results39 ?_;refine .f (λK k=>by simp(disch:=omega) only[go_sem,h1,pic];exact k) ?_;refine .g (nq2 h2 h4) ?_;refine .v (.agg [.int .i64 p.ty,.int .i64 p.st,.bool s.il,.bool b]) ?_;refine .base (.id (zq λx hx=> ?_));simp only[qI,qG,or_false]at hx;rcases hx with rfl|rfl|rfl|rfl
 .exact .int _ _
 .exact .int _ _
 .exact .bool _
 .exact .bool _
theorem zj9(s:Sq)(p:Pi)(b:Bool)(H:za)(hs:SqOk s):CallOk qA 49 [.agg (sqc s),.agg (pic p),.bool b] H (.agg (cxc (cxP s p b))) H:=by
 have h1:=zah s;have h2:=zax s hs;have h4:=zuD s;refine .go Tryz.func49 Tryz.ntmps49 Tryz.results49 ?_;refine .f (λK k=>by simp(disch:=omega) only[go_sem,h1,pic];exact k) ?_;refine .g (nq2 h2 h4) ?_;refine .v (.agg [.int .i64 p.ty,.int .i64 p.st,.bool s.il,.bool b]) ?_;refine .base (.id (zq λx hx=> ?_));simp only[qI,qG,or_false]at hx;rcases hx with rfl|rfl|rfl|rfl
 .exact .int _ _
 .exact .int _ _
 .exact .bool _
 .exact .bool _
end Go.Proofs.YtdajpjenhcobkaaGreatDoor.Sc
