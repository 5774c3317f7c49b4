/-
  Parts of the proof. No condition.
-/
import Derived.Test.YtleejngibkbjnaaGreatDoorW17
import Derived.Test.YtleejngibkbjnaaGreatDoorW09
import Derived.Defers
import Derived.Recover
open Go.Proofs.YtleejngibkbjnaaGreatDoor.Pm.PV renaming int → O
open Go.IntKind renaming i64 → J
open Array renaming replicate → qB
open List renaming take → qA, replicate → qD, drop → qE
open Go.Proofs.Tryz
set_option linter.all false
set_option maxRecDepth 100000
set_option maxHeartbeats 32000000
namespace Go.Proofs.YtleejngibkbjnaaGreatDoor
namespace Sc
open Pm Ty Go.RowKit
theorem zfs{x n:Int}(h:win x n=true): -n<=x/\x<=n:=by simpa[win]using h
theorem zuy(x:Int)(H:za):CallOk prog 279 [O J x] H (.bool (win x 4095)) H:=by refine .go func279 ntmps279 results279 ?_;(repeat'(first|refine .seq ?_|((refine .rg rfl λK hK=> ?_);simp(disch:=omega) only[go_sem])|((refine zg ?_ ?_)<;>intro h<;>(try simp only[nqb]at h)<;>simp(disch:=omega) only[go_sem,h])|(refine hK _ _ ?_)));all_goals((refine .ret ⟨_,rfl,?_⟩;refine .inl ⟨?_,rfl⟩);(simp_all[win,slot,Nat.beq]<;>omega))
theorem zxy(fr:Nat)(H:za)(h:fr<=1):CallOk prog 258 [O J (fr:Int)] H (.bool true) H:=by refine .go func258 ntmps258 results258 ?_;have h2:fr=0\/fr=1:=om;rcases h2 with rfl|rfl<;>(repeat'(first|refine .seq ?_|((refine .rg rfl λK hK=> ?_);simp(disch:=omega) only[go_sem])|(refine hK _ _ ?_)));all_goals((refine .ret ⟨_,rfl,?_⟩;refine .inl ⟨?_,rfl⟩);rfl)
def tkB(q:List UInt8)(n:Nat):Nat->Nat->Nat->List Int->Rr (List Int)
 | 0,_,a,_=>.er 2 a
 | f+1,p,a,l=>(tkU q n a).bind λv a1=>if v=0 then .ok l a1 else if 64<p+v then .er 2 a1 else
  (tkS q n a1).bind λw a2=>if w=0 then .er 2 a2 else if win w 4095=false then .er 2 a2 else tkB q n f (p+v) a2 (l.set (p+v - 1) w)
def z64:List Int:=qD 64 0
def zda(q:List UInt8)(n fr a:Nat):Rr (List Int):=tkB q n 65 fr a z64
theorem zfv{q:List UInt8}{n:Nat}:∀(f p a:Nat) (l:List Int) {l':List Int} {a':Nat},tkB q n f p a l= .ok l' a'->a<=n->a<a'/\a'<=n/\l'.length=l.length
 | 0,p,a,l,l',a',h,ha=>by simp[tkB]at h
 | f+1,p,a,l,l',a',h,ha=>by
  simp only[tkB]at h;cases hu:tkU q n a with
  | er e a1=>rw[hu]at h;cases h
  | ok v a1=>
   have b1:=zdR hu ha;rw[hu,Rr.bind_ok]at h;split at h
   .simp_all
   .split at h
    .cases h
    .cases hv:tkS q n a1 with
     | er e a2=>rw[hv]at h;cases h
     | ok w a2=>
      have b2:=zcS hv b1.2.2;rw[hv,Rr.bind_ok]at h;split at h
      .cases h
      .split at h
       .cases h
       .have:=zfv f (p+v) a2 _ h b2.2.2;grind
theorem zlI{q:List UInt8}{n:Nat}:∀(f p a:Nat) (l:List Int) {e a':Nat},tkB q n f p a l= .er e a'->a<=n->a<=a'/\a'<=n/\e<=3
 | 0,p,a,l,e,a',h,ha=>by
  grind[tkB]
 | f+1,p,a,l,e,a',h,ha=>by
  simp only[tkB]at h;cases hu:tkU q n a with
  | er e1 a1=>
   rw[hu]at h;have:=zgR hu;injection h with h1 h2;omega
  | ok v a1=>
   have b1:=zdR hu ha;rw[hu,Rr.bind_ok]at h;split at h
   .cases h
   .split at h
    .grind
    .cases hv:tkS q n a1 with
     | er e2 a2=>
      rw[hv]at h;have:=zft hv;injection h with h1 h2;omega
     | ok w a2=>
      have b2:=zcS hv b1.2.2;rw[hv,Rr.bind_ok]at h;split at h
      .grind
      .split at h
       .grind
       .have:=zlI f (p+v) a2 _ h b2.2.2;omega
def bpn(e:Nat):List PanicEntry:=pnc 340 .i64 ((e:Int)+1)
theorem zo7(v:Int)(H:za):CallOk prog 278 [O J v,O J 0] H (O J v) H:=by refine .go func278 ntmps278 results278 ?_;(repeat'(first|refine .seq ?_|refine .skip ?_|((refine .rg rfl λK hK=> ?_);simp(disch:=omega) only[go_sem])|(refine hK _ _ ?_)|(refine .cond (t:=_) rfl (λh=> ?_) (λh=> ?_)<;>(try(cases h;done))<;>(try simp only[nqb]at h))));all_goals exact .ret ⟨_,rfl,Fin.now⟩
theorem zmt(e:Nat)(H:za):CallPan prog 278 [O J 0,O J ((e:Int)+1)] H (bpn e) H:=by
 have d:((e:Int)+1 !=0)=true:=by simp;omega
 refine CallPan.body (F0:=[(0,O J 0),(1,O J ((e:Int)+1))]) func278 rfl ntmps278 rfl kr rfl ?_;refine .e (.g d ?_);refine .t ?_;(repeat refine .seq ?_);refine .raiseV (k:=.i64) (e:=(e:Int)+1) 2 rfl ⟨_,_,_,rfl,rfl,rfl,rfl,rfl,rfl⟩ (wB rfl) kr λK hK=> ?_;simp(disch:=omega) only[go_sem];refine hK _ _ rfl ?_;exact⟨rfl,.inl rfl⟩
def rdH(H:za)(i:Nat)(p:List UInt8)(n a:Nat)(l:List Int):za:=H.set i (rA p n a)++[⟨139,0,is z64⟩,⟨139,0,is l⟩]
section
variable (H:za) (i:Nat) (p:List UInt8) (n a:Nat) (l:List Int)
theorem zoW(hi:i<H.length):(rdH H i p n a l)[i]? =some (rA p n a):=by simp_all[rdH,gK]
theorem zgu(hi:i<H.length)(a':Nat):(rdH H i p n a l).set i (rA p n a')=rdH H i p n a' l:=by simp_all[rdH,uL,vL]
theorem zzW:(rdH H i p n a l)[H.length]? =some ⟨139,0,is z64⟩:=by have:=hp0 (H.set i (rA p n a)) [⟨139,0,is l⟩] ⟨139,0,is z64⟩;rwa[gS]at this
theorem zig:(rdH H i p n a l)[H.length+1]? =some ⟨139,0,is l⟩:=by have:=hp1 (H.set i (rA p n a)) [] ⟨139,0,is z64⟩ ⟨139,0,is l⟩;rwa[gS]at this
theorem zsi(l':List Int):(rdH H i p n a l).set (H.length+1) ⟨139,0,is l'⟩=rdH H i p n a l':=by have:=hs1 (H.set i (rA p n a)) [] ⟨139,0,is z64⟩ ⟨139,0,is l⟩ ⟨139,0,is l'⟩;rwa[gS]at this
theorem zyc(l':List Int):(rdH H i p n a l).set H.length ⟨139,0,is l'⟩=H.set i (rA p n a)++[⟨139,0,is l'⟩,⟨139,0,is l⟩]:=by have:=hs0 (H.set i (rA p n a)) [⟨139,0,is l⟩] ⟨139,0,is z64⟩ ⟨139,0,is l'⟩;rwa[gS]at this
end
theorem zif(H:za)(i:Nat)(p:List UInt8)(n a:Nat)(l:List Int):zAE H (H.set i (rA p n a)) (rdH H i p n a l):=.inr (.inr λh=>⟨by simp,CutH.base (zes _ _ _ _ _ h)⟩)
theorem zsg(i:Nat)(p:List UInt8)(n a fr e a':Nat)(H:za)(hA:H[i]? =some (rA p n a))(ha:a<=n)(hn:n<=8 * p.length)(hp:p.length<=100000000)(hfr:fr<=1)(hr:zda p n fr a= .er e a'):
  CallPan prog 260 [.ptr i 0 0,O J (fr:Int)] H (bpn e) (H.set i (rA p n a')):=by
 have hi:=(gA.1 hA).1;have hself:=zam hA;have al:=λx K=>zuy x K;have mo:=λv K=>zo7 v K;have mp:=λe K=>zmt e K;refine CallPan.body (F0:=[(0,.ptr i 0 0),(1,O J (fr:Int))]) func260 rfl ntmps260 rfl kr rfl ?_;refine .e (.e ?_);refine .e (.l ?_);suffices hl:∀(f at' a:Nat) (l:List Int),at'<=64->64 - at'<f->a<=n->l.length=64->tkB p n f at' a l= .er e a'->PL prog _ _ [(0,.ptr i 0 0),(4,.ptr H.length 0 0),(5,.ptr (H.length+1) 0 0),(6,O J ((at':Int) - 1))] (rdH H i p n a l) _ by exact .a (hl 65 fr a z64 om om ha (by simp[z64]) hr) rfl (by unfold rdH;rw[hself];rfl)
 clear hr hself hA ha;intro f;induction f with
 | zero=>intro at' a l h1 h2;omega
 | succ f ih=>
  intro at' a l h1 h2 ha hll hr;have tu:=zj4 i p n a (rdH H i p n a l) (zoW H i p n a l hi) ha hn hp;simp only[tkB]at hr;refine .round (.b ?_);cases hu:tkU p n a with
  | er e1 a1=>
   rw[hu,Rr.bind_er]at hr;injection hr with r1 r2;subst r1 r2;rw[hu]at tu;simp only[rvU,Rr.at,zgu _ _ _ _ _ _ hi]at tu;(repeat refine .seq ?_);refine .panV 4 rfl ⟨_,_,rfl,rfl,rfl⟩ λK hK=> ?_;simp(disch:=omega) only[go_sem];refine VCx.call (tu) rfl ?_;simp(disch:=omega) only[go_sem];exact hK _ _ _ _ _ _ rfl (mp _ _) ⟨rfl,zif ..⟩
  | ok v a1=>
   have b1:=zdR hu ha;rw[hu,Rr.bind_ok]at hr;rw[hu]at tu;simp only[rvU,Rr.at,zgu _ _ _ _ _ _ hi]at tu;have hv0:¬ v=0:=λe0=>by simp_all
   rw[gC hv0]at hr;have d1:((v:Int)==0)=false:=by simp_all
   refine .x λK hK=> ?_;simp(disch:=omega) only[go_sem];refine VCx.call (tu) rfl ?_;simp(disch:=omega) only[go_sem];refine VCx.call (mo _ _) rfl ?_;simp(disch:=omega) only[go_sem];refine hK _ _ ?_;clear hK K;refine .g d1 ?_;refine .us (.e ?_);have e1:(at':Int) - 1+(v:Int)=((at'+v:Nat):Int) - 1:=om;by_cases h64:64<at'+v
   .rw[gD h64]at hr;injection hr with r1 r2;subst r1 r2;have d2:decide ((64:Int)<=((at'+v:Nat):Int) - 1)=true:=gX om;refine .g (nq2 e1 d2) ?_;refine .t ?_;(repeat refine .seq ?_);refine .raiseV (k:=.i64) (e:=3) 1 rfl ⟨_,_,_,rfl,rfl,rfl,rfl,rfl,rfl⟩ (wB rfl) kr λK hK=> ?_;simp(disch:=omega) only[go_sem];refine hK _ _ rfl ?_;clear hK K;exact⟨rfl,zif ..⟩
   rw[gC h64]at hr;have d2:decide ((64:Int)<=((at'+v:Nat):Int) - 1)=false:=gW om;refine .g (nq2 e1 d2) ?_;refine .us ?_;have ts:=zj5 i p n a1 (rdH H i p n a1 l) (zoW H i p n a1 l hi) b1.2.2 hn hp;cases hw:tkS p n a1 with
   | er e2 a2=>
    rw[hw,Rr.bind_er]at hr;injection hr with r1 r2;subst r1 r2;rw[hw]at ts;simp only[rvS,Rr.at,zgu _ _ _ _ _ _ hi]at ts;(repeat refine .seq ?_);refine .panV 5 rfl ⟨_,_,rfl,rfl,rfl⟩ λK hK=> ?_;simp(disch:=omega) only[go_sem];refine VCx.call (ts) rfl ?_;simp(disch:=omega) only[go_sem];exact hK _ _ _ _ _ _ rfl (mp _ _) ⟨rfl,zif ..⟩
   | ok w a2=>
    have b2:=zcS hw b1.2.2;rw[hw,Rr.bind_ok]at hr;rw[hw]at ts;simp only[rvS,Rr.at,zgu _ _ _ _ _ _ hi]at ts;have e3:((at'+v:Nat):Int) - 1=((at'+v - 1:Nat):Int):=om;have hil:(is l).length=64:=by rw[zj,hll]
    refine .x λK hK=> ?_;simp(disch:=omega) only[go_sem];refine VCx.call (ts) rfl ?_;simp(disch:=omega) only[go_sem];refine VCx.call (mo _ _) rfl ?_;simp(disch:=omega) only[go_sem,e1,e3,zig,hil,zaB,zsi];refine hK _ _ ?_;clear hK K;have hgl:(is (l.set (at'+v - 1) w))[at'+v - 1]? =some (O J w):=by grind[zQ,List.length_set,ze]
    have hil2:(is (l.set (at'+v - 1) w)).length=64:=by rw[zj,gS,hll]
    by_cases hw0:w=0
    .rw[gD hw0]at hr;injection hr with r1 r2;subst r1 r2;have d3:(w==0)=true:=by simp[hw0]
     refine .g (nq2 e1 (nq2 e3 (nq2 @zig (nq2 hil2 (nq2 hgl d3))))) ?_;refine .t ?_;(repeat refine .seq ?_);refine .raiseV (k:=.i64) (e:=3) 1 rfl ⟨_,_,_,rfl,rfl,rfl,rfl,rfl,rfl⟩ (wB rfl) kr λK hK=> ?_;simp(disch:=omega) only[go_sem];refine hK _ _ rfl ?_;clear hK K;exact⟨rfl,zif ..⟩
    .rw[gC hw0]at hr;have d3:(w==0)=false:=by simp[hw0]
     have alw:=λK=>al w K;cases hwn:win w 4095 with
     | false=>
      rw[hwn,gD rfl]at hr;rw[hwn]at alw;injection hr with r1 r2;subst r1 r2;refine .x λK hK=> ?_;simp(disch:=omega) only[go_sem,e1,e3,zig,hil2,hgl,d3];refine VCx.call (alw _) rfl ?_;simp(disch:=omega) only[go_sem];refine hK _ _ ?_;clear hK K;refine .t ?_;(repeat refine .seq ?_);refine .raiseV (k:=.i64) (e:=3) 1 rfl ⟨_,_,_,rfl,rfl,rfl,rfl,rfl,rfl⟩ (wB rfl) kr λK hK=> ?_;simp(disch:=omega) only[go_sem];refine hK _ _ rfl ?_;clear hK K;exact⟨rfl,zif ..⟩
     | true=>rw[hwn,gC (by decide)]at hr;rw[hwn]at alw;refine .x λK hK=> ?_;simp(disch:=omega) only[go_sem,e1,e3,zig,hil2,hgl,d3];refine VCx.call (alw _) rfl ?_;simp(disch:=omega) only[go_sem];refine hK _ _ ?_;clear hK K;refine .us ?_;exact .a (ih (at'+v) a2 _ om om b2.2.2 (by rw[gS,hll]) hr) (by simp[kp,slot,Nat.beq];omega) rfl
theorem zvm(i:Nat)(p:List UInt8)(n a fr a':Nat)(l':List Int)(H:za)(hA:H[i]? =some (rA p n a))(ha:a<=n)(hn:n<=8 * p.length)(hp:p.length<=100000000)(hfr:fr<=1)(hr:zda p n fr a= .ok l' a'):
  CallOk prog 260 [.ptr i 0 0,O J (fr:Int)] H (.agg (is l')) (H.set i (rA p n a')):=by
 have hi:=(gA.1 hA).1;have hself:=zam hA;have al:=λx K=>zuy x K;have mo:=λv K=>zo7 v K;have mp:=λe K=>zmt e K;refine .go func260 ntmps260 results260 ?_;refine .e (.e ?_);refine .e (.l ?_);suffices hl:∀(f at' a:Nat) (l:List Int),at'<=64->64 - at'<f->a<=n->l.length=64->tkB p n f at' a l= .ok l' a'->PL prog _ _ [(0,.ptr i 0 0),(4,.ptr H.length 0 0),(5,.ptr (H.length+1) 0 0),(6,O J ((at':Int) - 1))] (rdH H i p n a l) _ by exact .a (hl 65 fr a z64 om om ha (by simp[z64]) hr) rfl (by unfold rdH;rw[hself];rfl)
 clear hr hself hA ha;intro f;induction f with
 | zero=>intro at' a l h1 h2;omega
 | succ f ih=>
  intro at' a l h1 h2 ha hll hr;have tu:=zj4 i p n a (rdH H i p n a l) (zoW H i p n a l hi) ha hn hp;simp only[tkB]at hr;refine .round (.b ?_);cases hu:tkU p n a with
  | er e1 a1=>
   simp_all[Rr.bind_er]
  | ok v a1=>
   have b1:=zdR hu ha;rw[hu,Rr.bind_ok]at hr;rw[hu]at tu;simp only[rvU,Rr.at,zgu _ _ _ _ _ _ hi]at tu;by_cases hv0:v=0
   .rw[gD hv0]at hr;injection hr with r1 r2;subst r1 r2;have d1:((v:Int)==0)=true:=by simp[hv0]
    refine .x λK hK=> ?_;simp(disch:=omega) only[go_sem];refine VCx.call (tu) rfl ?_;simp(disch:=omega) only[go_sem];refine VCx.call (mo _ _) rfl ?_;simp(disch:=omega) only[go_sem];refine hK _ _ ?_;clear hK K;refine .g d1 ?_;refine .t ?_;have hil:(is l).length=64:=by rw[zj,hll]
    have hz:(is z64).length=64:=by rfl
    have htk:qA 64 (is l)=is l:=gH om;have hcel:=zq l;have hdz:qE 64 (is z64)=[]:=uB om;have hg0:(H.set i (rA p n a1)++[⟨139,0,is l⟩,⟨139,0,is l⟩])[H.length]? =some ⟨139,0,is l⟩:=by have:=hp0 (H.set i (rA p n a1)) [⟨139,0,is l⟩] ⟨139,0,is l⟩;rwa[gS]at this
    refine .g (nq2 @zig (nq2 @zzW (nq2 hil (nq2 hz (nq2 htk (nq2 hcel (nq2 hdz @zyc))))))) ?_;refine .w (.agg (is l)) (nq2 hg0 (nq2 hil htk)) ?_;exact .cut rfl sp (zes _ _ _ _ _) (.id (zn (zae _ _)))
   rw[gC hv0]at hr;have d1:((v:Int)==0)=false:=by simp_all
   refine .x λK hK=> ?_;simp(disch:=omega) only[go_sem];refine VCx.call (tu) rfl ?_;simp(disch:=omega) only[go_sem];refine VCx.call (mo _ _) rfl ?_;simp(disch:=omega) only[go_sem];refine hK _ _ ?_;clear hK K;refine .g d1 ?_;refine .us (.e ?_);have e1:(at':Int) - 1+(v:Int)=((at'+v:Nat):Int) - 1:=om;by_cases h64:64<at'+v
   .simp_all
   rw[gC h64]at hr;have d2:decide ((64:Int)<=((at'+v:Nat):Int) - 1)=false:=gW om;refine .g (nq2 e1 d2) ?_;refine .us ?_;have ts:=zj5 i p n a1 (rdH H i p n a1 l) (zoW H i p n a1 l hi) b1.2.2 hn hp;cases hw:tkS p n a1 with
   | er e2 a2=>
    simp_all[Rr.bind_er]
   | ok w a2=>
    have b2:=zcS hw b1.2.2;rw[hw,Rr.bind_ok]at hr;rw[hw]at ts;simp only[rvS,Rr.at,zgu _ _ _ _ _ _ hi]at ts;have e3:((at'+v:Nat):Int) - 1=((at'+v - 1:Nat):Int):=om;have hil:(is l).length=64:=by rw[zj,hll]
    refine .x λK hK=> ?_;simp(disch:=omega) only[go_sem];refine VCx.call (ts) rfl ?_;simp(disch:=omega) only[go_sem];refine VCx.call (mo _ _) rfl ?_;simp(disch:=omega) only[go_sem,e1,e3,zig,hil,zaB,zsi];refine hK _ _ ?_;clear hK K;have hgl:(is (l.set (at'+v - 1) w))[at'+v - 1]? =some (O J w):=by grind[zQ,List.length_set,ze]
    have hil2:(is (l.set (at'+v - 1) w)).length=64:=by rw[zj,gS,hll]
    by_cases hw0:w=0
    .simp_all
    .rw[gC hw0]at hr;have d3:(w==0)=false:=by simp[hw0]
     have alw:=λK=>al w K;cases hwn:win w 4095 with
     | false=>
      simp_all
     | true=>rw[hwn,gC (by decide)]at hr;rw[hwn]at alw;refine .x λK hK=> ?_;simp(disch:=omega) only[go_sem,e1,e3,zig,hil2,hgl,d3];refine VCx.call (alw _) rfl ?_;simp(disch:=omega) only[go_sem];refine hK _ _ ?_;clear hK K;refine .us ?_;exact .a (ih (at'+v) a2 _ om om b2.2.2 (by rw[gS,hll]) hr) (by simp[kp,slot,Nat.beq];omega) rfl
end Sc
namespace Sc
open Pm Ty Go.RowKit
theorem zoj(x y:Value)(w:World):CallsD prog 259 #[x,y] .returning w λe u' w'=>e= .returned (.tuple #[])/\u'= .returning/\w'=w:=by refine callsD_of_wpS func259 rfl λc₀ cs hu=> ?_;apply wpS_seq;apply wpS_region;simp[wpOpsS,go_sem,recoverD,hu,ntmps259,Exit.thenS];apply wpS_seq;apply wpS_region;simp[wpOpsS,go_sem,Exit.thenS];refine wpS_cond (t:=false) (by simp[Act.eval,qB]) ?_;simp only[wX,sV];refine wpS_of_wp (wp_skip ?_);cases c₀;simp_all[bodyPostS,results,results259]
def zwi(C:Ctx)(H':za)(w:World)(e:Nat):Ending->FrameMode->World->Prop:=λx u' w'=>x= .returned (.tuple #[])/\u'= .panicking [{ v:=.iface 340 (.agg #[.int .i64 ((e:Int)+1)]),recovered:=true }]/\∃ C',CLe C C'/\WRel C' H' w'/\Below C.B w w'
theorem zqN(i4 i5 e:Nat)(l:List Int)(z:Int)(H:za)(C:Ctx)(x y:Value)(w:World)(h4:H[i4]? =some ⟨139,0,is l⟩)(h5:H[i5]? =some ⟨58,0,[.int .i64 z]⟩)(hl:l.length=64)(hne:i4≠i5)
  (hw:WRel C H w) (hx:VRel C (.ptr i4 0 0) x) (hy:VRel C (.ptr i5 0 0) y):
  CallsD prog 259 #[x,y] (.panicking (bpn e)) w (zwi C ((H.set i4 ⟨139,0,is z64⟩).set i5 ⟨58,0,[.int .i64 ((e:Int)+1)]⟩) w e):=by
 refine callsD_of_wpS func259 rfl λc₀ cs hu=> ?_;unfold bpn pnc at hu;apply wpS_seq;apply wpS_region;simp[wpOpsS,go_sem,recoverD,hu,ntmps259,Exit.thenS];apply wpS_seq;apply wpS_region;simp[wpOpsS,go_sem,Exit.thenS];refine wpS_cond (t:=true) (by simp[Act.eval,qB]) ?_;simp only[wN];refine wpS_of_wp ?_;have hp4:i4<H.length:=(gA.1 h4).1;have hp5:i5<H.length:=(gA.1 h5).1;have hfr:FRel C 17 (slot [(0,.ptr i4 0 0),(1,.ptr i5 0 0)]) { tmps:= #[x,y]++((((qB 15 undef).setIfInBounds 3 (Value.iface 340 (.agg #[.int .i64 ((e:Int)+1)]))).setIfInBounds 0 (Value.iface 340 (.agg #[.int .i64 ((e:Int)+1)]))).setIfInBounds 4 (Value.iface 340 (.agg #[.int .i64 ((e:Int)+1)]))).setIfInBounds 5 (Value.bool true),defers:=[] }:=by
  refine⟨by simp,λt=> ?_⟩
  match t with
  | 0=>exact hx
  | 1=>exact hy
  | t+2=>exact .undef _
 have hil:(is l).length=64:=by rw[zj,hl]
 have hz:(is z64).length=64:=by rw[zj];simp[z64]
 have hzc:(is z64).all PV.cell=true:=zq z64;have hdl:qE 64 (is l)=[]:=uB om;have hbz:∀ Q:List PV->Prop,Q (is z64)->Q (qD 64 (.int .i64 0)):=λQ h=>by simpa[is,z64]using h
 have h5':(H.set i4 ⟨139,0,is z64⟩)[i5]? =some ⟨58,0,[.int .i64 z]⟩:=by rw[gR hne];exact h5
 generalize hPQ:bodyPostS prog _ c₀ cs _=PQ;refine wp_seq (wp_region_list ?_);refine zm7 (v:=.agg (is z64)) (H':=H) hw hfr rfl rfl rfl kr λC1 u1 w1 p1 p2 p3 p4=> ?_;refine zm7 (v:=.tup []) (H':=H.set i4 ⟨139,0,is z64⟩) p2 p4 rfl rfl rfl (by simp(disch:=omega) only[go_sem,h4,hz,hil,hdl]) λC2 u2 w2 r1 r2 r3 r4=> ?_;refine zm7 (v:=.tup []) (H':=(H.set i4 ⟨139,0,is z64⟩).set i5 ⟨58,0,[.int .i64 3]⟩) r2 r4 rfl rfl rfl (by simp(disch:=omega) only[go_sem,h5']) λC3 u3 w3 s1 s2 s3 s4=> ?_;refine wp_seq (wp_region_list ?_);refine zjX (u:=.iface 340 (.agg #[.int .i64 ((e:Int)+1)])) rfl kr ?_;have t1:=s4.put (some 10) (λt ht=>by injection ht with ht;omega) (VRel.undef (C:=C3) (Value.iface 340 (.agg #[.int .i64 ((e:Int)+1)])));refine zjX (u:=.tuple #[.agg #[.int .i64 ((e:Int)+1)],.bool true]) rfl kr ?_;have hvt:VRel C3 (.tup [.agg [.int .i64 ((e:Int)+1)],.bool true]) (.tuple #[.agg #[.int .i64 ((e:Int)+1)],.bool true]):=by
  refine .tup (us:=[.agg #[.int .i64 ((e:Int)+1)],.bool true]) rfl λj x u hx hu=> ?_
  match j with
  | 0=>
   injection hx with hx;injection hu with hu;subst hx hu;refine .agg (us:=[.int .i64 ((e:Int)+1)]) rfl (by simp[PV.cell]) λj x u hx hu=> ?_
   match j with
   | 0=>injection hx with hx;injection hu with hu;subst hx hu;exact .int _ _
   | j+1=>cases hx
  | 1=>injection hx with hx;injection hu with hu;subst hx hu;exact .bool _
  | j+2=>cases hx
 have t2:=t1.put (some 11) (λt ht=>by injection ht with ht;omega) hvt;rw[<-zaH,<-zaH]at t2;have hl2:((H.set i4 ⟨139,0,is z64⟩).set i5 ⟨58,0,[.int .i64 3]⟩).length=H.length:=by simp
 have g5:((H.set i4 ⟨139,0,is z64⟩).set i5 ⟨58,0,[.int .i64 3]⟩)[i5]? =some ⟨58,0,[.int .i64 3]⟩:=by simp[hp5]
 have hss:((H.set i4 ⟨139,0,is z64⟩).set i5 ⟨58,0,[.int .i64 3]⟩).set i5 ⟨58,0,[.int .i64 ((e:Int)+1)]⟩=(H.set i4 ⟨139,0,is z64⟩).set i5 ⟨58,0,[.int .i64 ((e:Int)+1)]⟩:=vL ..;have hscF:HSc H->HSc ((H.set i4 ⟨139,0,is z64⟩).set i5 ⟨58,0,[.int .i64 ((e:Int)+1)]⟩):=λh=>HSc.set (HSc.set h (zae _ _)) λx hx=>by simp only[gM,gL,uA]at hx;subst hx;exact .int _ _
 have hlF:H.length=((H.set i4 ⟨139,0,is z64⟩).set i5 ⟨58,0,[.int .i64 ((e:Int)+1)]⟩).length:=by simp
 generalize (H.set i4 ⟨139,0,is z64⟩).set i5 ⟨58,0,[.int .i64 3]⟩=H2 at *;generalize (H.set i4 ⟨139,0,is z64⟩).set i5 ⟨58,0,[.int .i64 ((e:Int)+1)]⟩=H3 at *;refine zbM (N:=17) _ _ _ rfl (K:=λF' H'=>kp [1,3,4] F'=[(1,.ptr i5 0 0),(3,.ptr H2.length 0 0),(4,.bool true)]/\H'=H2++[⟨340,0,[.int .i64 ((e:Int)+1)]⟩]) (zav _ _ _ ?_) C3 _ w3 rfl s2 t2 _ ?_
 .simp(disch:=omega) only[go_sem]
 intro C4 F4 H4 a4 w4 k1 k2 k3 k4 k5 ⟨k6,k7⟩;subst k7;have k5':=k5.keep [1,3,4];rw[k6]at k5';have g5x:=zas (K:=[(⟨340,0,[.int .i64 ((e:Int)+1)]⟩:Blk)]) g5;have hsx:∀ B:Blk,(H2++[(⟨340,0,[.int .i64 ((e:Int)+1)]⟩:Blk)]).set i5 B=H2.set i5 B++[⟨340,0,[.int .i64 ((e:Int)+1)]⟩]:=λB=>by exact uL _ _ om
 have gF:=hp0 H2 [] ⟨340,0,[.int .i64 ((e:Int)+1)]⟩;have pw:∀{c:Code} {Q:Exit->Act->World->Prop},PW prog ⟨17,H2++[⟨340,0,[.int .i64 ((e:Int)+1)]⟩]⟩ c [(1,.ptr i5 0 0),(3,.ptr H2.length 0 0),(4,.bool true)] (H2++[⟨340,0,[.int .i64 ((e:Int)+1)]⟩]) (λx _ H'=>x= .normal/\H'=H3++[⟨340,0,[.int .i64 ((e:Int)+1)]⟩])->
   (∀ C' a' w',CLe C4 C'->a'.defers=[]->WRel C' (H3++[⟨340,0,[.int .i64 ((e:Int)+1)]⟩]) w'->Below C4.B w4 w'->a'.tmps.size=17->Q .normal a' w')->c.wp prog Q a4 w4:=λh hQ=>by
  refine wp_mono (h k3.hsc C4 a4 w4 k2 k3 k5') ?_;rintro x a' w' ⟨C',F',H',y1,y2,y3,y4,y5,rfl,rfl⟩;exact hQ C' a' w' (y1.full k3.lenv) y2 y3 y4 y5.1
 refine pw ?_ ?_
 .refine .e (.t ?_);refine .g (nq2 gF (nq2 g5x (nq2 hsx hss))) ?_;exact⟨rfl,rfl⟩
 intro C5 a5 w5 y1 y2 y3 y4 y5;show PQ _ _ _ _;rw[<-hPQ];have c1:=p1.trans r1;have c2:=c1.trans s1;have c3:=c2.trans k1;have c4:=c3.trans y1;have b1:=p3.trans (by rw[<-p1.B];exact r3);have b2:=b1.trans (by rw[<-c1.B];exact s3);have b3:=b2.trans (by rw[<-c2.B];exact k4);have b4:=b3.trans (by rw[<-c3.B];exact y4);obtain⟨C',d1,d2⟩:=WRel.drop hw hlF (hscF hw.hsc) c4 y3;exact⟨y2,_,rfl,.tuple #[],by simp[results,results259],rfl,rfl,C',d1,d2,b4⟩
def rvB:Rr (List Int)->PV
 | .ok l _=>.tup [.agg (is l),O J 0]
 | .er e _=>.tup [.agg (is z64),O J ((e:Int)+1)]
theorem zkl(k:Nat)(x:Rr (List Int)):Scoped k (rvB x):=by
 cases x<;>refine .tup λj x hx=> ?_;all_goals
  have:=uE hx;simp only[gM,gL,uA]at this;rcases this with rfl|rfl
  .exact zn (zae _ _)
  .exact .int _ _
def tkH(H:za)(i:Nat)(p:List UInt8)(n a:Nat)(l:List Int)(e:Int):za:=H.set i (rA p n a)++[⟨139,0,is l⟩,⟨58,0,[O J e]⟩]
theorem zmX(i:Nat)(p:List UInt8)(n a fr:Nat)(H:za)(hA:H[i]? =some (rA p n a))(ha:a<=n)(hn:n<=8 * p.length)(hp:p.length<=100000000)(hfr:fr<=1):
  CallOk prog 212 [.ptr i 0 0,O J (fr:Int)] H (rvB (zda p n fr a)) (H.set i (rA p n (zda p n fr a).at)):=by
 have hi:=(gA.1 hA).1;have hself:=zam hA;refine⟨by kernel_rfl,λC us w hw hargs=>calls_of_wp_defers func212 rfl ?_⟩;have hfr0:=zqD (N:=18) hargs (wB rfl);change FRel C 18 (slot [(0,.ptr i 0 0),(1,O J (fr:Int))]) _ at hfr0;have vo:=λK=>zxy fr K hfr;have hAx:=λK=>zas (K:=K) hA;refine wp_seq ?_;refine PW.hand [0,1,4,5] (F1:=[(0,.ptr i 0 0),(1,O J (fr:Int)),(4,.ptr H.length 0 0),(5,.ptr (H.length+1) 0 0)]) (H1:=tkH H i p n a z64 0) ?_ rfl hw hfr0 ?_
 .refine PW.e ?_;refine⟨rfl,rfl,?_⟩;unfold tkH;rw[hself];rfl
 intro C1 a1 w1 p1 p2 p3 p4 p5;refine wp_seq ?_;have g0:(tkH H i p n a z64 0)[i]? =some (rA p n a):=by unfold tkH;rw[hself];exact hAx _
 refine PW.hand [0,1,4,5] (F1:=[(0,.ptr i 0 0),(1,O J (fr:Int)),(4,.ptr H.length 0 0),(5,.ptr (H.length+1) 0 0)]) (H1:=tkH H i p n a z64 0) ?_ p2 p3 p5 ?_
 .refine PW.x λK hK=> ?_;simp(disch:=omega) only[go_sem,g0,rA];refine VCx.call (vo _) rfl ?_;simp(disch:=omega) only[go_sem];refine hK _ _ ?_;clear hK K;refine PW.u ?_;exact PW.skip ⟨rfl,rfl,rfl⟩
 intro C2 a2 w2 r1 r2 r3 r4 r5;refine wp_seq (wp_region_list ?_);have hx:=r5.2 4;have hy:=r5.2 5;generalize hxv:a2.tmps.getD 4 Go.undef=x at hx;generalize hyv:a2.tmps.getD 5 Go.undef=y at hy;refine zjX (u:=.func (.func 259) #[] #[x,y]) rfl ?_ ?_
 .subst hxv hyv;simp[execOp,Instr.makeFunc,Act.eval]
 refine zpV (d:=⟨.fn (.func 259) #[x,y],#[]⟩) rfl ?_ ?_
 .have e14:(a2.put (some 14) (Value.func (.func 259) #[] #[x,y])).eval (.tmp 14)=Value.func (.func 259) #[] #[x,y]:=by have:=r5.1;simp[Act.put,Act.eval,this]
  simp[execOp,resolve,e14,Deferred.ofValue]
 have t1:=r5.put (some 14) (λt ht=>by injection ht with ht;omega) (VRel.undef (C:=C2) (Value.func (.func 259) #[] #[x,y]));rw[<-zaH]at t1;have t2:FRel C2 18 (slot [(14,.undef),(0,.ptr i 0 0),(1,O J (fr:Int)),(4,.ptr H.length 0 0),(5,.ptr (H.length+1) 0 0)]) ({ a2.put (some 14) (Value.func (.func 259) #[] #[x,y])with defers:=⟨.fn (.func 259) #[x,y],#[]⟩::a2.defers }):=t1;have hhsc:=λa'=>zes H i p n a' hw.hsc;have cB1:CLe C C2:=p1.trans r1;have bB1:Below C.B w w2:=p4.trans (by rw[<-p1.B];exact r4);have htk:∀ a' l z,(tkH H i p n a l z).set i (rA p n a')=tkH H i p n a' l z:=λa' l z=>by unfold tkH;rw[uL _ _ (by simpa using hi),vL]
 have h4:∀ a' l z,(tkH H i p n a' l z)[H.length]? =some ⟨139,0,is l⟩:=λa' l z=>by have:=hp0 (H.set i (rA p n a')) [⟨58,0,[O J z]⟩] ⟨139,0,is l⟩;rwa[gS]at this
 have h5:∀ a' l z,(tkH H i p n a' l z)[H.length+1]? =some ⟨58,0,[O J z]⟩:=λa' l z=>by have:=hp1 (H.set i (rA p n a')) [] ⟨139,0,is l⟩ ⟨58,0,[O J z]⟩;rwa[gS]at this
 have s4:∀ a' l z l',(tkH H i p n a' l z).set H.length ⟨139,0,is l'⟩=tkH H i p n a' l' z:=λa' l z l'=>by have:=hs0 (H.set i (rA p n a')) [⟨58,0,[O J z]⟩] ⟨139,0,is l⟩ ⟨139,0,is l'⟩;rwa[gS]at this
 have s5:∀ a' l z z',(tkH H i p n a' l z).set (H.length+1) ⟨58,0,[O J z']⟩=tkH H i p n a' l z':=λa' l z z'=>by have:=hs1 (H.set i (rA p n a')) [] ⟨139,0,is l⟩ ⟨58,0,[O J z]⟩ ⟨58,0,[O J z']⟩;rwa[gS]at this
 have hz:(is z64).length=64:=by rw[zj];simp[z64]
 have hsl:∀ a',H.length=(H.set i (rA p n a')).length:=λa'=>by simp
 refine wp_seq ?_;cases hr:zda p n fr a with
 | ok l a'=>
  have rd:=zvm i p n a fr a' l (tkH H i p n a z64 0) g0 ha hn hp hfr hr;rw[htk]at rd;have hll:l.length=64:=by have:=(zfv _ _ _ _ hr ha).2.2;simpa[z64]using this
  have hil:(is l).length=64:=by rw[zj,hll]
  have htl:qA 64 (is l)=is l:=gH om;have hcl:=zq l;have hdz:qE 64 (is z64)=[]:=uB om;refine ze7 5 rfl (K:=λF' H'=>kp [4,5] F'=[(4,.ptr H.length 0 0),(5,.ptr (H.length+1) 0 0)]/\H'=tkH H i p n a' l 0) ?_ (D:=[⟨.fn (.func 259) #[x,y],#[]⟩]) (by simp[Act.put,r2]) r3 t2 ?_
  .simp(disch:=omega) only[go_sem];refine VCx.call (rd) rfl ?_;simp(disch:=omega) only[go_sem,h4,h5,s4,s5,hil,hz,hcl,hdz]
  intro C3 F3 H3 a3 w3 q1 q2 q3 q4 q5 ⟨q6,q7⟩;subst q7;have q5':=q5.keep [4,5];rw[q6]at q5';refine wp_ret ?_;show Leaves _ _ _ _ _ _ _;rw[q2];refine leaves_cons sp kr ((zoj x y w3).mono ?_);rintro _ _ _ ⟨rfl,rfl,rfl⟩;obtain⟨u,u1,u2⟩:=zby (P:=prog) (fn:=f212) (v:=.tup [.agg (is l),O J 0]) q3 q5' (by simp(disch:=omega) only[go_sem,zw,zJ,uR,vA,uN,uD,uO,Array.toList,results212,h4,h5,hil,htl]);obtain⟨C',d1,d2,d3⟩:=WRel.dropV hw (hsl a') (hhsc a') (cB1.trans q1) q3 u1 (zkl _ (.ok l a'));exact⟨u,u2,C',u,d1,d2,bB1.trans (by rw[<-cB1.B];exact q4),rfl,d3⟩
 | er e a'=>
  have rd:=zsg i p n a fr e a' (tkH H i p n a z64 0) g0 ha hn hp hfr hr;rw[htk]at rd;refine ze7 2 rfl (K:=λF' H'=>kp [4,5,15,16] F'=[(4,.ptr H.length 0 0),(5,.ptr (H.length+1) 0 0),(15,.ptr i 0 0),(16,O J (fr:Int))]/\H'=tkH H i p n a z64 0) ?_ (D:=[⟨.fn (.func 259) #[x,y],#[]⟩]) (by simp[Act.put,r2]) r3 t2 ?_
  .simp(disch:=omega) only[go_sem]
  intro C3 F3 H3 a3 w3 q1 q2 q3 q4 q5 ⟨q6,q7⟩;subst q7;have q5':=q5.keep [4,5,15,16];rw[q6]at q5';show wpList _ _ _ (_::_) _ _;unfold wpList;rw[gD kr];left;refine zfa q3 q5' (by simp(disch:=omega) only[go_sem,zt]) rd _ _ λC4 w4 y1 y2 y3 y4=> ?_;show Leaves _ _ _ _ _ _ _;rw[q2];have hx4:=hx.mono (q1.trans y1);have hy4:=hy.mono (q1.trans y1);have cp:=zqN H.length (H.length+1) e z64 0 (tkH H i p n a' z64 0) C4 x y w4 (h4 _ _ _) (h5 _ _ _) (by simp[z64]) om y2 hx4 hy4;rw[s4,s5]at cp;refine leaves_cons sp kr (cp.mono ?_);rintro _ _ w5 ⟨rfl,rfl,C5,v1,v2,v3⟩;have htl:qA 64 (is z64)=is z64:=gH om;obtain⟨u,u1,u2⟩:=zby (P:=prog) (fn:=f212) (v:=.tup [.agg (is z64),O J ((e:Int)+1)]) v2 (y4.mono v1) (by simp(disch:=omega) only[go_sem,zw,zJ,uR,vA,uN,uD,uO,Array.toList,results212,h4,h5,hz,htl]);have c3:=(cB1.trans q1).trans y1;obtain⟨C',d1,d2,d3⟩:=WRel.dropV hw (hsl a') (hhsc a') (c3.trans v1) v2 u1 (zkl _ (.er e a'));have b2:=bB1.trans (by rw[<-cB1.B];exact q4);have b3:=b2.trans (by rw[<-(cB1.trans q1).B];exact y3);exact⟨u,u2,C',u,d1,d2,b3.trans (by rw[<-c3.B];exact v3),rfl,d3⟩
theorem zwV(j v n a k:Nat)(hj:j<k):∀ x∈(rR j v n a).cells,Scoped k x:=λx hx=>by
 simp only[rR,gM,gL,uA]at hx;rcases hx with rfl|rfl
 .exact .msl hj
 .exact .int _ _
theorem zn2(H:za)(i j v n a:Nat)(hj:j<H.length)(h:HSc H):HSc (H.set i (rR j v n a)):=HSc.set h (zwV _ _ _ _ _ hj)
def rrH(H:za)(i j v n a:Nat)(l l':List Int):za:=H.set i (rR j v n a)++[⟨139,0,is l⟩,⟨139,0,is l'⟩]
section
variable (H:za) (i j v n a:Nat) (l l':List Int)
theorem zwS(hi:i<H.length):(rrH H i j v n a l l')[i]? =some (rR j v n a):=by simp_all[rrH,gK]
theorem zwR{B:Blk}(hj:H[j]? =some B)(hne:i≠j):(rrH H i j v n a l l')[j]? =some B:=by grind[rrH,List.getElem?_append_left,List.getElem?_eq_some_iff.1,List.getElem?_set_ne]
theorem zkm(hi:i<H.length)(a':Nat):(rrH H i j v n a l l').set i (rR j v n a')=rrH H i j v n a' l l':=by simp_all[rrH,uL,vL]
theorem zdT:(rrH H i j v n a l l')[H.length]? =some ⟨139,0,is l⟩:=by have:=hp0 (H.set i (rR j v n a)) [⟨139,0,is l'⟩] ⟨139,0,is l⟩;rwa[gS]at this
theorem zwT:(rrH H i j v n a l l')[H.length+1]? =some ⟨139,0,is l'⟩:=by have:=hp1 (H.set i (rR j v n a)) [] ⟨139,0,is l⟩ ⟨139,0,is l'⟩;rwa[gS]at this
theorem zgq(m:List Int):(rrH H i j v n a l l').set H.length ⟨139,0,is m⟩=rrH H i j v n a m l':=by have:=hs0 (H.set i (rR j v n a)) [⟨139,0,is l'⟩] ⟨139,0,is l⟩ ⟨139,0,is m⟩;rwa[gS]at this
theorem zx7(m:List Int):(rrH H i j v n a l l').set (H.length+1) ⟨139,0,is m⟩=rrH H i j v n a l m:=by have:=hs1 (H.set i (rR j v n a)) [] ⟨139,0,is l⟩ ⟨139,0,is l'⟩ ⟨139,0,is m⟩;rwa[gS]at this
end
theorem zgO(i j v:Nat)(q:List UInt8)(n a fr:Nat)(H:za)(hA:H[i]? =some (rR j v n a))(hB:H[j]? =some (rB q v))(hne:i≠j)(ha:a<=n)(hn:n<=8 * q.length)(hq:q.length<=100000000)(hfr:fr<=1):
  CallOk prog 283 [.ptr i 0 0,O J (fr:Int)] H (rvB (zda q n fr a)) (H.set i (rR j v n (zda q n fr a).at)):=by
 have hi:=(gA.1 hA).1;have hj:=(gA.1 hB).1;have hself:=zam hA;have al:=λx K=>zg9 x K;have hz:(is z64).length=64:=by rfl
 have hzc:is z64=qD 64 (O J 0):=by rfl
 have htz:qA 64 (is z64)=is z64:=gH om;have hdz:qE 64 (is z64)=[]:=uB om;have hcz:=zq z64;generalize hres:zda q n fr a=res;refine .go func283 ntmps283 results283 ?_;refine .e (.e ?_);refine .to [0,1,4,6] [(0,.ptr i 0 0),(1,O J (fr:Int)),(4,.ptr H.length 0 0),(6,.ptr (H.length+1) 0 0)] (rrH H i j v n a z64 z64) ?_ ?_
 .have h2:fr=0\/fr=1:=om;rcases h2 with rfl|rfl
  .refine .e (.u ?_);exact .skip ⟨rfl,by unfold rrH;rw[hself];rfl⟩
  .refine .e (.u ?_);exact .skip ⟨rfl,by unfold rrH;rw[hself];rfl⟩
 refine .e (.l ?_);suffices hl:∀(f at' a:Nat) (l:List Int),at'<=64->64 - at'<f->a<=n->l.length=64->tkB q n f at' a l=res->PL prog _ _ [(0,.ptr i 0 0),(4,.ptr H.length 0 0),(6,.ptr (H.length+1) 0 0),(7,O J (at':Int))] (rrH H i j v n a z64 l) _ by exact .a (hl 65 fr a z64 om om ha (by simp[z64]) hres)
 clear hself hA ha hres;intro f;induction f with
 | zero=>intro at' a l h1 h2;omega
 | succ f ih=>
  intro at' a l h1 h2 ha hll hr;have tu:=zj6 i j v q n a (rrH H i j v n a z64 l) (zwS H i j v n a z64 l hi) (zwR H i j v n a z64 l hB hne) hne ha hn hq;simp only[tkB]at hr;have hil:(is l).length=64:=by rw[zj,hll]
  have htk:qA 64 (is l)=is l:=gH om;have hcel:=zq l;have fail:∀(e a1:Nat) (m:List Int),Fin H (rvB (.er e a1)) (H.set i (rR j v n a1)) (.tup [.agg (is z64),O J ((e:Int)+1)]) (rrH H i j v n a1 z64 m):=λe a1 m=>Fin.cut rfl sp (zn2 _ _ _ _ _ _ hj) (.id (zkl _ (.er e a1)));refine .round (.b ?_);cases hu:tkU q n a with
  | er e1 a1=>
   rw[hu,Rr.bind_er]at hr;subst hr;rw[hu]at tu;simp only[rvU,Rr.at,zkm _ _ _ _ _ _ _ _ hi]at tu;have d0:((e1:Int)+1 !=0)=true:=by simp;omega
   have he:=(zgR hu).2;refine .f (λK k=>by simp(disch:=omega) only[go_sem];refine VCx.call (tu) rfl ?_;simp(disch:=omega) only[go_sem];exact k) ?_;refine .g d0 ?_;refine .t (.f (λK k=>by simp(disch:=omega) only[go_sem,zdT,hz,<-hzc,hcz,hdz,zgq];exact k) ?_);refine .w (.tup [.agg (is z64),O J ((e1:Int)+1)]) (nq2 @zdT (nq2 hz htz)) ?_;exact fail e1 a1 l
  | ok w1 a1=>
   have b1:=zdR hu ha;rw[hu,Rr.bind_ok]at hr;rw[hu]at tu;simp only[rvU,Rr.at,zkm _ _ _ _ _ _ _ _ hi]at tu;refine .f (λK k=>by simp(disch:=omega) only[go_sem];refine VCx.call (tu) rfl ?_;simp(disch:=omega) only[go_sem];exact k) ?_;refine .e (.us ?_);by_cases hv0:w1=0
   .rw[gD hv0]at hr;subst hr;have d1:((w1:Int)==0)=true:=by simp[hv0]
    refine .g d1 ?_;refine .t (.g (nq2 @zwT (nq2 @zdT (nq2 hil (nq2 hz (nq2 htk (nq2 hcel (nq2 hdz @zgq))))))) ?_);refine .w (.tup [.agg (is l),O J 0]) (nq2 @zdT (nq2 hil htk)) ?_;exact .cut rfl sp (zn2 _ _ _ _ _ _ hj) (.id (zkl _ (.ok l a1)))
   rw[gC hv0]at hr;have d1:((w1:Int)==0)=false:=by simp_all
   refine .g d1 ?_;refine .us ?_;have e1:(at':Int)+(w1:Int) - 1=((at'+w1 - 1:Nat):Int):=om;refine .g e1 ?_;by_cases h64:64<at'+w1
   .rw[gD h64]at hr;subst hr;have d2:decide ((63:Int)<((at'+w1 - 1:Nat):Int))=true:=gX om;refine .g d2 ?_;refine .t (.f (λK k=>by simp(disch:=omega) only[go_sem,zdT,hz,<-hzc,hcz,hdz,zgq];exact k) ?_);refine .w (.tup [.agg (is z64),O J 3]) (nq2 @zdT (nq2 hz htz)) ?_;exact fail 2 a1 l
   rw[gC h64]at hr;have d2:decide ((63:Int)<((at'+w1 - 1:Nat):Int))=false:=gW om;refine .g d2 ?_;refine .us ?_;have ts:=zd6 i j v q n a1 (rrH H i j v n a1 z64 l) (zwS H i j v n a1 z64 l hi) (zwR H i j v n a1 z64 l hB hne) hne b1.2.2 hn hq;cases hw:tkS q n a1 with
   | er e2 a2=>
    rw[hw,Rr.bind_er]at hr;subst hr;rw[hw]at ts;have he:=(zft hw).2;simp only[rvS,Rr.at,zkm _ _ _ _ _ _ _ _ hi]at ts;have d0:((e2:Int)+1 !=0)=true:=by simp;omega
    refine .f (λK k=>by simp(disch:=omega) only[go_sem];refine VCx.call (ts) rfl ?_;simp(disch:=omega) only[go_sem];exact k) ?_;refine .g d0 ?_;refine .t (.f (λK k=>by simp(disch:=omega) only[go_sem,zdT,hz,<-hzc,hcz,hdz,zgq];exact k) ?_);refine .w (.tup [.agg (is z64),O J ((e2:Int)+1)]) (nq2 @zdT (nq2 hz htz)) ?_;exact fail e2 a2 l
   | ok w a2=>
    have b2:=zcS hw b1.2.2;rw[hw,Rr.bind_ok]at hr;rw[hw]at ts;simp only[rvS,Rr.at,zkm _ _ _ _ _ _ _ _ hi]at ts;refine .f (λK k=>by simp(disch:=omega) only[go_sem];refine VCx.call (ts) rfl ?_;simp(disch:=omega) only[go_sem];exact k) ?_;refine .e (.us ?_);by_cases hw0:w=0
    .rw[gD hw0]at hr;subst hr;have d3:(w==0)=true:=by simp[hw0]
     refine .g d3 ?_;refine .t (.f (λK k=>by simp(disch:=omega) only[go_sem,zdT,hz,<-hzc,hcz,hdz,zgq];exact k) ?_);refine .w (.tup [.agg (is z64),O J 3]) (nq2 @zdT (nq2 hz htz)) ?_;exact fail 2 a2 l
    .rw[gC hw0]at hr;have d3:(w==0)=false:=by simp[hw0]
     have alw:=λK=>al w K;cases hwn:win w 4095 with
     | false=>
      rw[hwn,gD rfl]at hr;rw[hwn]at alw;subst hr;refine .x λK hK=> ?_;simp(disch:=omega) only[go_sem,d3];refine VCx.call (alw _) rfl ?_;simp(disch:=omega) only[go_sem];refine hK _ _ ?_;clear hK K;refine .t (.f (λK k=>by simp(disch:=omega) only[go_sem,zdT,hz,<-hzc,hcz,hdz,zgq];exact k) ?_);refine .w (.tup [.agg (is z64),O J 3]) (nq2 @zdT (nq2 hz htz)) ?_;exact fail 2 a2 l
     | true=>rw[hwn,gC (by decide)]at hr;rw[hwn]at alw;refine .x λK hK=> ?_;simp(disch:=omega) only[go_sem,d3];refine VCx.call (alw _) rfl ?_;simp(disch:=omega) only[go_sem];refine hK _ _ ?_;clear hK K;refine .us (.g (nq2 @zwT (nq2 hil (nq2 @zaB @zx7))) ?_);refine .e ?_;exact .a (ih (at'+w1) a2 _ om om b2.2.2 (by rw[gS,hll]) hr) (by simp[kp,slot,Nat.beq];omega) rfl
end Sc
end Go.Proofs.YtleejngibkbjnaaGreatDoor
